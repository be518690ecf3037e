/-
  Plain: reductions of hypergraphs,elimination orders without fill,simplicial vertices outside a clique,chordless paths.
  Plain: a graph has an elimination order without fill that ends with the free vertices exactly if it is acyclic,has no free path and no disruptive trio.
-/
import Derived.Test.YtpiobdofbhkmjaaDoorL43
set_option linter.unusedSimpArgs false
set_option linter.unusedVariables false
set_option linter.unusedSectionVars false
namespace Go.Clo
variable {L M:List Nat} {a b e f u v x y z:Nat}
def V7 (es:List Nat) (a b:Nat):Prop:=a≠b/\∃ e ∈ es,e.testBit a=true/\e.testBit b=true
theorem V7.symm {es:List Nat} {a b:Nat} (h:V7 es a b):V7 es b a:=⟨h.1.symm,by obtain⟨e,h1,h2,h3⟩:=h.2;exact⟨e,h1,h3,h2⟩⟩
def J19 (es:List Nat) (v:Nat):Prop:=∃ e ∈ es,e.testBit v=true
theorem V7.cov {es:List Nat} (h:V7 es a b):J19 es a:=by obtain⟨e,h1,h2,h3⟩:=h.2;exact⟨e,h1,h2⟩
def PEl (es:List Nat):List Nat->Prop
 | []=>True
 | v :: r=>(J19 es v->∃ e ∈ es,e.testBit v=true/\∀ w ∈ r,V7 es v w->e.testBit w=true)/\PEl es r
def PE (es:List Nat):Prop:=∃ l:List Nat,(∀ v,J19 es v->v ∈ l)/\PEl es l
theorem PEl.filter {es:List Nat} (p:Nat->Bool):∀ {l:List Nat},PEl es l->PEl es (l.filter p)
 | [],_=>trivial
 | v :: r,h=>by
  rw[List.filter_cons]
  split
  .refine⟨fun hc => ?_,PEl.filter p h.2⟩
   obtain⟨e,h1,h2,h3⟩:=h.1 hc
   exact⟨e,h1,h2,fun w hw ha=>h3 w (List.mem_filter.1 hw).1 ha⟩
  .exact PEl.filter p h.2
theorem PEl.at {es:List Nat}:∀ {p1 p2:List Nat} {v:Nat},PEl es (p1++v :: p2)->J19 es v->∃ e ∈ es,e.testBit v=true/\∀ w ∈ p2,V7 es v w->e.testBit w=true
 | [],_,_,h,hc=>h.1 hc
 | _ :: p1,_,_,h,hc=>PEl.at (p1:=p1) h.2 hc
theorem PEl.of_at {es:List Nat}:∀ {l:List Nat},(∀ p1 v p2,l=p1++v :: p2->J19 es v->∃ e ∈ es,e.testBit v=true/\∀ w ∈ p2,V7 es v w->e.testBit w=true)->PEl es l
 | [],_=>trivial
 | v :: r,h=>⟨h [] v r rfl,PEl.of_at fun p1 u p2 e=>h (v :: p1) u p2 (by rw[e];rfl)⟩
def Dom (L M:List Nat):Prop:=∀ z ∈ L,∃ y ∈ M,∀ w,z.testBit w=true->y.testBit w=true
theorem Dom.cov (h:Dom L M) (hv:J19 L v):J19 M v:=by
 obtain⟨z,h1,h2⟩:=hv
 obtain⟨y,h3,h4⟩:=h z h1
 exact⟨y,h3,h4 v h2⟩
theorem Dom.adj (h:Dom L M) (hv:V7 L a b):V7 M a b:=by
 obtain⟨hne,z,h1,h2,h2'⟩:=hv
 obtain⟨y,h3,h4⟩:=h z h1
 exact⟨hne,y,h3,h4 a h2,h4 b h2'⟩
theorem Dom.pel {L M:List Nat} (h:Dom L M) (h':Dom M L):∀ {l:List Nat},PEl L l->PEl M l
 | [],_=>trivial
 | v :: r,g=>by
  refine⟨fun hc => ?_,Dom.pel h h' g.2⟩
  obtain⟨e,h1,h2,h3⟩:=g.1 (h'.cov hc)
  obtain⟨y,h4,h5⟩:=h e h1
  exact⟨y,h4,h5 v h2,fun w hw ha=>h5 w (h3 w hw (h'.adj ha))⟩
theorem Dom.pe (h:Dom L M) (h':Dom M L) (g:PE L):PE M:=by
 obtain⟨l,h1,h2⟩:=g
 exact⟨l,fun v hv=>h1 v (h'.cov hv),h.pel h' h2⟩
theorem R74 (hne:e≠f) (hx:L[e]? = some x) (hy:L[f]? = some y) (hs:∀ w,x.testBit w=true->y.testBit w=true):Dom L (L.set e 0)/\Dom (L.set e 0) L:=by
 constructor
 .intro z hz
  obtain⟨i,hi⟩:=List.getElem?_of_mem hz
  by_cases hie:i=e
  .subst hie
   rw[hx] at hi;cases hi
   exact⟨y,List.mem_of_getElem? (i:=f) (by rw[List.getElem?_set_ne hne];exact hy),hs⟩
  .exact⟨z,List.mem_of_getElem? (i:=i) (by rw[List.getElem?_set_ne (fun e'=>hie e'.symm)];exact hi),fun _ h=>h⟩
 .intro z hz
  rcases List.mem_or_eq_of_mem_set hz with h | rfl
  .exact⟨z,h,fun _ h=>h⟩
  .exact⟨x,List.mem_of_getElem? hx,fun w hw=>by simp at hw⟩
theorem Z84 (hne:e≠f) (hx:L[e]? = some x) (hy:L[f]? = some y) (hs:∀ w,x.testBit w=true->y.testBit w=true):PE (L.set e 0)<->PE L:=by
 obtain⟨h1,h2⟩:=R74 hne hx hy hs
 exact⟨h2.pe h1,h1.pe h2⟩
section
variable {L:List Nat} {e x x' v:Nat} (hx:L[e]? = some x) (hv:x.testBit v=true) (hu:∀ (i z:Nat),L[i]? = some z->z.testBit v=true->i=e) (hx':∀ w,x'.testBit w=true<->x.testBit w=true/\w≠v)
include hx hv hu hx'
theorem V55 (hz:z ∈ L.set e x'):∃ y ∈ L,(∀ w,z.testBit w=true->y.testBit w=true/\w≠v):=by
 obtain⟨i,hi⟩:=List.getElem?_of_mem hz
 by_cases hie:i=e
 .subst hie
  rw[List.getElem?_set_self (by obtain⟨h,_⟩:=List.getElem?_eq_some_iff.1 hx;exact h)] at hi
  cases hi
  exact⟨x,List.mem_of_getElem? hx,fun w hw=>(hx' w).1 hw⟩
 .rw[List.getElem?_set_ne (fun e'=>hie e'.symm)] at hi
  exact⟨z,List.mem_of_getElem? hi,fun w hw=>⟨hw,fun e'=>hie (hu i z hi (e' ▸ hw))⟩⟩
theorem V56 (hz:z ∈ L):∃ y ∈ L.set e x',(∀ w,w≠v->z.testBit w=true->y.testBit w=true):=by
 obtain⟨i,hi⟩:=List.getElem?_of_mem hz
 by_cases hie:i=e
 .subst hie
  rw[hx] at hi;cases hi
  exact⟨x',List.mem_of_getElem? (i:=i) (List.getElem?_set_self (by obtain⟨h,_⟩:=List.getElem?_eq_some_iff.1 hx;exact h)),fun w hw h=>(hx' w).2 ⟨h,hw⟩⟩
 .exact⟨z,List.mem_of_getElem? (i:=i) (by rw[List.getElem?_set_ne (fun e'=>hie e'.symm)];exact hi),fun _ _ h=>h⟩
theorem W43:J19 (L.set e x') u<->J19 L u/\u≠v:=by
 constructor
 .rintro⟨z,h1,h2⟩
  obtain⟨y,h3,h4⟩:=V55 hx hv hu hx' h1
  exact⟨⟨y,h3,(h4 u h2).1⟩,(h4 u h2).2⟩
 .rintro⟨⟨z,h1,h2⟩,hne⟩
  obtain⟨y,h3,h4⟩:=V56 hx hv hu hx' h1
  exact⟨y,h3,h4 u hne h2⟩
theorem V69:V7 (L.set e x') a b<->V7 L a b/\a≠v/\b≠v:=by
 constructor
 .rintro⟨hne,z,h1,h2,h2'⟩
  obtain⟨y,h3,h4⟩:=V55 hx hv hu hx' h1
  exact⟨⟨hne,y,h3,(h4 a h2).1,(h4 b h2').1⟩,(h4 a h2).2,(h4 b h2').2⟩
 .rintro⟨⟨hne,z,h1,h2,h2'⟩,ha,hb⟩
  obtain⟨y,h3,h4⟩:=V56 hx hv hu hx' h1
  exact⟨hne,y,h3,h4 a ha h2,h4 b hb h2'⟩
theorem Q85 (hz:z ∈ L) (h:z.testBit v=true):z=x:=by
 obtain⟨i,hi⟩:=List.getElem?_of_mem hz
 have:=hu i z hi h
 subst this
 rw[hx] at hi;cases hi;rfl
theorem D82 {w:Nat} (h:V7 L v w):x.testBit w=true:=by
 obtain⟨_,z,h1,h2,h3⟩:=h
 rw[Q85 hx hv hu hx' h1 h2] at h3;exact h3
theorem N82:∀ {l:List Nat},PEl L l->PEl (L.set e x') l
 | [],_=>trivial
 | u :: r,g=>by
  refine⟨fun hc => ?_,N82 g.2⟩
  obtain⟨hc1,hne⟩:=(W43 hx hv hu hx').1 hc
  obtain⟨z,h1,h2,h3⟩:=g.1 hc1
  obtain⟨y,h4,h5⟩:=V56 hx hv hu hx' h1
  refine⟨y,h4,h5 u hne h2,fun w hw ha => ?_⟩
  obtain⟨a1,_,a3⟩:=(V69 hx hv hu hx').1 ha
  exact h5 w a3 (h3 w hw a1)
theorem R62:∀ {l:List Nat},v ∉ l->PEl (L.set e x') l->PEl L l
 | [],_,_=>trivial
 | u :: r,hl,g=>by
  have hu':u≠v:=fun e'=>hl (by simp[e'])
  have hr:v ∉ r:=fun h=>hl (by simp[h])
  refine⟨fun hc => ?_,R62 hr g.2⟩
  obtain⟨z,h1,h2,h3⟩:=g.1 ((W43 hx hv hu hx').2 ⟨hc,hu'⟩)
  obtain⟨y,h4,h5⟩:=V55 hx hv hu hx' h1
  exact⟨y,h4,(h5 u h2).1,fun w hw ha=>(h5 w (h3 w hw ((V69 hx hv hu hx').2 ⟨ha,hu',fun e'=>hr (e' ▸ hw)⟩))).1⟩
theorem B94:PE (L.set e x')<->PE L:=by
 constructor
 .rintro⟨l,h1,h2⟩
  refine⟨v :: l.filter fun u=>decide (u≠v),fun u hc => ?_,⟨fun _=>⟨x,List.mem_of_getElem? hx,hv,fun w _ ha=>D82 hx hv hu hx' ha⟩,R62 hx hv hu hx' (by simp) (h2.filter _)⟩⟩
  by_cases huv:u=v
  .simp[huv]
  .have:=h1 u ((W43 hx hv hu hx').2 ⟨hc,huv⟩)
   simp[huv,this]
 .rintro⟨l,h1,h2⟩
  exact⟨l,fun u hc=>h1 u ((W43 hx hv hu hx').1 hc).1,N82 hx hv hu hx' h2⟩
end
theorem R51 {L:List Nat} (hA:∀ i j x y:Nat,i≠j->L[i]? = some x->L[j]? = some y->x≠0->y≠0->¬ ∀ w,x.testBit w=true->y.testBit w=true)
  (hI:∀ i x v:Nat,L[i]? = some x->x.testBit v=true->∃ j y,j≠i/\L[j]? = some y/\y.testBit v=true):∀ {l:List Nat},(∀ v,J19 L v->v ∈ l)->PEl L l->∀ x ∈ L,x=0
 | [],h,_=>fun x hx=>by
  apply Nat.eq_of_testBit_eq
  intro w
  rw[Nat.zero_testBit]
  cases hw:x.testBit w with
  | false=>rfl
  | true=>exact absurd (h w ⟨x,hx,hw⟩) (by simp)
 | u :: r,h,g=>by
  by_cases hc:J19 L u
  .exfalso
   obtain⟨z,h1,h2,h3⟩:=g.1 hc
   obtain⟨i,hi⟩:=List.getElem?_of_mem h1
   obtain⟨j,y,hji,hj,hy⟩:=hI i z u hi h2
   refine hA j i y z hji hj hi (fun e=>by rw[e] at hy;simp at hy) (fun e=>by rw[e] at h2;simp at h2) fun w hw => ?_
   by_cases e:w=u
   .rw[e];exact h2
   .have ha:V7 L u w:=⟨fun e'=>e e'.symm,y,List.mem_of_getElem? hj,hy,hw⟩
    have hm:=h w ha.symm.cov
    rcases List.mem_cons.1 hm with h4 | h4
    .exact absurd h4 e
    .exact h3 w h4 ha
  .refine R51 hA hI (fun v hv => ?_) g.2
   rcases List.mem_cons.1 (h v hv) with h4 | h4
   .subst h4;exact absurd hv hc
   .exact h4
theorem K91 {L:List Nat} (h:∀ x ∈ L,x=0):PE L:=⟨[],fun v ⟨e,h1,h2⟩=>by rw[h e h1] at h2;simp at h2,trivial⟩
theorem C56 {es:List Nat}:∀ {l:List Nat},PEl es l->∀ {Q:Nat->Prop},(∀ q,Q q->q ∈ l)->(∃ q,Q q)->(∀ q,Q q->J19 es q)->(∀ a b,Q a->Q b->a≠b->V7 es a b)->∃ e ∈ es,∀ q,Q q->e.testBit q=true
 | [],_,Q,h1,⟨q,hq⟩,_,_=>absurd (h1 q hq) (by simp)
 | v :: r,g,Q,h1,hx,hc,h2=>by
  by_cases hv:Q v
  .obtain⟨e,g1,g2,g3⟩:=g.1 (hc v hv)
   refine⟨e,g1,fun q hq => ?_⟩
   by_cases e':q=v
   .rw[e'];exact g2
   .rcases List.mem_cons.1 (h1 q hq) with h4 | h4
    .exact absurd h4 e'
    .exact g3 q h4 (h2 v q hv hq (fun e=>e' e.symm))
  .refine C56 g.2 (fun q hq => ?_) hx hc h2
   rcases List.mem_cons.1 (h1 q hq) with h4 | h4
   .subst h4;exact absurd hq hv
   .exact h4
def Sim (A:Nat->Nat->Prop) (W:List Nat) (v:Nat):Prop:=∀ a ∈ W,∀ b ∈ W,a≠b->A v a->A v b->A a b
def PEO (A:Nat->Nat->Prop):List Nat->Prop
 | []=>True
 | v :: r=>Sim A r v/\PEO A r
theorem PEO.filter {A:Nat->Nat->Prop} (p:Nat->Bool):∀ {l:List Nat},PEO A l->PEO A (l.filter p)
 | [],_=>trivial
 | v :: r,h=>by
  rw[List.filter_cons]
  split
  .exact⟨fun a ha b hb=>h.1 a (List.mem_filter.1 ha).1 b (List.mem_filter.1 hb).1,PEO.filter p h.2⟩
  .exact PEO.filter p h.2
theorem PEl.peo {es:List Nat}:∀ {l:List Nat},PEl es l->PEO (V7 es) l
 | [],_=>trivial
 | v :: r,h=>⟨fun a ha b hb hne h1 h2=>by
   obtain⟨e,g1,g2,g3⟩:=h.1 h1.cov
   exact⟨hne,e,g1,g3 a ha h1,g3 b hb h2⟩,PEl.peo h.2⟩
theorem K60 {A:Nat->Nat->Prop} (hA:∀ a b,A a b->A b a) (hI:∀ a,¬ A a a) {u:Nat} {r:List Nat} (hs:Sim A r u) (ha:∀ y ∈ r,A u y\/y=u) (hv:v ∈ u :: r):Sim A (u :: r) v:=by
 have key:∀ y,y ∈ u :: r->y=u\/(A u y/\y ∈ r):=fun y hy=>by
  rcases List.mem_cons.1 hy with h | h
  .exact .inl h
  .rcases ha y h with h' | h'
   .exact .inr ⟨h',h⟩
   .exact .inl h'
 intro a ha' b hb' hne h1 h2
 rcases key a ha' with rfl | ⟨a1,a2⟩
 .rcases key b hb' with rfl | ⟨b1,b2⟩
  .exact absurd rfl hne
  .exact b1
 .rcases key b hb' with rfl | ⟨b1,b2⟩
  .exact hA _ _ a1
  .exact hs a a2 b b2 hne a1 b1
theorem X89 {A:Nat->Nat->Prop} (hA:∀ a b,A a b->A b a) (hI:∀ a,¬ A a a):∀ {l:List Nat},PEO A l->∀ {K:Nat->Prop},(∀ a b,K a->K b->a ∈ l->b ∈ l->a≠b->A a b)->(∃ x ∈ l,¬ K x)->∃ v ∈ l,¬ K v/\Sim A l v
 | [],_,_,_,⟨x,hx,_⟩=>absurd hx (by simp)
 | u :: r,h,K,hK,⟨x,hx,hxK⟩=>by
  have hsu:Sim A (u :: r) u:=fun a ha b hb hne h1 h2=>by
   rcases List.mem_cons.1 ha with rfl | ha
   .exact absurd h1 (hI _)
   rcases List.mem_cons.1 hb with rfl | hb
   .exact absurd h2 (hI _)
   exact h.1 a ha b hb hne h1 h2
  by_cases hu:K u
  .by_cases hr:∃ y ∈ r,¬ (A u y\/y=u)
   .obtain⟨v,h1,h2,h3⟩:=X89 hA hI h.2 (K:=fun y=>A u y\/y=u) (fun a b ha hb har hbr hne=>by
     rcases ha with ha | rfl
     .rcases hb with hb | rfl
      .exact h.1 a har b hbr hne ha hb
      .exact hA _ _ ha
     .rcases hb with hb | rfl
      .exact hb
      .exact absurd rfl hne) hr
    have h2':¬ A u v/\v≠u:=⟨fun e=>h2 (.inl e),fun e=>h2 (.inr e)⟩
    refine⟨v,by simp[h1],fun hv=>h2'.1 (hK u v hu hv (by simp) (by simp[h1]) (fun e=>h2'.2 e.symm)),fun a ha b hb hne ga gb => ?_⟩
    rcases List.mem_cons.1 ha with rfl | ha
    .exact absurd (hA _ _ ga) h2'.1
    rcases List.mem_cons.1 hb with rfl | hb
    .exact absurd (hA _ _ gb) h2'.1
    exact h3 a ha b hb hne ga gb
   .have hr':∀ y ∈ r,A u y\/y=u:=fun y hy=>Classical.byContradiction fun hn=>hr ⟨y,hy,hn⟩
    exact⟨x,hx,hxK,K60 hA hI h.1 hr' hx⟩
  .exact⟨u,by simp,hu,hsu⟩
end Go.Clo

namespace Go.Clo
variable {A:Nat->Nat->Prop} {P:Nat->Prop} {a b f n:Nat} {es l:List Nat}
structure IsW (A:Nat->Nat->Prop) (P:Nat->Prop) (a b:Nat) (l:List Nat):Prop where
 len:2<=l.length
 first:l[0]? = some a
 last:∀ (i:Nat),i+1=l.length->l[i]? = some b
 step:∀ (i x y:Nat),l[i]? = some x->l[i+1]? = some y->A x y
 inn:∀ (i x:Nat),l[i]? = some x->0<i->i+1<l.length->P x
theorem E9.walk (h:E9 A P a b):∃ l,IsW A P a b l:=by
 induction h with
 | @one u w h1=>
  refine⟨[u,w],by simp,rfl,fun i hi => ?_,fun i x y hx hy => ?_,fun i x hx h0 h1 => ?_⟩
  .have:i=1:=by simp at hi;omega
   subst this;rfl
  .rcases i with _ | i
   .simp at hx hy;subst hx;subst hy;exact h1
   .simp at hy
  .simp at h1;omega
 | @more u x w h1 h2 _ ih=>
  obtain⟨l,hl⟩:=ih
  have h3:=hl.len
  refine⟨u :: l,by simp;omega,rfl,fun i hi => ?_,fun i y z hy hz => ?_,fun i y hy h0 hi => ?_⟩
  .rcases i with _ | i
   .simp at hi;subst hi;simp at h3
   .rw[List.getElem?_cons_succ];exact hl.last i (by simpa using hi)
  .rcases i with _ | i
   .rw[List.getElem?_cons_succ,hl.first] at hz
    simp at hy;cases hz;subst hy;exact h1
   .rw[List.getElem?_cons_succ] at hy hz;exact hl.step i y z hy hz
  .rcases i with _ | i
   .omega
   .rw[List.getElem?_cons_succ] at hy
    rcases i with _ | i
    .rw[hl.first] at hy;cases hy;exact h2
    .exact hl.inn (i+1) y hy (by omega) (by simpa using hi)
theorem D70 {p:List Nat->Prop}:∀ (n:Nat) (l:List Nat),l.length<=n->p l->∃ l,p l/\∀ l',p l'->l.length<=l'.length
 | 0,l,h,hp=>⟨l,hp,fun l' _=>by omega⟩
 | n+1,l,h,hp=>by
  by_cases hx:∃ l',p l'/\l'.length<l.length
  .obtain⟨l',h1,h2⟩:=hx
   exact D70 n l' (by omega) h1
  .exact⟨l,hp,fun l' h'=>Classical.byContradiction fun hn=>hx ⟨l',h',by omega⟩⟩
theorem N91 {l:List Nat} {i k:Nat} (hi:i<l.length) (hk:i<k) (p:Nat):(l.take (i+1)++l.drop k)[p]? = if p<=i then l[p]? else l[k+(p-(i+1))]? := by
 have h1:(l.take (i+1)).length=i+1:=by rw[List.length_take];omega
 by_cases h:p<=i
 .rw[if_pos h,List.getElem?_append_left (by omega),List.getElem?_take,if_pos (by omega)]
 .rw[if_neg h,List.getElem?_append_right (by omega),h1,List.getElem?_drop]
theorem IsW.cut (h:IsW A P a b l) {i k:Nat} (hi:i<l.length) (hik:i+1<k) (hk:k<=l.length) (h1:∀ x y,l[i]? = some x->l[k]? = some y->A x y)
  (h2:k=l.length->l[i]? = some b) (h3:2<=i+1+(l.length-k)):IsW A P a b (l.take (i+1)++l.drop k):=by
 have hg:=N91 hi (show i<k by omega)
 have hlen:(l.take (i+1)++l.drop k).length=i+1+(l.length-k):=by rw[List.length_append,List.length_take,List.length_drop];omega
 refine⟨by omega,?_,fun p hp => ?_,fun p x y hx hy => ?_,fun p x hx h0 hp => ?_⟩
 .rw[hg,if_pos (Nat.zero_le _)];exact h.first
 .rw[hg]
  by_cases hpi:p<=i
  .rw[if_pos hpi]
   obtain rfl:p=i:=by omega
   exact h2 (by omega)
  .rw[if_neg hpi];exact h.last _ (by omega)
 .rw[hg] at hx hy
  by_cases hpi:p+1<=i
  .rw[if_pos (by omega)] at hx;rw[if_pos hpi] at hy;exact h.step p x y hx hy
  .rw[if_neg hpi] at hy
   by_cases hp2:p<=i
   .rw[if_pos hp2] at hx
    obtain rfl:p=i:=by omega
    exact h1 x y hx (by rw[show k+(p+1-(p+1))=k by omega] at hy;exact hy)
   .rw[if_neg hp2] at hx
    rw[show k+(p+1-(i+1))=k+(p-(i+1))+1 by omega] at hy
    exact h.step _ x y hx hy
 .rw[hg] at hx
  by_cases hpi:p<=i
  .rw[if_pos hpi] at hx;exact h.inn p x hx h0 (by omega)
  .rw[if_neg hpi] at hx;exact h.inn _ x hx (by omega) (by omega)
def ChP (A:Nat->Nat->Prop) (l:List Nat):Prop:=∀ (i j x y:Nat),i<j->l[i]? = some x->l[j]? = some y->x≠y/\(A x y<->i+1=j)
theorem E9.chordless (h:E9 A P a b) (hab:a≠b):∃ l,IsW A P a b l/\ChP A l:=by
 obtain⟨l0,h0⟩:=h.walk
 obtain⟨l,hl,hm⟩:=D70 l0.length l0 (Nat.le_refl _) h0
 refine⟨l,hl,fun i j x y hij hx hy => ?_⟩
 have hj:j<l.length:=(List.getElem?_eq_some_iff.1 hy).1
 have len2:=fun k (hk:k<=l.length) (hik:i+1<k)=>(show (l.take (i+1)++l.drop k).length=i+1+(l.length-k) by rw[List.length_append,List.length_take,List.length_drop];omega)
 constructor
 .rintro rfl
  have h3:2<=i+1+(l.length-(j+1)):=by
   by_cases hc:i=0/\j+1=l.length
   .obtain⟨rfl,h5⟩:=hc
    have e1:=hl.first;have e2:=hl.last j h5
    rw[hx] at e1;rw[hy] at e2
    cases e1;cases e2;exact absurd rfl hab
   .omega
  have:=hm _ (hl.cut (i:=i) (k:=j+1) (by omega) (by omega) (by omega) (fun x' y' e1 e2=>by
   rw[hx] at e1;cases e1
   exact hl.step j _ _ hy e2) (fun e=>by rw[hx,<- hy];exact hl.last j e) h3)
  rw[len2 _ (by omega) (by omega)] at this
  omega
 .constructor
  .intro hA
   refine Classical.byContradiction fun hne => ?_
   have:=hm _ (hl.cut (i:=i) (k:=j) (by omega) (by omega) (by omega) (fun x' y' e1 e2=>by
    rw[hx] at e1;cases e1
    rw[hy] at e2;cases e2
    exact hA) (fun e=>by omega) (by omega))
   rw[len2 _ (by omega) (by omega)] at this
   omega
  .rintro rfl
   exact hl.step i x y hx hy
structure M61 (A:Nat->Nat->Prop) (n f:Nat) (l:List Nat):Prop where
 len:3<=l.length
 ch:ChP A l
 lt:∀ (i x:Nat),l[i]? = some x->x<n
 ends:∀ (i x:Nat),l[i]? = some x->(x<f<->i=0\/i+1=l.length)
def FOk (A:Nat->Nat->Prop) (p:List Nat) (v:Nat):Prop:=∀ (i x:Nat),p[i]? = some x->x≠v/\(A x v<->i+1=p.length)
inductive Y27 (A:Nat->Nat->Prop) (n f:Nat):List Nat->Prop
 | last {p:List Nat} {v:Nat}:FOk A p v->v<n->v<f->1<p.length->Y27 A n f p
 | more {p:List Nat} {v:Nat}:FOk A p v->v<n->(p.length=0->v<f)->(p.length=1->f<=v)->¬ (1<p.length/\v<f)->Y27 A n f (p++[v])->Y27 A n f p
theorem C68 {A:Nat->Nat->Prop} {n f:Nat} {l:List Nat} (h:M61 A n f l):∀ d i,i+d+1=l.length->Y27 A n f (l.take i)
 | d,i,hi=>by
  have h3:=h.len
  obtain⟨v,hv⟩:∃ v,l[i]? = some v:=⟨_,List.getElem?_eq_getElem (by omega)⟩
  have hlen:(l.take i).length=i:=by rw[List.length_take];omega
  have hok:FOk A (l.take i) v:=fun q x hx=>by
   rw[List.getElem?_take] at hx
   split at hx
   .rename_i hq
    rw[hlen]
    exact h.ch q i x v hq hx hv
   .cases hx
  have he:=h.ends i v hv
  cases d with
  | zero=>exact .last hok (h.lt i v hv) (he.2 (.inr (by omega))) (by omega)
  | succ d=>
   refine .more hok (h.lt i v hv) (fun e=>he.2 (.inl (by omega))) (fun e => ?_) (fun⟨e1,e2⟩ => ?_) ?_
   .have:¬ v<f:=fun e'=>by have:=he.1 e';omega
    omega
   .have:=he.1 e2;omega
   .have e:l.take i++[v]=l.take (i+1):=by rw[List.take_add_one,hv];rfl
    rw[e]
    exact C68 h d (i+1) (by omega)
theorem J93 {p:List Nat} (h:Y27 A n f p):ChP A p->(∀ (i x:Nat),p[i]? = some x->x<n/\(x<f<->i=0))->∃ l,M61 A n f l:=by
 have app:∀ (p:List Nat) (v i x:Nat),(p++[v])[i]? = some x->(i<p.length/\p[i]? = some x)\/(i=p.length/\x=v):=fun p v i x hx=>by
  by_cases hi:i<p.length
  .rw[List.getElem?_append_left hi] at hx;exact .inl ⟨hi,hx⟩
  .rw[List.getElem?_append_right (by omega)] at hx
   have:i=p.length:=by
    rcases Nat.lt_or_ge p.length i with h | h
    .rw[List.getElem?_eq_none (by simp;omega)] at hx;cases hx
    .omega
   subst this
   simp at hx
   exact .inr ⟨rfl,hx.symm⟩
 have chp:∀ {p:List Nat} {v:Nat},ChP A p->FOk A p v->ChP A (p++[v]):=fun {p v} hc hok i j x y hij hx hy=>by
  rcases app p v j y hy with ⟨h1,h2⟩ | ⟨rfl,rfl⟩
  .rcases app p v i x hx with ⟨h3,h4⟩ | ⟨rfl,rfl⟩
   .exact hc i j x y hij h4 h2
   .omega
  .rcases app p _ i x hx with ⟨h3,h4⟩ | ⟨h3,_⟩
   .exact hok i x h4
   .omega
 induction h with
 | @last p v hok hn hf hl=>
  intro hc hp
  refine⟨p++[v],by simp;omega,chp hc hok,fun i x hx => ?_,fun i x hx => ?_⟩
  .rcases app p v i x hx with ⟨h1,h2⟩ | ⟨_,rfl⟩
   .exact (hp i x h2).1
   .exact hn
  .rw[List.length_append,List.length_singleton]
   rcases app p v i x hx with ⟨h1,h2⟩ | ⟨rfl,rfl⟩
   .rw[(hp i x h2).2];omega
   .exact⟨fun _ => .inr rfl,fun _=>hf⟩
 | @more p v hok hn h0 h1 h2 _ ih=>
  intro hc hp
  refine ih (chp hc hok) fun i x hx => ?_
  rcases app p v i x hx with ⟨h1,h2⟩ | ⟨rfl,rfl⟩
  .exact hp i x h2
  .exact⟨hn,by omega⟩
theorem Z67:Y27 A n f []<->∃ l,M61 A n f l:=by
 constructor
 .exact fun h=>J93 h (fun i j x y _ hx _=>by simp at hx) (fun i x hx=>by simp at hx)
 .rintro⟨l,h⟩
  have h3:=h.len
  exact C68 h (l.length-1) 0 (by omega)
theorem J71 {es:List Nat} {n f:Nat} {fr l:List Nat} (hfr:∀ x ∈ fr,x<f) (h:M61 (V7 es) n f l):∀ {q:List Nat},(∀ x ∈ q,f<=x)->PEl es (q++fr)->(∀ x ∈ l,x ∈ q++fr)->False
 | [],_,_,hm=>by
  have h3:=h.len
  have h1:l[1]? = some l[1]:=List.getElem?_eq_getElem (by omega)
  have:=(h.ends 1 _ h1).1 (hfr _ (hm _ (List.mem_of_getElem? h1)))
  omega
 | v :: q,hq,g,hm=>by
  have h3:=h.len
  by_cases hv:v ∈ l
  .obtain⟨i,hi⟩:=List.getElem?_of_mem hv
   have hil:=(List.getElem?_eq_some_iff.1 hi).1
   have hn:¬ (i=0\/i+1=l.length):=fun e=>by
    have:=(h.ends i v hi).2 e
    have:=hq v (by simp)
    omega
   obtain⟨a,ha⟩:∃ a,l[i-1]? = some a:=⟨_,List.getElem?_eq_getElem (by omega)⟩
   obtain⟨b,hb⟩:∃ b,l[i+1]? = some b:=⟨_,List.getElem?_eq_getElem (by omega)⟩
   have a1:=h.ch (i-1) i a v (by omega) ha hi
   have b1:=h.ch i (i+1) v b (by omega) hi hb
   have c1:=h.ch (i-1) (i+1) a b (by omega) ha hb
   have hva:=(a1.2.2 (by omega)).symm
   have hvb:=b1.2.2 rfl
   obtain⟨e,e1,e2,e3⟩:=g.1 hva.cov
   have rest:∀ x,x ∈ l->x≠v->x ∈ q++fr:=fun x hx hne=>by
    rcases List.mem_cons.1 (hm x hx) with h4 | h4
    .exact absurd h4 hne
    .exact h4
   have:=c1.2.1 ⟨c1.1,e,e1,e3 a (rest a (List.mem_of_getElem? ha) a1.1) hva,e3 b (rest b (List.mem_of_getElem? hb) b1.1.symm) hvb⟩
   omega
  .refine J71 hfr h (fun x hx=>hq x (by simp[hx])) g.2 fun x hx => ?_
   rcases List.mem_cons.1 (hm x hx) with h4 | h4
   .subst h4;exact absurd hx hv
   .exact h4
open Classical in
theorem C66 (hA:∀ a b,A a b->A b a) (hI:∀ a,¬ A a a) {W:List Nat} (hl:PEO A l) (hW:∀ w ∈ W,w ∈ l) {S:Nat->Prop}
  (hno:∀ a b,a ∈ W->b ∈ W->S a->S b->a≠b->E9 A (fun z=>z ∈ W/\¬ S z) a b->A a b) {x:Nat} (hx:x ∈ W) (hxS:¬ S x):∃ v ∈ W,¬ S v/\Sim A W v:=by
 obtain⟨P,hP⟩:∃ P:Nat->Prop,P=fun z=>z ∈ W/\¬ S z:=⟨_,rfl⟩
 obtain⟨C,hC⟩:∃ C:Nat->Prop,C=fun y=>P y/\(y=x\/E9 A P x y):=⟨_,rfl⟩
 obtain⟨K,hK⟩:∃ K:Nat->Prop,K=fun y=>y ∈ W/\S y/\∃ c,C c/\A c y:=⟨_,rfl⟩
 have hPx:P x:=by rw[hP];exact⟨hx,hxS⟩
 have reach:∀ c y,C c->A c y->E9 A P x y:=fun c y hc ha=>by
  rw[hC] at hc
  rcases hc.2 with e | h
  .rw[<- e];exact .one ha
  .exact h.trans hc.1 (.one ha)
 have hCP:∀ y,C y->y ∈ W/\¬ S y:=fun y h=>by rw[hC,hP] at h;exact h.1
 obtain⟨v,h1,h2,h3⟩:=X89 hA hI (hl.filter fun y=>decide (C y\/K y)) (K:=K) (fun a b ka kb _ _ hne=>by
  rw[hK] at ka kb
  obtain⟨a1,a2,c,a3,a4⟩:=ka
  obtain⟨b1,b2,d,b3,b4⟩:=kb
  refine hno a b a1 b1 a2 b2 hne ?_
  rw[<- hP]
  exact E9.join hA (fun _ h=>h) hPx (reach c a a3 a4) (reach d b b3 b4)) ⟨x,List.mem_filter.2 ⟨hW x hx,decide_eq_true (.inl (by rw[hC];exact⟨hPx,.inl rfl⟩))⟩,fun h=>by rw[hK] at h;exact hxS h.2.1⟩
 have hCv:C v:=by
  rcases of_decide_eq_true (List.mem_filter.1 h1).2 with h | h
  .exact h
  .exact absurd h h2
 have hm:∀ a,a ∈ W->A v a->a ∈ l.filter fun y=>decide (C y\/K y):=fun a ha hva=>by
  refine List.mem_filter.2 ⟨hW a ha,decide_eq_true ?_⟩
  by_cases hs:S a
  .exact .inr (by rw[hK];exact⟨ha,hs,v,hCv,hva⟩)
  .exact .inl (by rw[hC];exact⟨by rw[hP];exact⟨ha,hs⟩,.inr (reach v a hCv hva)⟩)
 exact⟨v,(hCP v hCv).1,(hCP v hCv).2,fun a ha b hb hne ga gb=>h3 a (hm a ha ga) b (hm b hb gb) hne ga gb⟩
theorem J46 {A:Nat->Nat->Prop} (hA:∀ a b,A a b->A b a) (hI:∀ a,¬ A a a) {l:List Nat} (hl:PEO A l) {f n:Nat} (hf:f<=n) (hall:∀ v,v<n->v ∈ l)
  (hno:∀ a b,a<f->b<f->a≠b->E9 A (fun z=>z<n/\f<=z) a b->A a b):∀ (k:Nat) (R:List Nat),R.length=k->R.Nodup->(∀ x ∈ R,f<=x/\x<n) ->
  ∃ q:List Nat,q.Nodup/\(∀ x,x ∈ q<->x ∈ R)/\∀ p1 v p2,q=p1++v :: p2->∀ a b,(a ∈ p2\/a<f)->(b ∈ p2\/b<f)->a≠b->A v a->A v b->A a b
 | 0,R,hk,_,_=>⟨[],List.nodup_nil,fun x=>by rw[List.length_eq_zero_iff.1 hk],fun p1 v p2 e=>by simp at e⟩
 | k+1,R,hk,hnd,hR=>by
  obtain⟨x,hx⟩:∃ x,x ∈ R:=by
   cases R with
   | nil=>simp at hk
   | cons x _=>exact⟨x,by simp⟩
  have hx':=hR x hx
  obtain⟨v,h1,h2,h3⟩:=C66 hA hI (W:=R++List.range f) hl (fun w hw=>by
   rcases List.mem_append.1 hw with h | h
   .exact hall w (hR w h).2
   .have:=List.mem_range.1 h;exact hall w (by omega)) (S:=fun y=>y<f) (fun a b _ _ sa sb hne r=>hno a b sa sb hne (r.mono fun z hz=>by
    rcases List.mem_append.1 hz.1 with h | h
    .exact⟨(hR z h).2,(hR z h).1⟩
    .exact absurd (List.mem_range.1 h) hz.2)) (x:=x) (List.mem_append_left _ hx) (by omega)
  have hv:v ∈ R:=by
   rcases List.mem_append.1 h1 with h | h
   .exact h
   .exact absurd (List.mem_range.1 h) h2
  obtain⟨q,q1,q2,q3⟩:=J46 hA hI hl hf hall hno k (R.erase v) (by rw[List.length_erase_of_mem hv];omega) (hnd.erase v) (fun y hy=>hR y (List.mem_of_mem_erase hy))
  have hq:∀ y,y ∈ q<->y≠v/\y ∈ R:=fun y=>by rw[q2,hnd.mem_erase_iff]
  refine⟨v :: q,List.nodup_cons.2 ⟨fun h=>((hq v).1 h).1 rfl,q1⟩,fun y => ?_,fun p1 u p2 e a b ha hb hne ga gb => ?_⟩
  .rw[List.mem_cons,hq]
   constructor
   .rintro (rfl | h)
    .exact hv
    .exact h.2
   .intro h
    by_cases e:y=v
    .exact .inl e
    .exact .inr ⟨e,h⟩
  .cases p1 with
   | nil=>
    simp at e
    obtain⟨rfl,rfl⟩:=e
    have hm:∀ y,(y ∈ q\/y<f)->y ∈ R++List.range f:=fun y hy=>by
     rcases hy with h | h
     .exact List.mem_append_left _ ((hq y).1 h).2
     .exact List.mem_append_right _ (List.mem_range.2 h)
    exact h3 a (hm a ha) b (hm b hb) hne ga gb
   | cons w p1=>
    rw[List.cons_append] at e
    injection e with e1 e2
    exact q3 p1 u p2 e2 a b ha hb hne ga gb
def dnL:Nat->List Nat
 | 0=>[]
 | k+1=>k :: dnL k
theorem Y18 {x:Nat}:∀ {k:Nat},x ∈ dnL k<->x<k
 | 0=>by simp[dnL]
 | k+1=>by rw[dnL,List.mem_cons,Y18];omega
theorem X81 {c:Nat}:∀ {k:Nat},c<k->∃ p1,dnL k=p1++c :: dnL c
 | 0,h=>by omega
 | k+1,h=>by
  by_cases e:c=k
  .subst e;exact⟨[],rfl⟩
  .obtain⟨p1,h1⟩:=X81 (k:=k) (c:=c) (by omega)
   exact⟨k :: p1,by rw[dnL,h1];rfl⟩
def D43 (es:List Nat) (f:Nat):Prop:=∃ a b c,a<b/\b<c/\c<f/\V7 es a c/\V7 es b c/\¬ V7 es a b
theorem K45 {es:List Nat} (hl:PEl es l) (hall:∀ v,J19 es v->v ∈ l) {v:Nat} {T:Nat->Prop} (hc:J19 es v) (h:∀ a b,T a->T b->a≠b->V7 es v a->V7 es v b->V7 es a b):∃ e ∈ es,e.testBit v=true/\∀ w,T w->V7 es v w->e.testBit w=true:=by
 have hcv:∀ q,(q=v\/(T q/\V7 es v q))->J19 es q:=fun q hq=>by
  rcases hq with rfl | ⟨_,hq⟩
  .exact hc
  .exact hq.symm.cov
 obtain⟨e,h1,h2⟩:=C56 hl (Q:=fun q=>q=v\/(T q/\V7 es v q)) (fun q hq=>hall q (hcv q hq)) ⟨v,.inl rfl⟩ hcv (fun a b ha hb hne=>by
  rcases ha with rfl | ⟨a1,a2⟩
  .rcases hb with rfl | ⟨b1,b2⟩
   .exact absurd rfl hne
   .exact b2
  .rcases hb with rfl | ⟨b1,b2⟩
   .exact a2.symm
   .exact h a b a1 b1 hne a2 b2)
 exact⟨e,h1,h2 v (.inl rfl),fun w hw ha=>h2 w (.inr ⟨hw,ha⟩)⟩
theorem W54 {es fr:List Nat} (hfr:PEl es fr):∀ {q:List Nat},(∀ p1 v p2,q=p1++v :: p2->J19 es v->∃ e ∈ es,e.testBit v=true/\∀ w ∈ p2++fr,V7 es v w->e.testBit w=true)->PEl es (q++fr)
 | [],_=>hfr
 | v :: q,h=>⟨h [] v q rfl,W54 hfr fun p1 u p2 e=>h (v :: p1) u p2 (by rw[e];rfl)⟩
theorem V68 (hf:f<=n) (hcov:∀ v,J19 es v<->v<n):
  (∃ q:List Nat,q.Nodup/\(∀ v,v ∈ q<->f<=v/\v<n)/\PEl es (q++dnL f))<->PE es/\¬ Y27 (V7 es) n f []/\¬ D43 es f:=by
 constructor
 .rintro⟨q,q1,q2,q3⟩
  have hall:∀ v,v<n->v ∈ q++dnL f:=fun v hv=>by
   rw[List.mem_append,q2,Y18];omega
  refine⟨⟨_,fun v hv=>hall v ((hcov v).1 hv),q3⟩,fun h => ?_,?_⟩
  .obtain⟨l,hl⟩:=Z67.1 h
   exact J71 (fun x hx=>Y18.1 hx) hl (fun x hx=>((q2 x).1 hx).1) q3 fun x hx=>by
    obtain⟨i,hi⟩:=List.getElem?_of_mem hx
    exact hall x (hl.lt i x hi)
  .rintro⟨a,b,c,h1,h2,h3,h4,h5,h6⟩
   obtain⟨p1,e⟩:=X81 h3
   rw[e,<- List.append_assoc] at q3
   obtain⟨e,e1,e2,e3⟩:=q3.at h4.symm.cov
   exact h6 ⟨by omega,e,e1,e3 a (Y18.2 (by omega)) h4.symm,e3 b (Y18.2 (by omega)) h5.symm⟩
 .rintro⟨⟨l,hl,hp⟩,hpath,htrio⟩
  have hA:∀ a b,V7 es a b->V7 es b a:=fun a b h=>h.symm
  have hI:∀ a,¬ V7 es a a:=fun a h=>h.1 rfl
  have hall:∀ v,v<n->v ∈ l:=fun v hv=>hl v ((hcov v).2 hv)
  have hno:∀ a b,a<f->b<f->a≠b->E9 (V7 es) (fun z=>z<n/\f<=z) a b->V7 es a b:=fun a b ha hb hne r=>by
   refine Classical.byContradiction fun hn=>hpath (Z67.2 ?_)
   obtain⟨l,hl,hc⟩:=r.chordless hne
   have h2:=hl.len
   have h3:3<=l.length:=by
    refine Classical.byContradiction fun h=>hn ?_
    exact hl.step 0 a b hl.first (hl.last 1 (by omega))
   have inner:∀ i x,l[i]? = some x->(i=0/\x=a)\/(i+1=l.length/\x=b)\/(¬ (i=0\/i+1=l.length)/\x<n/\f<=x):=fun i x hx=>by
    have hil:=(List.getElem?_eq_some_iff.1 hx).1
    by_cases e0:i=0
    .subst e0
     have:=hl.first
     rw[hx] at this;cases this;exact .inl ⟨rfl,rfl⟩
    by_cases e1:i+1=l.length
    .have:=hl.last i e1
     rw[hx] at this;cases this;exact .inr (.inl ⟨e1,rfl⟩)
    .exact .inr (.inr ⟨by omega,hl.inn i x hx (by omega) (by omega)⟩)
   refine⟨l,h3,hc,fun i x hx => ?_,fun i x hx => ?_⟩
   .rcases inner i x hx with ⟨_,rfl⟩ | ⟨_,rfl⟩ | ⟨_,h,_⟩<;>omega
   .rcases inner i x hx with ⟨_,rfl⟩ | ⟨_,rfl⟩ | ⟨h,h',_⟩<;>omega
  obtain⟨q,q1,q2,q3⟩:=J46 hA hI hp.peo hf hall hno _ ((List.range n).filter fun v=>decide (f<=v)) rfl (List.nodup_range.filter _) (fun x hx=>by simp at hx;omega)
  refine⟨q,q1,fun v=>by rw[q2];simp;omega,W54 ?_ fun p1 v p2 e hc => ?_⟩
  .have key:∀ k,k<=f->PEl es (dnL k):=fun k=>by
    induction k with
    | zero=>exact fun _=>trivial
    | succ k ih=>
     intro hk
     refine⟨fun hc => ?_,ih (by omega)⟩
     obtain⟨e,e1,e2,e3⟩:=K45 hp hl (T:=fun w=>w<k) hc fun a b ha hb hne ga gb=>by
      refine Classical.byContradiction fun hn=>htrio ?_
      rcases Nat.lt_or_gt_of_ne hne with h | h
      .exact⟨a,b,k,h,hb,by omega,ga.symm,gb.symm,hn⟩
      .exact⟨b,a,k,h,ha,by omega,gb.symm,ga.symm,fun h=>hn h.symm⟩
     exact⟨e,e1,e2,fun w hw ha=>e3 w (Y18.1 hw) ha⟩
   exact key f (Nat.le_refl _)
  .obtain⟨e',e1,e2,e3⟩:=K45 hp hl (T:=fun w=>w ∈ p2\/w<f) hc fun a b ha hb hne ga gb=>q3 p1 v p2 e a b ha hb hne ga gb
   exact⟨e',e1,e2,fun w hw ha=>e3 w (by rw[List.mem_append,Y18] at hw;exact hw) ha⟩
end Go.Clo
