/-
  Plain: bags of an elimination by reachability.
  Plain: the value of a packing problem: at least 1,at most 1 if one set holds everything,and exactly 1 only then.
  Plain: least widths as orders;the bag of a solver by reachability.
  Plain: Best's permutation is the first one of least width.
  Plain: the run of first is the greedy choice;components of the variables that are not free.
  Plain: ██ Best returns the first permutation of least width. ██
  Plain: ██ Best's answer: the first permutation of least width. ██
-/
import Derived.Test.YtoiioigihocgbaaGreatDoorD14
import Derived.Test.YtoiioigihocgbaaGreatDoorD15
import Derived.Test.YtoiioigihocgbaaGreatDoorD9
set_option maxHeartbeats 8000000
set_option maxRecDepth 100000
set_option linter.all false
noncomputable section
open Bool renaming and_eq_true->aG,eq_iff_iff->eX,not_eq_true'->cJ,or_eq_true->cO
open Classical renaming byContradiction->aI
open List renaming any_eq_true->dY,ext_getElem?->dH,foldl_cons->dF,getD_eq_getElem?_getD->aP,getElem?_eq_getElem->aE,getElem?_eq_some_iff->aJ,getElem?_map->cP,getElem?_set->cQ,getElem?_take->aX,getElem_of_mem->gL,length_eq_zero_iff->dT,length_map->gM,length_set->dO,length_take->cK,mem_append->dN,mem_cons->aU,mem_filter->dA,mem_map->gN,mem_of_getElem?->aH,mem_range->cW,pairwise_iff_getElem->fD,range->aY,replicate->aF,take_of_length_le->gJ
open Nat renaming eq_of_testBit_eq->bZ,le_of_lt->eG,le_refl->aD,pow_le_pow_right->aK,testBit_and->bI,testBit_or->aV,testBit_two_pow->aR,two_pow_pos->aQ
open Ne renaming symm->eT
open Rat renaming mul_nonneg->fY
namespace Go.Proofs.YtoiioigihocgbaaGreatDoor
open Go.Clo
section
variable {N v:Nat} {es:List Nat}
def C73(es:List Nat)(a b:Nat):Prop:=adj es a b=true
theorem E91(es:List Nat):∀ a b,C73 es a b->C73 es b a:=fun a b h=>by unfold C73 at *;rw[Z43];exact h
def D82(es:List Nat)(pre rest:List Nat)(N:Nb):Prop:=∀ a b,a ∈ rest->b ∈ rest->a≠b->(N a b=true<->V9 (C73 es) (· ∈ pre) a b)
theorem D82.start(es:List Nat)(rest:List Nat):D82 es [] rest (adj es):=fun a b _ _ _=>by
 constructor
 .exact fun h => .one h
 .intro h
  cases h with
  | one h=>exact h
  | more _ h _=>simp at h
theorem D82.step{pre rest:List Nat}{v:Nat}{N:Nb}(h:D82 es pre (v :: rest) N)(hv:v ∉ rest):D82 es (pre++[v]) rest (U9 N v rest):=by
 intro a b ha hb E;have J:v≠a:=fun e=>hv (e ▸ ha)
 have O:v≠b:=fun e=>hv (e ▸ hb)
 have h1:=h a b (by simp[ha]) (by simp[hb]) E;have h2:=h v a (by simp) (by simp[ha]) J;have h3:=h v b (by simp) (by simp[hb]) O;have e:U9 N v rest a b=true<->N a b=true\/(N v a=true/\N v b=true):=by
  simp[U9,K9,ha,hb,E]
 rw[e,h1,h2,h3]
 constructor
 .rintro (g | ⟨g1,g2⟩)
  .exact g.mono fun x hx=>by simp[hx]
  .exact V9.join (E91 es) (fun x hx=>by simp[hx]) (by simp) g1 g2
 .intro g
  rcases g.split (P:=(· ∈ pre)) (v:=v) (fun x hx=>by simpa using hx) with g | ⟨g1,g2⟩
  .exact .inl g
  .exact .inr ⟨g1.symm (E91 es),g2⟩
theorem C94{n:Nat}(es:List Nat):∀(E pre:List Nat) (out:List Bag) (N:Nb),D82 es pre E N->E.Nodup->∀(p1 p2:List Nat) (v:Nat),E=p1++v :: p2->v<out.length ->
  ∃(b:Bag),(Y72 n out N E)[v]? = some b/\b.var=v/\∀ w,b.key.testBit w=true<->w<n/\w ∈ p2/\V9 (C73 es) (fun x=>x ∈ pre\/x ∈ p1) v w
 | [],pre,out,N,hA,hnd,p1,p2,v,e,hv=>by simp at e
 | u :: rest,pre,out,N,hA,hnd,p1,p2,v,e,hv=>by
  rw[List.nodup_cons] at hnd
  cases p1 with
  | nil=>
   simp at e;obtain⟨rfl,rfl⟩:=e;have J:∀(o:List Nat) (out:List Bag) (N:Nb),u ∉ o->(Y72 n out N o)[u]? = out[u]? := by
    intro o
    induction o with
    | nil=>exact fun _ _ _=>rfl
    | cons x o ih=>
     intro out N hx;simp at hx;show(Y72 n (out.set x _) _ o)[u]? = _;rw[ih _ _ hx.2,cQ,if_neg (eT hx.1)]
   refine⟨J82 n N u rest,?_,rfl,fun w => ?_⟩
   .show(Y72 n (out.set u (J82 n N u rest)) _ rest)[u]? = _
    rw[J _ _ _ hnd.1,cQ,if_pos rfl,if_pos hv]
   .show(Q1 (K9 N u rest) n).testBit w=true<->_
    rw[E26];simp only[K9,aG,decide_eq_true_eq]
    constructor
    .rintro⟨h1,h2,h3⟩
     refine⟨h1,h3,((hA u w (by simp) (by simp[h3]) (fun e=>hnd.1 (e ▸ h3))).1 h2).mono fun x hx => .inl hx⟩
    .rintro⟨h1,h2,h3⟩
     refine⟨h1,(hA u w (by simp) (by simp[h2]) (fun e=>hnd.1 (e ▸ h2))).2 (h3.mono fun x hx => ?_),h2⟩;rcases hx with hx | hx
     .exact hx
     .simp at hx
  | cons q p1=>
   simp at e;obtain⟨rfl,e⟩:=e;obtain⟨b,h1,h2,h3⟩:=C94 es rest (pre++[u]) (out.set u (J82 n N u rest)) (U9 N u rest) (hA.step hnd.1) hnd.2 p1 p2 v e (by rw[dO];exact hv);refine⟨b,h1,h2,fun w => ?_⟩;rw[h3 w]
   constructor
   .rintro⟨g1,g2,g3⟩
    refine⟨g1,g2,g3.mono fun x hx => ?_⟩;rcases hx with hx | hx
    .simp at hx
     rcases hx with hx | rfl
     .exact .inl hx
     .exact .inr (by simp)
    .exact .inr (by simp[hx])
   .rintro⟨g1,g2,g3⟩
    refine⟨g1,g2,g3.mono fun x hx => ?_⟩;rcases hx with hx | hx
    .exact .inl (by simp[hx])
    .simp at hx
     rcases hx with rfl | hx
     .exact .inl (by simp)
     .exact .inr hx
def RB(es:List Nat)(P:Nat->Prop)(v w:Nat):Prop:=w=v\/(¬ P w/\V9 (C73 es) P v w)
theorem J88{es:List Nat}(E:∀ e ∈ es,e<2^N){a b:Nat}(h:adj es a b=true):a<N/\b<N:=by
 unfold adj at h;simp only[aG,dY] at h;obtain⟨_,e,he,h1,h2⟩:=h;exact⟨R7 (E e he) h1,R7 (E e he) h2⟩
theorem J110{es:List Nat}(E:∀ e ∈ es,e<2^N){P:Nat->Prop}{u w:Nat}(h:V9 (C73 es) P u w):w<N:=by
 induction h with
 | one h=>exact(J88 E h).2
 | more _ _ _ ih=>exact ih
theorem J83{es:List Nat}{n f:Nat}{l:List Int}(hn:n<=32)(Q:∀ e ∈ es,e<2^n)(hp:V72 l f n){p1 p2:List Nat}(e:Z85 n f l=p1++v :: p2):
  ∃ b,(B50 es n f l)[v]? = some b/\∀ w,(Y34 b).testBit w=true<->RB es (· ∈ p1) v w:=by
 obtain⟨J,h1,h2,h3,h4⟩:=J77 hp;obtain rfl:=Y88 (n:=n) h1;have O:v<n:=h3 v (by rw[e];simp);obtain⟨b,g1,g2,g3⟩:=C94 (n:=n) es (Z85 n f l) [] (aF n G50) (adj es) (D82.start es _) h2 p1 p2 v e (by simpa using O);refine⟨b,g1,fun w => ?_⟩;have hs:Y34 b=b.key ||| 2^v:=by
  unfold Y34;rw[if_neg (by omega),g2];rfl
 rw[hs,aV,cO,g3,aR];have E:∀ x,x<n->x ∈ p1\/x=v\/x ∈ p2:=fun x hx=>by
  have:=Q58 h2 h3 h4 hx;rw[e] at this;simpa using this
 rw[e] at h2;have U:=List.nodup_append.1 h2;have V:∀ {w},V9 (C73 es) (fun x=>x ∈ ([]:List Nat)\/x ∈ p1) v w<->V9 (C73 es) (· ∈ p1) v w:=by
  intro w
  constructor
  .exact fun h=>h.mono fun x hx=>by simpa using hx
  .exact fun h=>h.mono fun x hx => .inr hx
 rw[V];unfold RB
 constructor
 .rintro (⟨a1,a2,a3⟩ | a)
  .right
   exact⟨fun hw=>U.2.2 w hw w (by simp[a2]) rfl,a3⟩
  .left
   have ev:v=w:=by simpa using a
   exact ev.symm
 .rintro (rfl | ⟨a1,a2⟩)
  .right;simp
  .have hw:=J110 Q a2
   by_cases ev:w=v
   .right;simp[ev]
   .left
    refine⟨hw,?_,a2⟩;rcases E w hw with h | h | h
    .exact absurd h a1
    .exact absurd h ev
    .exact h
end
end Go.Proofs.YtoiioigihocgbaaGreatDoor
namespace Go.Lp
section
variable {j r:Nat}
theorem K101{m R:Nat}{T:Tab}{c:Nat}(h:∃ i,i<m/\0<T.a i c):∃ r,Leaves m R T c r:=by
 have key:∀ k,(∃ i,i<k/\0<T.a i c)->∃ r,r<k/\0<T.a r c/\∀ i,i<k->0<T.a i c->T.a r R/T.a r c<T.a i R/T.a i c\/(T.a r R/T.a r c=T.a i R/T.a i c/\T.B r<=T.B i):=by
  intro k
  induction k with
  | zero=>rintro⟨i,h,_⟩;omega
  | succ k ih=>
   rintro⟨i,hi,hp⟩
   by_cases hk:0<T.a k c
   .by_cases J:∃ i,i<k/\0<T.a i c
    .obtain⟨r,hr,h1,h2⟩:=ih J
     by_cases hb:T.a r R/T.a r c<T.a k R/T.a k c\/(T.a r R/T.a r c=T.a k R/T.a k c/\T.B r<=T.B k)
     .refine⟨r,by omega,h1,fun j hj E => ?_⟩
      by_cases e:j=k
      .subst e;exact hb
      .exact h2 j (by omega) E
     .refine⟨k,by omega,hk,fun j hj E => ?_⟩
      by_cases e:j=k
      .subst e;exact .inr ⟨rfl,aD _⟩
      .have h3:=h2 j (by omega) E
       generalize T.a r R/T.a r c=x at *
       generalize T.a k R/T.a k c=y at *
       generalize T.a j R/T.a j c=z at *
       have h4:¬ x<y:=fun h=>hb (.inl h)
       have h5:x=y->T.B k<T.B r:=fun h=>by
        refine Nat.lt_of_not_le fun O=>hb (.inr ⟨h,O⟩)
       by_cases e2:x=y
       .have:=h5 e2
        rcases h3 with h3 | ⟨h3,h6⟩
        .exact .inl (by rw[<- e2];exact h3)
        .exact .inr ⟨by rw[<- e2];exact h3,by omega⟩
       .left
        have h7:y<x:=by grind
        rcases h3 with h3 | ⟨h3,_⟩
        .grind
        .rw[<- h3];exact h7
    .refine⟨k,by omega,hk,fun j hj E => ?_⟩
     by_cases e:j=k
     .subst e;exact .inr ⟨rfl,aD _⟩
     .exact absurd ⟨j,by omega,E⟩ J
   .obtain⟨r,hr,h1,h2⟩:=ih ⟨i,by
     by_cases e:i=k
     .subst e;exact absurd hp hk
     .omega,hp⟩
    refine⟨r,by omega,h1,fun j hj E => ?_⟩
    by_cases e:j=k
    .subst e;exact absurd E hk
    .exact h2 j (by omega) E
 obtain⟨r,h1,h2,h3⟩:=key m h;exact⟨r,h1,h2,h3⟩
theorem C92{C:Nat}{g:Nat->Rat}:∀ {k:Nat},(∃ j,j<k/\g j<0)->∃ c,c<k/\g c<0/\∀ j,j<c->0<=g j
 | 0,h=>by obtain⟨j,h,_⟩:=h;omega
 | k+1,h=>by
  by_cases E:∃ j,j<k/\g j<0
  .obtain⟨c,h1,h2,h3⟩:=C92 (C:=C) E
   exact⟨c,by omega,h2,h3⟩
  .obtain⟨j,h1,h2⟩:=h
   have:j=k:=by
    refine aI fun hn=>E ⟨j,by omega,h2⟩
   subst this;exact⟨j,by omega,h2,fun i hi=>aI fun hn=>E ⟨i,hi,by grind⟩⟩
section
variable {n m:Nat} {s:Nat->Nat->Bool}
def R43(n m:Nat)(s:Nat->Nat->Bool):Tab:=tabK n m s (steps n m s)
theorem N85(E:∀ v,v<n->∃ r,r<m/\s r v=true)(hj:j<n+m):0<=(R43 n m s).g j:=by
 refine aI fun hn => ?_
 have hc:=tabK_can (n:=n) (m:=m) (s:=s) (aD _);have he:=tabK_eqv (n:=n) (m:=m) (s:=s) (aD _);obtain⟨c,h1,h2,h3⟩:=C92 (C:=n+m) (g:=(R43 n m s).g) (k:=n+m) ⟨j,hj,by grind⟩;obtain⟨r,hr⟩:=K101 (R:=n+m+1) (bounded E hc he h1);exact U89 (n:=n) (m:=m) (s:=s) ⟨_,c,r,⟨h1,h2,h3⟩,hr,rfl⟩
def valT(n m:Nat)(s:Nat->Nat->Bool):Rat:=(R43 n m s).g (n+m+1)
theorem G89{k:Nat}(hk:k<m):(U58 n m s).a r (n+k)=if k=r then 1 else 0:=by
 show(if n+k<n then _ else if n+k<n+m then(if n+k=n+r then(1:Rat) else 0) else _)=_;rw[if_neg (by omega),if_pos (by omega)]
 by_cases e:k=r
 .rw[if_pos e,if_pos (by omega)]
 .rw[if_neg e,if_neg (by omega)]
theorem E86{v:Nat}(hv:v<n):(U58 n m s).a r v=if s r v=true then 1 else 0:=by
 show(if v<n then(if s r v then(1:Rat) else 0) else _)=_;rw[if_pos hv]
theorem W88:(U58 n m s).a r (n+m+1)=1:=by
 show(if n+m+1<n then _ else if n+m+1<n+m then _ else if n+m+1=n+m then(-1:Rat) else 1)=1;rw[if_neg (by omega),if_neg (by omega),if_neg (by omega)]
theorem Y80:(U58 n m s).g j=if j<n then -1 else 0:=rfl
theorem K97(E:∀ v,v<n->∃ r,r<m/\s r v=true):∃ y:Nat->Rat,(∀ r,r<m->0<=y r)/\valT n m s=Z25 m y/\(∀ v,v<n->1<=Z25 m fun r=>y r*(if s r v=true then 1 else 0)) /\
  ∀ j,(R43 n m s).g j-(U58 n m s).g j=Z25 m fun r=>y r*(U58 n m s).a r j:=by
 have he:=tabK_eqv (n:=n) (m:=m) (s:=s) (aD _);obtain⟨y,hy⟩:=he.goal;have hy:∀ j,(R43 n m s).g j-(U58 n m s).g j=Z25 m fun r=>y r*(U58 n m s).a r j:=hy
 refine⟨y,fun r hr => ?_,?_,fun v hv => ?_,hy⟩
 .have h1:=hy (n+r)
  have h2:=N85 (s:=s) E (j:=n+r) (by omega);rw[Y80,if_neg (by omega),R71 hr fun i hi hn=>by rw[G89 hr,if_neg (eT hn)];grind,G89 hr,if_pos rfl] at h1
  grind
 .have h1:=hy (n+m+1)
  rw[Y80,if_neg (by omega),Q35 (g:=y) fun i hi=>by rw[W88];grind] at h1;unfold valT;grind
 .have h1:=hy v
  have h2:=N85 (s:=s) E (j:=v) (by omega);rw[Y80,if_pos hv,Q35 (g:=fun r=>y r*(if s r v=true then 1 else 0)) fun i hi=>by rw[E86 hv]] at h1
  grind
theorem E81{f g:Nat->Rat}:∀ {n:Nat},(∀ i,i<n->f i<=g i)->Z25 n f<=Z25 n g
 | 0,_=>by simp[Y77]
 | n+1,h=>by
  rw[W33,W33];have h1:=E81 (n:=n) fun i hi=>h i (by omega)
  have h2:=h n (by omega)
  grind
theorem val_ge(E:∀ v,v<n->∃ r,r<m/\s r v=true)(hn:0<n):1<=valT n m s:=by
 obtain⟨y,h1,h2,h3,_⟩:=K97 E;have h4:=h3 0 hn;have h5:Z25 m (fun r=>y r*(if s r 0=true then 1 else 0))<=Z25 m y:=E81 fun r hr=>by
  have:=h1 r hr
  split<;>grind
 rw[h2];grind
theorem B91(J:∀ v,v<n->∃ r,r<m/\s r v=true):∃(B:Nat->Nat) (b:Nat->Rat),(∀ i,i<m->0<=b i)/\(∀ r,r<m->(Z25 m fun i=>(U58 n m s).a r (B i)*b i)=1) /\
  valT n m s=(Z25 m fun i=>(if B i<n then 1 else 0)*b i)/\∀ i,i<m->B i<n+m:=by
 have hc:=tabK_can (n:=n) (m:=m) (s:=s) (aD _);have he:=tabK_eqv (n:=n) (m:=m) (s:=s) (aD _);have O:∀ r,r<m->(Z25 m fun i=>(U58 n m s).a r ((R43 n m s).B i)*(R43 n m s).a i (n+m+1))=1:=by
  intro r hr;obtain⟨c,E⟩:=he.back r hr;have E:∀ j,(U58 n m s).a r j=Z25 m fun k=>c k*(R43 n m s).a k j:=E
  have h1:∀ i,i<m->(U58 n m s).a r ((R43 n m s).B i)=c i:=fun i hi=>by
   rw[E,R71 hi fun k hk hn=>by
    have h2:(R43 n m s).a k ((R43 n m s).B i)=if k=i then 1 else 0:=hc.unit k i hk hi;rw[h2,if_neg hn];grind]
   have h2:(R43 n m s).a i ((R43 n m s).B i)=if i=i then 1 else 0:=hc.unit i i hi hi;rw[h2,if_pos rfl];grind
  rw[Q35 (g:=fun k=>c k*(R43 n m s).a k (n+m+1)) fun i hi=>by rw[h1 i hi],<- E,W88]
 refine⟨(R43 n m s).B,fun i=>(R43 n m s).a i (n+m+1),fun i hi=>hc.rhs i hi,O,?_,hc.lt⟩;obtain⟨y,h1,h2,h3,h4⟩:=K97 J;have h5:∀ i,i<m->(0:Rat)-(if (R43 n m s).B i<n then -1 else 0)=Z25 m fun r=>y r*(U58 n m s).a r ((R43 n m s).B i):=fun i hi=>by
  have h6:=h4 ((R43 n m s).B i);have h7:(R43 n m s).g ((R43 n m s).B i)=0:=hc.goal i hi;rw[h7,Y80] at h6;exact h6
 have h8:(Z25 m fun i=>(Z25 m fun r=>y r*(U58 n m s).a r ((R43 n m s).B i))*(R43 n m s).a i (n+m+1))=Z25 m y:=by
  rw[Q35 (g:=fun i=>Z25 m fun r=>y r*((U58 n m s).a r ((R43 n m s).B i)*(R43 n m s).a i (n+m+1))) fun i hi=>by
   rw[Rat.mul_comm,<- W74];exact Q35 fun r hr=>by grind,G103]
  exact Q35 fun r hr=>by rw[W74,O r hr];grind
 rw[h2,<- h8];exact Q35 fun i hi=>by
  rw[<- h5 i hi]
  split<;>grind
theorem val_le(J:∀ v,v<n->∃ r,r<m/\s r v=true)(hr:r<m)(E:∀ v,v<n->s r v=true):valT n m s<=1:=by
 obtain⟨B,b,h1,h2,h3,h4⟩:=B91 J;have key:Z25 m (fun i=>(if B i<n then 1 else 0)*b i)<=Z25 m fun i=>(U58 n m s).a r (B i)*b i := ?_
 .rw[h2 r hr] at key;rw[h3];exact key
 refine E81 fun i hi => ?_
 have hb:=h1 i hi
 by_cases e:B i<n
 .rw[if_pos e,E86 e,E _ e,if_pos rfl];exact Rat.le_refl
 .rw[if_neg e]
  have:=fY (C80 (m:=m) (s:=s) (n:=n) (i:=r) (h4 i hi)) hb
  grind
theorem Y89:∀ n:Nat,Z25 n (fun _=>1)=(n:Rat)
 | 0=>rfl
 | n+1=>by rw[W33,Y89];simp[Rat.natCast_add]
theorem val_small(E:∀ v,v<n->∃ r,r<m/\s r v=true):valT n m s<=(m:Rat):=by
 obtain⟨B,b,h1,h2,h3,h4⟩:=B91 E;rw[h3,<- Y89];refine E81 fun i hi => ?_
 have hb:=h1 i hi
 by_cases e:B i<n
 .rw[if_pos e]
  obtain⟨r,hr,hs⟩:=E (B i) e;have h5:=h2 r hr;have h6:(U58 n m s).a r (B i)=1:=by rw[E86 e,hs,if_pos rfl]
  have h7:Z25 m (fun k=>if k=i then b i else 0)<=Z25 m fun k=>(U58 n m s).a r (B k)*b k:=E81 fun k hk=>by
   by_cases e2:k=i
   .subst e2;rw[if_pos rfl,h6];grind
   .rw[if_neg e2]
    exact fY (C80 (m:=m) (s:=s) (n:=n) (i:=r) (h4 k hk)) (h1 k hk)
  rw[R71 hi fun k hk hn=>if_neg hn,if_pos rfl,h5] at h7
  grind
 .rw[if_neg e];grind
end
end
end Go.Lp
namespace Go.Clo
theorem B88{x y w:Rat}:gr x y<=w<->x<=w/\y<=w:=by
 unfold gr
 split<;>grind
theorem U107{w c W:Rat}{acc:Option Rat}:(∃ b,Z75 w c acc=some b/\b<=W)<->(∃ b,acc=some b/\b<=W)\/(w<=W/\c<=W):=by
 unfold Z75
 cases acc with
 | none=>simp[B88]
 | some b=>
  dsimp only
  by_cases h1:b<=w
  .rw[if_pos h1]
   constructor
   .rintro⟨x,hx,h⟩
    cases hx
    exact .inl ⟨_,rfl,h⟩
   .rintro (⟨x,hx,h⟩ | ⟨h2,h3⟩)
    .exact⟨x,hx,h⟩
    .exact⟨b,rfl,by grind⟩
  .rw[if_neg h1]
   by_cases h2:gr w c<b
   .rw[if_pos h2]
    constructor
    .rintro⟨x,hx,h⟩
     cases hx
     exact .inr (B88.1 h)
    .rintro (⟨x,hx,h⟩ | h)
     .cases hx
      exact⟨_,rfl,by grind⟩
     .exact⟨_,rfl,B88.2 h⟩
   .rw[if_neg h2]
    constructor
    .rintro⟨x,hx,h⟩
     exact .inl ⟨x,hx,h⟩
    .rintro (⟨x,hx,h⟩ | h)
     .exact⟨x,hx,h⟩
     .have:=B88.2 h
      exact⟨b,rfl,by grind⟩
theorem C97{N:Nat}{f:Nat->Nat->Rat}{left:Nat}{W:Rat}:∀ i,(∃ b,M70 N f left i=some b/\b<=W)<->∃ v,v<i/\left.testBit v=true/\M45 N f (Z2 left (2^v))<=W/\f v left<=W
 | 0=>by simp[M70]
 | i+1=>by
  have ih:=@C97 N f left W i;rw[M76]
  by_cases hb:left.testBit i=true
  .rw[if_pos hb,U107,ih]
   constructor
   .rintro (⟨v,h1,h2⟩ | h)
    .exact⟨v,by omega,h2⟩
    .exact⟨i,by omega,hb,h⟩
   .rintro⟨v,h1,h2,h3⟩
    by_cases e:v=i
    .subst e;exact .inr h3
    .exact .inl ⟨v,by omega,h2,h3⟩
  .rw[if_neg hb,ih]
   constructor
   .rintro⟨v,h1,h2⟩
    exact⟨v,by omega,h2⟩
   .rintro⟨v,h1,h2,h3⟩
    refine⟨v,?_,h2,h3⟩
    by_cases e:v=i
    .subst e;exact absurd h2 hb
    .omega
theorem W90{N:Nat}{f:Nat->Nat->Rat}{left:Nat}(hl:left<2^N){W:Rat}(hW:0<=W):M45 N f left<=W<->left=0\/∃ v,left.testBit v=true/\M45 N f (Z2 left (2^v))<=W/\f v left<=W:=by
 rw[C77]
 by_cases h0:left=0
 .rw[if_pos h0];simp[h0,hW]
 .rw[if_neg h0]
  obtain⟨u,hu⟩:=B14 h0;obtain⟨b,hb⟩:=Y84 (N:=N) (f:=f) (left:=left) (i:=N) ⟨u,R7 hl hu,hu⟩;have:=@C97 N f left W N;rw[hb] at this ⊢;simp only[h0,false_or,Option.getD_some]
  constructor
  .intro h
   obtain⟨v,h1,h2⟩:=this.1 ⟨b,rfl,h⟩;exact⟨v,h2⟩
  .rintro⟨v,h2⟩
   obtain⟨x,hx,h⟩:=this.2 ⟨v,R7 hl h2.1,h2⟩
   cases hx
   exact h
end Go.Clo
namespace Go.Proofs.YtoiioigihocgbaaGreatDoor
open Go.Clo
theorem V87{nb:List Nat}{gone v:Nat}(P:Nat->Prop)(hP:∀ u w,P u->(u=v\/gone.testBit u=true)->(nb.getD u 0).testBit w=true->P w):∀(f r b:Nat),(∀ w,r.testBit w=true->P w)->b<64->(∀(u x:Nat),nb[u]? = some x->x<64) ->
  (∀ w,b.testBit w=true->P w)->∀ w,(Z65 nb gone v f r b).testBit w=true->P w
 | 0,r,b,hr,_,_,_=>hr
 | f+1,r,b,hr,h64,hnb,hb=>by
  intro w hw;have E:(if b=0 then r else if tz b=v\/gone.testBit (tz b)=true then Z65 nb gone v f (r ||| 2^tz b) (Z2 b (2^tz b) ||| Z2 (nb.getD (tz b) 0) (r ||| 2^tz b)) else Z65 nb gone v f (r ||| 2^tz b) (Z2 b (2^tz b)):Nat).testBit w=true:=hw
  by_cases h0:b=0
  .rw[if_pos h0] at E;exact hr w E
  rw[if_neg h0] at E;have W:=V33 h64 (by omega);have V:=hb _ W;have U:∀ w,(r ||| 2^tz b).testBit w=true->P w:=fun w hw=>by
   rw[aV,cO,aR] at hw;rcases hw with h | h
   .exact hr w h
   .have:tz b=w:=by simpa using h
    rw[<- this];exact V
  have O:∀ w,(Z2 b (2^tz b)).testBit w=true->P w:=fun w hw=>by
   rw[N1,aG] at hw;exact hb w hw.1
  have Q:nb.getD (tz b) 0<64:=by
   rw[aP]
   cases hg:nb[tz b]? with
   | none=>show 0<64;omega
   | some x=>exact hnb _ _ hg
  have J:∀ {a b:Nat},a<64->Z2 a b<64:=fun h=>Z6 (n:=6) h
  split at E
  .rename_i hc
   refine V87 P hP f _ _ U (Nat.or_lt_two_pow (n:=6) (J h64) (J Q)) hnb (fun w hw => ?_) w E;rw[aV,cO] at hw;rcases hw with h | h
   .exact O w h
   .rw[N1,aG] at h
    exact hP _ w V hc h.1
  .exact V87 P hP f _ _ U (J h64) hnb O w E
theorem Z81{nb:List Nat}{gone v N:Nat}(hN:N<=6)(Q:∀(u x:Nat),nb[u]? = some x->x<2^N):∀(f r b:Nat),f+(V5 N r).length=N->r<2^N->b<2^N->(∀ w,b.testBit w=true->r.testBit w=false) ->
  (∀ u w,r.testBit u=true->(u=v\/gone.testBit u=true)->(nb.getD u 0).testBit w=true->r.testBit w=true\/b.testBit w=true) ->
  ∀ u w,(Z65 nb gone v f r b).testBit u=true->(u=v\/gone.testBit u=true)->(nb.getD u 0).testBit w=true->(Z65 nb gone v f r b).testBit w=true
 | 0,r,b,hf,hr,hb,hd,hc=>by
  have h0:b=0:=X20 hb hd (by omega);subst h0;intro u w hu hg hw;rcases hc u w hu hg hw with h | h
  .exact h
  .simp at h
 | f+1,r,b,hf,hr,hb,hd,hc=>by
  intro u w hu hg hw;have a5:2^N<=64:=aK (n:=2) (by omega) hN
  by_cases h0:b=0
  .have e:Z65 nb gone v (f+1) r b=r:=if_pos h0
   rw[e] at hu ⊢;rcases hc u w hu hg hw with h | h
   .exact h
   .rw[h0] at h;simp at h
  have a3:=V33 (x:=b) (by omega) (by omega);have Z:=hd _ a3;have O:=B54 (N:=N) (x:=b) (by omega) (by omega) hb;have a4:=N50 O Z;have hx:nb.getD (tz b) 0<2^N:=by
   rw[aP]
   cases hg:nb[tz b]? with
   | none=>exact aQ _
   | some x=>exact Q _ _ hg
  have W:∀ w,(Z2 b (2^tz b)).testBit w=true->(r ||| 2^tz b).testBit w=false:=fun w hw=>by
   rw[N1,aR] at hw;rw[aV,aR];simp at hw;rw[hd w hw.1];simp[hw.2]
  have V:∀ x y,(r ||| 2^tz b).testBit x=true->x≠tz b->(x=v\/gone.testBit x=true)->(nb.getD x 0).testBit y=true->(r ||| 2^tz b).testBit y=true\/(Z2 b (2^tz b)).testBit y=true:=fun x y hx a2 J hy=>by
   rw[aV,cO,aR] at hx;have a0:r.testBit x=true:=by
    rcases hx with h | h
    .exact h
    .exact absurd (by simpa using h) (eT a2)
   by_cases e:y=tz b
   .left;rw[aV,aR];simp[e]
   .rcases hc x y a0 J hy with h | h
    .left;rw[aV,h];rfl
    .right
     rw[N1,h,aR];simp[eT e]
  by_cases E:tz b=v\/gone.testBit (tz b)=true
  .have e:Z65 nb gone v (f+1) r b=Z65 nb gone v f (r ||| 2^tz b) (Z2 b (2^tz b) ||| Z2 (nb.getD (tz b) 0) (r ||| 2^tz b)):=by
    show(if b=0 then r else _:Nat)=_;rw[if_neg h0,if_pos E]
   rw[e] at hu ⊢;refine Z81 hN Q f _ _ (by omega) (Z26 hr (R27 O)) (Z26 (Z6 hb) (Z6 hx)) (fun x hx => ?_) (fun x y hx J hy => ?_) u w hu hg hw
   .rw[aV,cO] at hx
    rcases hx with h | h
    .exact W x h
    .rw[N1,aG] at h
     simpa using h.2
   .by_cases ex:x=tz b
    .subst ex
     by_cases U:(r ||| 2^tz b).testBit y=true
     .exact .inl U
     .right
      have a1:(r ||| 2^tz b).testBit y=false:=by simpa using U
      rw[aV,N1 (nb.getD (tz b) 0),hy,a1];simp
    .rcases V x y hx ex J hy with h | h
     .exact .inl h
     .right;rw[aV,h];rfl
  .have e:Z65 nb gone v (f+1) r b=Z65 nb gone v f (r ||| 2^tz b) (Z2 b (2^tz b)):=by
    show(if b=0 then r else _:Nat)=_;rw[if_neg h0,if_neg E]
   rw[e] at hu ⊢;refine Z81 hN Q f _ _ (by omega) (Z26 hr (R27 O)) (Z6 hb) W (fun x y hx J hy => ?_) u w hu hg hw;have ex:x≠tz b:=fun e=>E (e ▸ J)
   exact V x y hx ex J hy
theorem Z105{es:List Nat}{N v comp left:Nat}(hN:N<=6)(Q:∀ e ∈ es,e<2^N)(hv:v<N)(Z:(Z2 comp left).testBit v=false):∀ w,(C78 (B2 es N) N v comp left).testBit w=true<->RB es (fun x=>(Z2 comp left).testBit x=true) v w:=by
 intro w;have a1:2^N<=64:=aK (n:=2) (by omega) hN;have W:=N30 (es:=es) (N:=N);have O:∀ u w,((B2 es N).getD u 0).testBit w=true<->C73 es u w:=fun u w=>by
  rw[U24 (by omega)];exact⟨fun h=>h.2.2,fun h=>⟨(J88 Q h).1,(J88 Q h).2,h⟩⟩
 generalize hg:Z2 comp left=gone at *
 have V:=Z81 (gone:=gone) (v:=v) hN W N 0 (2^v) (by simp[V5]) (aQ _) (R27 hv) (by simp) (by simp);have J:(Z65 (B2 es N) gone v N 0 (2^v)).testBit v=true:=by
  obtain⟨n,rfl⟩:∃ n,N=n+1:=⟨N-1,by omega⟩
  show(if 2^v=0 then 0 else _:Nat).testBit v=true;rw[if_neg (by have:=aQ v;omega),U101 v (by omega),if_pos (.inl rfl)];refine R83 _ _ v v n _ _ ?_;rw[Nat.zero_or,aR];simp
 have a0:∀ u w,(Z65 (B2 es N) gone v N 0 (2^v)).testBit u=true->(u=v\/gone.testBit u=true)->V9 (C73 es) (fun x=>gone.testBit x=true) u w->(Z65 (B2 es N) gone v N 0 (2^v)).testBit w=true:=by
  intro u w hu E hr
  induction hr with
  | one h=>exact V _ _ hu E ((O _ _).2 h)
  | more h1 h2 _ ih=>exact ih (V _ _ hu E ((O _ _).2 h1)) (.inr h2)
 have U:=V87 (nb:=B2 es N) (gone:=gone) (v:=v) (fun w=>w=v\/V9 (C73 es) (fun x=>gone.testBit x=true) v w) (fun u w hu E hw=>by
  right;have ha:=(O u w).1 hw;rcases hu with rfl | hu
  .exact .one ha
  .rcases E with rfl | E
   .exact .one ha
   .exact hu.trans E (.one ha)) N 0 (2^v) (by simp) (by have:=R27 hv;omega) (fun u x h=>by have:=W u x h;omega) (fun w hw=>by
  left;rw[aR] at hw;have:v=w:=by simpa using hw
  exact this.symm)
 unfold C78 RB;rw[hg,N1];simp only[aG,cJ,Bool.not_eq_true]
 constructor
 .rintro⟨h1,h2⟩
  rcases U w h1 with h | h
  .exact .inl h
  .exact .inr ⟨h2,h⟩
 .rintro (rfl | ⟨h1,h2⟩)
  .exact⟨J,Z⟩
  .exact⟨a0 v w J (.inl rfl) h2,h1⟩
section
variable {c v w:Nat} {p:List Nat}
def lft(c:Nat)(p:List Nat):Nat:=p.foldl (fun l v=>Z2 l (2^v)) c
theorem Z78:∀{p:List Nat},(lft c p).testBit w=true<->c.testBit w=true/\w ∉ p:=by
 intro p;unfold lft
 induction p generalizing c with
 | nil=>simp
 | cons v p ih=>
  rw[dF,ih,N1,aR];simp only[aG,cJ,decide_eq_false_iff_not,aU,not_or]
  constructor
  .rintro⟨⟨h1,h2⟩,h3⟩;exact⟨h1,eT h2,h3⟩
  .rintro⟨h1,h2,h3⟩;exact⟨⟨h1,eT h2⟩,h3⟩
theorem Z72(c:Nat)(p:List Nat)(v:Nat):lft c (p++[v])=Z2 (lft c p) (2^v):=by unfold lft;rw[List.foldl_append];rfl
theorem R75:∀ w,(lft c p).testBit w=true->c.testBit w=true:=fun w h=>(Z78.1 h).1
theorem Q88{N:Nat}(hc:c<2^N):∀(p:List Nat),lft c p<2^N:=by
 intro p;unfold lft
 induction p generalizing c with
 | nil=>exact hc
 | cons v p ih=>exact ih (Z6 hc)
theorem C103{l:Nat}(h:l.testBit v=false):Z2 l (2^v)=l:=by
 apply bZ;intro w;rw[N1,aR]
 by_cases e:v=w
 .subst e;rw[h];rfl
 .simp[e]
section
variable {es nb:List Nat} {N:Nat} {cs:List Nat} {W:Rat}
structure J76 (N:Nat) (cs:List Nat):Prop where
 lt:∀ c ∈ cs,c<2^N
 dis:cs.Pairwise fun c d=>∀ w,c.testBit w=true->d.testBit w=false
def OKp(es nb:List Nat)(N:Nat)(cs:List Nat)(W:Rat)(p:List Nat)(v:Nat):Prop:=∃ c ∈ cs,(lft c p).testBit v=true/\Y25 es nb N c v (lft c p)<=W/\M45 N (Y25 es nb N c) (Z2 (lft c p) (2^v))<=W
def M75(es nb:List Nat)(N:Nat)(cs:List Nat)(W:Rat)(p:List Nat):Prop:=∀ c ∈ cs,M45 N (Y25 es nb N c) (lft c p)<=W
def Cst(es nb:List Nat)(N:Nat)(cs:List Nat)(W:Rat)(p:List Nat)(v:Nat):Prop:=∃ c ∈ cs,(lft c p).testBit v=true/\Y25 es nb N c v (lft c p)<=W
def CW(es nb:List Nat)(N:Nat)(cs:List Nat)(W:Rat):List Nat->List Nat->Prop
 | p,[]=>∀ c ∈ cs,lft c p=0
 | p,v :: q=>Cst es nb N cs W p v/\CW es nb N cs W (p++[v]) q
theorem J76.one(h:J76 N cs){c d w:Nat}(hc:c ∈ cs)(hd:d ∈ cs)(h1:c.testBit w=true)(h2:d.testBit w=true):c=d:=by
 obtain⟨i,hi,rfl⟩:=gL hc;obtain⟨j,hj,rfl⟩:=gL hd;rcases Nat.lt_trichotomy i j with g | g | g
 .have:=fD.1 h.dis i j hi hj g w h1
  rw[h2] at this;cases this
 .subst g;rfl
 .have:=fD.1 h.dis j i hj hi g w h2
  rw[h1] at this;cases this
theorem J76.other(h:J76 N cs){d:Nat}(hc:c ∈ cs)(hd:d ∈ cs)(E:d≠c)(h1:(lft c p).testBit w=true):lft d (p++[w])=lft d p:=by
 rw[Z72];refine C103 ?_
 cases hb:(lft d p).testBit w with
 | false=>rfl
 | true=>exact absurd (h.one hd hc (R75 _ hb) (R75 _ h1)) E
theorem C96(h:J76 N cs)(hW:0<=W):∀ {q p:List Nat},CW es nb N cs W p q->M75 es nb N cs W p
 | [],p,hq=>fun c hc=>by rw[hq c hc,C77,if_pos rfl];exact hW
 | v :: q,p,hq=>by
  obtain⟨⟨c,hc,h1,h2⟩,h3⟩:=hq;have ih:=C96 h hW h3;intro d hd
  by_cases e:d=c
  .subst e
   refine(W90 (Q88 (h.lt d hd) p) hW).2 (.inr ⟨v,h1,?_,h2⟩);rw[<- Z72];exact ih d hd
  .rw[<- h.other hc hd e h1];exact ih d hd
theorem G91(h:J76 N cs)(hp:M75 es nb N cs W p)(hv:OKp es nb N cs W p v):M75 es nb N cs W (p++[v]):=by
 obtain⟨c,hc,h1,h2,h3⟩:=hv;intro d hd
 by_cases e:d=c
 .subst e;rw[Z72];exact h3
 .rw[h.other hc hd e h1];exact hp d hd
theorem E110(hc:Cst es nb N cs W p v)(hf:M75 es nb N cs W (p++[v])):OKp es nb N cs W p v:=by
 obtain⟨c,h1,h2,h3⟩:=hc;exact⟨c,h1,h2,h3,by rw[<- Z72];exact hf c h1⟩
theorem J102(h:J76 N cs)(hW:0<=W)(hp:M75 es nb N cs W p)(hc:c ∈ cs)(h0:lft c p≠0):∃ v,OKp es nb N cs W p v:=by
 rcases (W90 (Q88 (h.lt c hc) p) hW).1 (hp c hc) with h1 | ⟨v,h1,h2,h3⟩
 .exact absurd h1 h0
 .exact⟨v,c,hc,h1,h3,h2⟩
def Q71:Nat->List Nat->List Nat->List (List Nat)
 | 0,l,_=>[l]
 | n+1,l,rest=>rest.flatMap fun v=>Q71 n (l++[v]) (rest.erase v)
def gre(es nb:List Nat)(N:Nat)(cs:List Nat)(W:Rat):Nat->List Nat->List Nat->List Nat
 | 0,l,_=>l
 | n+1,l,rest=>open Classical in match rest.find? fun v=>decide (OKp es nb N cs W l v) with
  | some v=>gre es nb N cs W n (l++[v]) (rest.erase v)
  | none=>l
theorem Q84{α β:Type}{p:β->Bool}{g:α->List β}:∀ {l:List α},(l.flatMap g).find? p=l.findSome? fun a=>(g a).find? p
 | []=>rfl
 | a :: l=>by
  rw[List.flatMap_cons,List.find?_append,Q84,List.findSome?_cons]
  cases (g a).find? p<;>rfl
theorem V82(h:J76 N cs)(hW:0<=W){good:List Nat->Bool}{goodp:List Nat->Prop}(O:∀ l,good l=true<->goodp l/\∀ c ∈ cs,lft c l=0)(E:∀ l v,goodp (l++[v])<->goodp l/\Cst es nb N cs W l v):
  ∀(n:Nat) (l rest:List Nat),rest.length=n->(∀ v,v ∈ rest<->∃ c ∈ cs,(lft c l).testBit v=true)->rest.Nodup ->
  (goodp l/\M75 es nb N cs W l->(Q71 n l rest).find? good=some (gre es nb N cs W n l rest)/\(gre es nb N cs W n l rest).length=l.length+n)/\(¬ (goodp l/\M75 es nb N cs W l)->(Q71 n l rest).find? good=none)
 | 0,l,rest,hn,hr,hnd=>by
  have hz:∀ c ∈ cs,lft c l=0:=fun c hc=>by
   refine aI fun h0 => ?_
   obtain⟨u,hu⟩:=B14 h0;have:=(hr u).2 ⟨c,hc,hu⟩;rw[dT.1 hn] at this;simp at this
  have hF:M75 es nb N cs W l:=fun c hc=>by rw[hz c hc,C77,if_pos rfl];exact hW
  constructor
  .rintro⟨h1,_⟩
   have hg:=(O l).2 ⟨h1,hz⟩;simp[Q71,gre,hg]
  .intro Z
   have hg:good l=false:=by
    cases a5:good l with
    | false=>rfl
    | true=>exact absurd ⟨((O l).1 a5).1,hF⟩ Z
   simp[Q71,hg]
 | n+1,l,rest,hn,hr,hnd=>by
  have V:∀ v ∈ rest,(∀ u,u ∈ rest.erase v<->∃ c ∈ cs,(lft c (l++[v])).testBit u=true)/\(rest.erase v).Nodup/\(rest.erase v).length=n:=fun v hv=>by
   refine⟨fun u => ?_,hnd.erase v,by rw[List.length_erase_of_mem hv];omega⟩;rw[hnd.mem_erase_iff,hr u]
   constructor
   .rintro⟨h1,c,h2,h3⟩
    refine⟨c,h2,?_⟩;rw[Z72,N1,h3,aR];simp[eT h1]
   .rintro⟨c,h2,h3⟩
    rw[Z72,N1,aR,aG] at h3;refine⟨fun e => ?_,c,h2,h3.1⟩;rw[e] at h3;simp at h3
  have U:∀ v,goodp l/\M75 es nb N cs W l->(goodp (l++[v])/\M75 es nb N cs W (l++[v])<->OKp es nb N cs W l v):=fun v hl=>by
   constructor
   .rintro⟨h1,h2⟩
    exact E110 ((E l v).1 h1).2 h2
   .intro J
    refine⟨(E l v).2 ⟨hl.1,?_⟩,G91 h hl.2 J⟩;obtain⟨c,a1,a2,a3,_⟩:=J;exact⟨c,a1,a2,a3⟩
  constructor
  .intro hl
   have a9:∃ v ∈ rest,OKp es nb N cs W l v:=by
    obtain⟨r0,a7⟩:∃ r0,r0 ∈ rest:=by
     cases rest with
     | nil=>simp at hn
     | cons a r=>exact⟨a,by simp⟩
    obtain⟨c,hc,hb⟩:=(hr r0).1 a7;obtain⟨v,hv⟩:=J102 h hW hl.2 hc (fun e=>by rw[e] at hb;simp at hb);have a8:=hv;obtain⟨d,hd,aa,_⟩:=a8;exact⟨v,(hr v).2 ⟨d,hd,aa⟩,hv⟩
   have key:∀ r:List Nat,(∀ v ∈ r,v ∈ rest)->(∃ v ∈ r,OKp es nb N cs W l v)->∃ v,(open Classical in r.find? fun v=>decide (OKp es nb N cs W l v))=some v/\v ∈ rest/\OKp es nb N cs W l v /\
     (r.findSome? fun v=>(Q71 n (l++[v]) (rest.erase v)).find? good)=some (gre es nb N cs W n (l++[v]) (rest.erase v)):=by
    intro r
    induction r with
    | nil=>rintro _ ⟨v,hv,_⟩;simp at hv
    | cons a r ih=>
     intro Q a4;have ha:=Q a (by simp);obtain⟨s1,s2,s3⟩:=V a ha;obtain⟨i1,i2⟩:=V82 h hW O E n (l++[a]) (rest.erase a) s3 s1 s2
     by_cases J:OKp es nb N cs W l a
     .refine⟨a,by simp[J],ha,J,?_⟩
      rw[List.findSome?_cons,(i1 ((U a hl).2 J)).1]
     .obtain⟨v,hv,a0⟩:=a4
      have a6:v ∈ r:=by
       rcases aU.1 hv with rfl | hv
       .exact absurd a0 J
       .exact hv
      obtain⟨x,x1,x2,x3,x4⟩:=ih (fun v hv=>Q v (by simp[hv])) ⟨v,a6,a0⟩;refine⟨x,by simp[J];simpa using x1,x2,x3,?_⟩;rw[List.findSome?_cons,i2 fun hh=>J ((U a hl).1 hh)];exact x4
   obtain⟨v,x1,x2,x3,x4⟩:=key rest (fun v hv=>hv) a9;obtain⟨s1,s2,s3⟩:=V v x2;obtain⟨i1,_⟩:=V82 h hW O E n (l++[v]) (rest.erase v) s3 s1 s2;have eg:gre es nb N cs W (n+1) l rest=gre es nb N cs W n (l++[v]) (rest.erase v):=by
    show(match (open Classical in rest.find? fun v=>decide (OKp es nb N cs W l v)) with | some v=>gre es nb N cs W n (l++[v]) (rest.erase v) | none=>l)=_;rw[x1]
   rw[eg];refine⟨?_,?_⟩
   .show(rest.flatMap fun v=>Q71 n (l++[v]) (rest.erase v)).find? good=_
    rw[Q84];exact x4
   .have:=(i1 ((U v hl).2 x3)).2
    rw[this];simp;omega
  .intro Z
   show(rest.flatMap fun v=>Q71 n (l++[v]) (rest.erase v)).find? good=none;rw[Q84,List.findSome?_eq_none_iff];intro v hv;obtain⟨s1,s2,s3⟩:=V v hv;refine(V82 h hW O E n (l++[v]) (rest.erase v) s3 s1 s2).2 fun⟨h1,h2⟩=>Z ⟨((E l v).1 h1).1,?_⟩
   obtain⟨c,hc,a1,a2⟩:=((E l v).1 h1).2;intro d hd
   by_cases e:d=c
   .subst e
    refine(W90 (Q88 (h.lt d hd) l) hW).2 (.inr ⟨v,a1,?_,a2⟩);rw[<- Z72];exact h2 d hd
   .rw[<- h.other hc hd e a1];exact h2 d hd
end
end
section
variable {N c f v:Nat}
section
variable {es nb:List Nat} {N:Nat} {cs:List Nat} {W:Rat}
theorem B87{l:Nat}:M72 es nb N W c l v=true<->l.testBit v=true/\Y25 es nb N c v l<=W/\M45 N (Y25 es nb N c) (Z2 l (2^v))<=W:=by
 unfold M72;simp only[aG,decide_eq_true_eq]
theorem D92{lefts:List Nat}{v:Nat}:∀(f i:Nat),(∀ j,D75 es nb N W cs lefts v f i=some j->i<=j/\j<i+f/\M72 es nb N W (cs.getD j 0) (lefts.getD j 0) v=true) /\
  (D75 es nb N W cs lefts v f i=none->∀ j,i<=j->j<i+f->M72 es nb N W (cs.getD j 0) (lefts.getD j 0) v=false)
 | 0,i=>⟨fun j h=>(by cases h),fun _ j h1 h2=>by omega⟩
 | f+1,i=>by
  obtain⟨h1,h2⟩:=@D92 lefts v f (i+1);have e:D75 es nb N W cs lefts v (f+1) i=if M72 es nb N W (cs.getD i 0) (lefts.getD i 0) v=true then some i else D75 es nb N W cs lefts v f (i+1):=rfl;rw[e]
  by_cases hb:M72 es nb N W (cs.getD i 0) (lefts.getD i 0) v=true
  .rw[if_pos hb]
   refine⟨fun j h => ?_,fun h=>by cases h⟩
   cases h
   exact⟨aD _,by omega,hb⟩
  .rw[if_neg hb]
   refine⟨fun j h => ?_,fun h j a1 a2 => ?_⟩
   .obtain⟨a1,a2,a3⟩:=h1 j h
    exact⟨by omega,by omega,a3⟩
   .by_cases e:j=i
    .subst e;simpa using hb
    .exact h2 h j (by omega) (by omega)
theorem W92 {lefts:List Nat} {v0 i0:Nat} (hv0:v0<N) (hi0:i0<lefts.length) (hfit:M72 es nb N W (cs.getD i0 0) (lefts.getD i0 0) v0=true) (hmin:∀ v i,v<v0->i<lefts.length->M72 es nb N W (cs.getD i 0) (lefts.getD i 0) v=false):
  ∀ (f w:Nat),f+w=N->w<=v0->∃ i,E80 es nb N W cs lefts f w=some (v0,i)/\i<lefts.length/\M72 es nb N W (cs.getD i 0) (lefts.getD i 0) v0=true
 | 0,w,h1,h2=>by omega
 | f+1,w,h1,h2=>by
  obtain⟨a1,a2⟩:=@D92 es nb N cs W lefts w lefts.length 0
  have e:E80 es nb N W cs lefts (f+1) w=match D75 es nb N W cs lefts w lefts.length 0 with
   | some i=>some (w,i)
   | none=>E80 es nb N W cs lefts f (w+1):=rfl
  rw[e]
  cases hfi:D75 es nb N W cs lefts w lefts.length 0 with
  | some i=>
   obtain⟨b1,b2,b3⟩:=a1 i hfi
   by_cases ew:w=v0
   .subst ew;exact⟨i,rfl,by omega,b3⟩
   .have:=hmin w i (by omega) (by omega)
    rw[b3] at this;cases this
  | none=>
   have b:=a2 hfi i0 (by omega) (by omega)
   have ew:w≠v0:=fun ew=>by rw[ew,hfit] at b;cases b
   exact W92 hv0 hi0 hfit hmin f (w+1) (by omega) (by omega)
def E90(es nb:List Nat)(N:Nat)(W:Rat)(cs:List Nat):Nat->List Int × List Nat->List Int × List Nat
 | 0,s=>s
 | n+1,s=>E90 es nb N W cs n (Q73 es nb N W cs s)
theorem Q92:∀(n:Nat)(s:List Int × List Nat),Q73 es nb N W cs (E90 es nb N W cs n s)=E90 es nb N W cs (n+1) s
 | 0,_=>rfl
 | n+1,s=>Q92 n _
theorem Q97:∀ n,C54 es nb N W cs n=E90 es nb N W cs n ([],cs)
 | 0=>rfl
 | n+1=>by
  show Q73 es nb N W cs (C54 es nb N W cs n)=_;rw[Q97 n,Q92]
theorem Q82{i:Nat}{g:Nat->Nat}(h:cs[i]? = some c):(cs.map g).getD i 0=g c:=by simp[aP,h]
theorem Y97 (h:J76 N cs) (hW:0<=W):∀ (n:Nat) (l rest:List Nat),rest.length=n->(∀ v,v ∈ rest<->∃ c ∈ cs,(lft c l).testBit v=true)->rest.Pairwise (· < ·)->M75 es nb N cs W l ->
  (E90 es nb N W cs n (l.map (fun (x:Nat)=>(x:Int)),cs.map (lft · l))).1=(gre es nb N cs W n l rest).map fun (x:Nat)=>(x:Int)
 | 0,l,rest,hn,hr,hnd,hF=>rfl
 | n+1,l,rest,hn,hr,hnd,hF=>by
  have hex:∃ v ∈ rest,OKp es nb N cs W l v:=by
   obtain⟨r0,hr0⟩:∃ r0,r0 ∈ rest:=by
    cases rest with
    | nil=>simp at hn
    | cons a r=>exact⟨a,by simp⟩
   obtain⟨c,hc,hb⟩:=(hr r0).1 hr0
   obtain⟨v,hv⟩:=J102 h hW hF hc (fun e=>by rw[e] at hb;simp at hb)
   have hv':=hv
   obtain⟨d,hd,hdb,_⟩:=hv'
   exact⟨v,(hr v).2 ⟨d,hd,hdb⟩,hv⟩
  have hfind:∃ v,(open Classical in rest.find? fun v=>decide (OKp es nb N cs W l v))=some v/\v ∈ rest/\OKp es nb N cs W l v/\∀ u,OKp es nb N cs W l u->v<=u:=by
   have key:∀ r:List Nat,r.Pairwise (· < ·)->(∃ v ∈ r,OKp es nb N cs W l v)->∃ v,(open Classical in r.find? fun v=>decide (OKp es nb N cs W l v))=some v/\v ∈ r/\OKp es nb N cs W l v/\∀ u ∈ r,OKp es nb N cs W l u->v<=u:=by
    intro r
    induction r with
    | nil=>rintro _ ⟨v,hv,_⟩;simp at hv
    | cons a r ih=>
     intro hp hexr
     rw[List.pairwise_cons] at hp
     by_cases hok:OKp es nb N cs W l a
     .refine⟨a,by simp[hok],by simp,hok,fun u hu _ => ?_⟩
      rcases List.mem_cons.1 hu with rfl | hu
      .exact Nat.le_refl _
      .exact Nat.le_of_lt (hp.1 u hu)
     .obtain⟨v,hv,hvo⟩:=hexr
      have hvr:v ∈ r:=by
       rcases List.mem_cons.1 hv with rfl | hv
       .exact absurd hvo hok
       .exact hv
      obtain⟨x,x1,x2,x3,x4⟩:=ih hp.2 ⟨v,hvr,hvo⟩
      refine⟨x,by simp[hok];simpa using x1,by simp[x2],x3,fun u hu huo => ?_⟩
      rcases List.mem_cons.1 hu with rfl | hu
      .exact absurd huo hok
      .exact x4 u hu huo
   obtain⟨v,a1,a2,a3,a4⟩:=key rest hnd hex
   refine⟨v,a1,a2,a3,fun u hu=>a4 u ?_ hu⟩
   obtain⟨d,hd,hdb,_⟩:=hu
   exact (hr u).2 ⟨d,hd,hdb⟩
  obtain⟨v,x1,x2,x3,x4⟩:=hfind
  have eg:gre es nb N cs W (n+1) l rest=gre es nb N cs W n (l++[v]) (rest.erase v):=by
   show (match (open Classical in rest.find? fun v=>decide (OKp es nb N cs W l v)) with | some v=>gre es nb N cs W n (l++[v]) (rest.erase v) | none=>l)=_
   rw[x1]
  have x3':=x3
  obtain⟨c,hc,b1,b2,b3⟩:=x3'
  obtain⟨i0,hi0,hci⟩:=List.getElem_of_mem hc
  have hcs:cs[i0]? = some c:=by rw[List.getElem?_eq_getElem hi0,hci]
  have hvN:v<N:=R7 (Q88 (h.lt c hc) l) b1
  have hD:∀ i c,cs[i]? = some c->cs.getD i 0=c:=fun i c h=>by simp[List.getD_eq_getElem?_getD,h]
  obtain⟨i,f1,f2,f3⟩:=W92 (es:=es) (nb:=nb) (N:=N) (W:=W) (cs:=cs) (lefts:=cs.map (lft · l)) (v0:=v) (i0:=i0) hvN (by simpa using hi0) (by
    rw[B87,Q82 hcs,hD _ _ hcs];exact⟨b1,b2,b3⟩) (fun u j hu hj=>by
    cases hb:M72 es nb N W (cs.getD j 0) ((cs.map (lft · l)).getD j 0) u with
    | false=>rfl
    | true=>
     rw[List.length_map] at hj
     have hcj:cs[j]? = some cs[j]:=List.getElem?_eq_getElem hj
     rw[B87,Q82 hcj,hD _ _ hcj] at hb
     have:=x4 u ⟨cs[j],List.getElem_mem _,hb⟩
     omega) N 0 (by omega) (by omega)
  have hstep:Q73 es nb N W cs (l.map (fun (x:Nat)=>(x:Int)),cs.map (lft · l))=((l++[v]).map (fun (x:Nat)=>(x:Int)),cs.map (lft · (l++[v]))):=by
   unfold Q73
   dsimp only
   rw[f1]
   dsimp only
   rw[List.length_map] at f2
   have hcj:cs[i]? = some cs[i]:=List.getElem?_eq_getElem f2
   rw[B87,Q82 hcj] at f3
   have e1:l.map (fun (x:Nat)=>(x:Int))++[(v:Int)]=(l++[v]).map fun (x:Nat)=>(x:Int):=by simp
   rw[e1,Q82 hcj]
   congr 1
   apply List.ext_getElem?
   intro j
   rw[List.getElem?_set,List.length_map,List.getElem?_map,List.getElem?_map]
   by_cases e:i=j
   .subst e
    rw[if_pos rfl,if_pos f2,hcj]
    simp[Z72]
   .rw[if_neg e]
    cases hcj2:cs[j]? with
    | none=>rfl
    | some d=>
     simp only[Option.map_some]
     congr 1
     have hne:d≠cs[i]:=fun hd=>by
      rcases Nat.lt_or_gt_of_ne e with g | g
      .have:=List.pairwise_iff_getElem.1 h.dis i j f2 (N12 hcj2) g v (R75 _ f3.1)
       rw[(List.getElem?_eq_some_iff.1 hcj2).2,hd,R75 _ f3.1] at this;cases this
      .have:=List.pairwise_iff_getElem.1 h.dis j i (N12 hcj2) f2 g v (by rw[(List.getElem?_eq_some_iff.1 hcj2).2,hd];exact R75 _ f3.1)
       rw[R75 _ f3.1] at this;cases this
     exact (h.other (List.getElem_mem f2) (List.mem_of_getElem? hcj2) hne f3.1).symm
  show (E90 es nb N W cs n (Q73 es nb N W cs _)).1=_
  rw[hstep,eg]
  refine Y97 h hW n (l++[v]) (rest.erase v) (by rw[List.length_erase_of_mem x2];omega) (fun u => ?_) (hnd.sublist List.erase_sublist) (G91 h hF x3)
  have hnd2:rest.Nodup:=hnd.imp fun h=>Nat.ne_of_lt h
  rw[hnd2.mem_erase_iff,hr u]
  constructor
  .rintro⟨h1,c,h2,h3⟩
   refine⟨c,h2,?_⟩
   rw[Z72,N1,h3,Nat.testBit_two_pow];simp[Ne.symm h1]
  .rintro⟨c,h2,h3⟩
   rw[Z72,N1,Nat.testBit_two_pow,Bool.and_eq_true] at h3
   refine⟨fun e => ?_,c,h2,h3.1⟩
   rw[e] at h3;simp at h3
end
def V37(N f:Nat):List Nat:=(aY (N-f)).map fun j=>f+j
theorem E61:v ∈ V37 N f<->f<=v/\v<N:=by
 unfold V37;simp only[gN,cW]
 constructor
 .rintro⟨j,h,rfl⟩;omega
 .rintro⟨h1,h2⟩;exact⟨v-f,by omega,by omega⟩
theorem U49(N f:Nat):(V37 N f).Pairwise (· < ·):=by
 unfold V37;rw[List.pairwise_map];exact List.pairwise_lt_range.imp fun h=>by omega
theorem X73{es:List Nat}{N f:Nat}(hN:N<=6):J76 N (Z20 es N f)/\(∀ v,v ∈ V37 N f<->∃ c ∈ Z20 es N f,c.testBit v=true)/\(∀ c ∈ Z20 es N f,∀ u w,c.testBit u=true->f<=u->f<=w->adj es u w=true->w<N->c.testBit w=true) /\
  (∀ c ∈ Z20 es N f,∀ w,c.testBit w=true->f<=w/\w<N):=by
 obtain⟨h1,h2,h3⟩:=M56 (es:=D14 es (bnd N f)) hN;have J:∀ u w,adj (D14 es (bnd N f)) u w=true<->adj es u w=true/\(bnd N f).testBit u=true/\(bnd N f).testBit w=true:=by
  intro u w;unfold adj;simp only[aG,decide_eq_true_eq,dY,D14,List.mem_filterMap]
  constructor
  .rintro⟨h0,e,⟨x,hx,Q⟩,a1,a2⟩
   split at Q
   .cases Q
   .cases Q
    rw[bI,aG] at a1 a2;exact⟨⟨h0,x,hx,a1.1,a2.1⟩,a1.2,a2.2⟩
  .rintro⟨⟨h0,x,hx,a1,a2⟩,b1,b2⟩
   refine⟨h0,x &&& bnd N f,⟨x,hx,?_⟩,by rw[bI,a1,b1];rfl,by rw[bI,a2,b2];rfl⟩;rw[if_neg];intro e;have:(x &&& bnd N f).testBit u=true:=by rw[bI,a1,b1];rfl
   rw[e] at this;simp at this
 have O:∀ c ∈ Z20 es N f,c ∈ D19 (D14 es (bnd N f)) N/\∃ w,c.testBit w=true/\f<=w/\w<N:=fun c hc=>by
  obtain⟨a1,a2⟩:=dA.1 hc;refine⟨a1,?_⟩;obtain⟨w,hw⟩:=B14 (of_decide_eq_true a2);rw[bI,aG] at hw;obtain⟨b1,b2⟩:=E77.1 hw.2;exact⟨w,hw.1,b2,b1⟩
 have E:∀ c ∈ Z20 es N f,∀ w,c.testBit w=true->f<=w/\w<N:=fun c hc w hw=>by
  obtain⟨a1,u,a2,a3,a4⟩:=O c hc;obtain⟨v,hv,hI⟩:=h1 c a1;have V:f<=v:=by
   refine aI fun hn => ?_
   have:=hI.least (fun x=>x=v) rfl (fun x y hx hy=>by
    subst hx;have:=((U24 (by omega)).1 hy).2.2;have:=((J _ _).1 this).2.1;have:=(E77.1 this).2;omega) u a2
   omega
  have:=hI.least (fun x=>f<=x/\x<N) ⟨V,hv⟩ (fun x y hx hy=>by
   have:=((U24 (by omega)).1 hy).2.2;have:=E77.1 ((J _ _).1 this).2.2;omega) w hw
  exact this
 refine⟨⟨fun c hc => ?_,?_⟩,fun v => ?_,fun c hc u w hu Z a0 ha hw => ?_,E⟩
 .obtain⟨a1,_⟩:=O c hc
  obtain⟨v,hv,hI⟩:=h1 c a1;exact hI.lt
 .exact h2.filter _
 .rw[E61]
  constructor
  .rintro⟨a1,a2⟩
   obtain⟨c,b1,b2⟩:=(h3 v).1 a2;refine⟨c,dA.2 ⟨b1,?_⟩,b2⟩;simp only[ne_eq,decide_not,cJ,decide_eq_false_iff_not];intro e;have:(c &&& bnd N f).testBit v=true:=by rw[bI,b2,E77.2 ⟨a2,a1⟩];rfl
   rw[e] at this;simp at this
  .rintro⟨c,b1,b2⟩
   exact E c b1 v b2
 .obtain⟨a1,_⟩:=O c hc
  obtain⟨v,hv,hI⟩:=h1 c a1;have U:=(E c hc u hu).2;exact hI.closed u w hu ((U24 (by omega)).2 ⟨U,hw,(J u w).2 ⟨ha,E77.2 ⟨U,Z⟩,E77.2 ⟨hw,a0⟩⟩⟩)
end
section
variable {W:Rat} {b:Bag} {es l:List Nat} {v:Nat}
theorem M86(es:List Nat)(N set:Nat):D73 es N set=Lp.valT (V5 N set).length (D16 es set).length (sP es N set):=rfl
section
variable {es:List Nat} {N set:Nat}
theorem M109(hcov:∀ v,set.testBit v=true->∃ e ∈ es,e.testBit v=true)(h0:0<(V5 N set).length):1<=D73 es N set:=by
 rw[M86];exact Lp.val_ge (fun v hv=>G83 hcov hv) h0
theorem Y110(hcov:∀ v,set.testBit v=true->∃ e ∈ es,e.testBit v=true)(h0:0<(V5 N set).length)(Q:R10 es set=true):D73 es N set=1:=by
 have h1:=M109 hcov h0;have h2:D73 es N set<=1:=by
  obtain⟨e,he,hz⟩:=dY.1 Q;have hz:=of_decide_eq_true hz;have E:e &&& set=set:=by
   apply bZ;intro w;rw[bI]
   cases hw:set.testBit w with
   | false=>simp
   | true=>rw[M34.1 hz w hw];rfl
  have J:e &&& set≠0:=by
   rw[E];intro e0;rw[e0] at h0;simp[V5] at h0
  have hm:set ∈ D16 es set:=by
   have:=M83 set e J es [] he;rw[E] at this;exact this
  obtain⟨r,hr,O⟩:=gL hm;rw[M86];refine Lp.val_le (fun v hv=>G83 hcov hv) hr fun j hj => ?_
  unfold sP;have e1:(D16 es set).getD r 0=set:=by simp[aP,aE hr,O]
  have e2:(V5 N set).getD j 0=(V5 N set)[j]:=by simp[aP,aE hj]
  rw[e1,e2];exact(Q62.1 (List.getElem_mem hj)).2
 grind
theorem N90(hcov:∀ v,set.testBit v=true->∃ e ∈ es,e.testBit v=true)(h0:0<(V5 N set).length):Y74 es N set=D73 es N set:=by
 unfold Y74
 split
 .rename_i h;exact(Y110 hcov h0 h).symm
 .rfl
theorem J100(hcov:∀ v,set.testBit v=true->∃ e ∈ es,e.testBit v=true)(hle:es.length<=8):D73 es N set<=8:=by
 rw[M86];have h1:=Lp.val_small (n:=(V5 N set).length) (m:=(D16 es set).length) (s:=sP es N set) (fun v hv=>G83 hcov hv);have hm:(D16 es set).length<=8:=by have:=X79 set es [];simp[D16] at this ⊢;omega
 have h2:(((D16 es set).length:Nat):Rat)<=((8:Nat):Rat):=by exact_mod_cast hm
 have h3:((8:Nat):Rat)=8:=rfl;rw[h3] at h2
 grind
end
theorem R77{α:Type}{g:α->Rat}{W:Rat}:∀ {l:List α} {x:Rat},l.foldl (fun w b=>gr w (g b)) x<=W<->x<=W/\∀ b ∈ l,g b<=W
 | [],x=>by simp
 | a :: l,x=>by
  rw[dF,R77,B88];simp only[aU,forall_eq_or_imp,and_assoc]
def wdI(es:List Nat)(N:Nat)(bs:List Bag)(i:Nat):Rat:=(bs.take i).foldl (fun w b=>gr w (D73 es N (Y34 b))) 0
def wid(es:List Nat)(N f:Nat)(l:List Nat):Rat:=wdI es N (B50 es N f (l.map fun(x:Nat)=>(x:Int))) N
def gdp(es:List Nat)(N f:Nat)(W:Rat)(l:List Nat):Prop:=∀ p1 v p2,l=p1++v :: p2->Cst es (B2 es N) N (Z20 es N f) W p1 v
theorem X105{N f:Nat}:gdp es N f W (l++[v])<->gdp es N f W l/\Cst es (B2 es N) N (Z20 es N f) W l v:=by
 constructor
 .intro h
  exact⟨fun p1 u p2 e=>h p1 u (p2++[v]) (by rw[e];simp),h l v [] rfl⟩
 .rintro⟨h1,h2⟩ p1 u p2 e
  rcases List.eq_nil_or_concat p2 with rfl | ⟨q,x,rfl⟩
  .have:=List.append_inj' (s₁:=l) (t₁:=[v]) (s₂:=p1) (t₂:=[u]) e rfl
   obtain⟨rfl,e2⟩:=this
   cases e2
   exact h2
  .have e3:p1++u :: (q++[x])=(p1++u :: q)++[x]:=by simp
   rw[List.concat_eq_append,e3] at e;have:=List.append_inj' (s₁:=l) (t₁:=[v]) e rfl;exact h1 p1 u q this.1
theorem K104{P Q:Nat->Prop}(h:∀ x,P x<->Q x){w:Nat}:RB es P v w<->RB es Q v w:=by
 have e:P=Q:=funext fun x=>propext (h x)
 rw[e]
section
variable {es:List Nat} {N f:Nat}
structure IsP (N f:Nat) (l:List Nat):Prop where
 nd:l.Nodup
 mem:∀ v,v ∈ l<->f<=v/\v<N
theorem IsP.len(h:IsP N f l):l.length=N-f:=by
 have hp:l.Perm (V37 N f):=(List.perm_ext_iff_of_nodup h.nd ((U49 N f).imp fun h=>Nat.ne_of_lt h)).2 fun v=>by rw[h.mem,E61]
 rw[hp.length_eq];simp[V37]
theorem IsP.ok(h:IsP N f l)(hf:f<=N):V72 (l.map fun(x:Nat)=>(x:Int)) f N:=by
 refine⟨by rw[gM,h.len];omega,fun x hx => ?_,?_⟩
 .obtain⟨y,hy,rfl⟩:=gN.1 hx
  have:=(h.mem y).1 hy;omega
 .unfold List.Nodup
  rw[List.pairwise_map];exact List.Pairwise.imp (fun {a b} h e=>h (by omega)) h.nd
theorem N82(l:List Nat):Z85 N f (l.map fun(x:Nat)=>(x:Int))=l++(R6 f f).map Int.toNat:=by
 unfold Z85;rw[List.map_append,List.map_map];congr 1;simp[Function.comp_def]
theorem R105:IsP N f (V37 N f):=⟨(U49 N f).imp fun h=>Nat.ne_of_lt h,fun v=>E61⟩
theorem E108:upK f (N-f)=(V37 N f).map fun(x:Nat)=>(x:Int):=by
 unfold upK V37;rw[List.map_map];rfl
theorem N102{b':Bag}(h:∀ w,(Y34 b).testBit w=true<->(Y34 b').testBit w=true):Y34 b=Y34 b':=by
 apply bZ;intro w;rw[eX];exact h w
theorem N103(hN:N<=6)(hsm:∀ e ∈ es,e<2^N)(hf:f<=N){l':List Nat}(h:IsP N f l)(h':IsP N f l'){i:Nat}(hi:i<f):∃ b b',(B50 es N f (l.map fun(x:Nat)=>(x:Int)))[i]? = some b/\(B50 es N f (l'.map fun(x:Nat)=>(x:Int)))[i]? = some b'/\Y34 b=Y34 b':=by
 have E:i ∈ (R6 f f).map Int.toNat:=by
  obtain⟨J,h1,h2,h3,h4⟩:=J77 (h.ok hf);obtain rfl:=Y88 (n:=N) h1;have:=Q58 h2 h3 h4 (show i<N by omega);rw[N82,dN] at this;rcases this with h5 | h5
  .have:=(h.mem i).1 h5;omega
  .exact h5
 obtain⟨q1,q2,e⟩:=List.append_of_mem E;obtain⟨b,a1,a2⟩:=J83 (n:=N) (f:=f) (by omega) hsm (h.ok hf) (p1:=l++q1) (p2:=q2) (v:=i) (by rw[N82,e];simp);obtain⟨b',c1,c2⟩:=J83 (n:=N) (f:=f) (by omega) hsm (h'.ok hf) (p1:=l'++q1) (p2:=q2) (v:=i) (by rw[N82,e];simp);refine⟨b,b',a1,c1,N102 fun w => ?_⟩;rw[a2,c2];exact K104 fun x=>by rw[dN,dN,h.mem,h'.mem]
theorem D91(hN:N<=6)(hsm:∀ e ∈ es,e<2^N)(hf:f<=N)(h:IsP N f l){p1 p2:List Nat}{c:Nat}(e:l=p1++v :: p2)(hc:c ∈ Z20 es N f)(hv:(lft c p1).testBit v=true):
  ∃ b,(B50 es N f (l.map fun(x:Nat)=>(x:Int)))[v]? = some b/\Y34 b=C78 (B2 es N) N v c (lft c p1):=by
 obtain⟨hp,a6,a3,Q⟩:=X73 (es:=es) (f:=f) hN;have J:=R75 _ hv;obtain⟨a5,a0⟩:=Q c hc v J;obtain⟨b,a1,a2⟩:=J83 (n:=N) (f:=f) (by omega) hsm (h.ok hf) (p1:=p1) (p2:=p2++(R6 f f).map Int.toNat) (v:=v) (by rw[N82,e];simp);refine⟨b,a1,?_⟩;apply bZ;intro w;have hP:∀ x,(Z2 c (lft c p1)).testBit x=true<->c.testBit x=true/\x ∈ p1:=fun x=>by
  rw[N1,aG]
  constructor
  .rintro⟨h1,h2⟩
   refine⟨h1,aI fun hn => ?_⟩;rw[Z78.2 ⟨h1,hn⟩] at h2;simp at h2
  .rintro⟨h1,h2⟩
   refine⟨h1,?_⟩
   cases hb:(lft c p1).testBit x with
   | false=>rfl
   | true=>exact absurd h2 (Z78.1 hb).2
 have V:∀ x,x ∈ p1->f<=x/\x<N:=fun x hx=>(h.mem x).1 (by rw[e];simp[hx])
 have O:(Z2 c (lft c p1)).testBit v=false:=by rw[N1,hv];simp
 rw[eX,a2,Z105 hN hsm a0 O];have E:∀ u w,c.testBit u=true->C73 es u w->f<=w->c.testBit w=true:=fun u w hu ha hw=>a3 c hc u w hu (Q c hc u hu).1 hw ha (J88 hsm ha).2
 have a4:∀ u w,V9 (C73 es) (fun x=>(Z2 c (lft c p1)).testBit x=true) u w->c.testBit u=true->f<=w->c.testBit w=true:=by
  intro u w hr
  induction hr with
  | one ha=>exact fun hu hw=>E _ _ hu ha hw
  | more ha hx _ ih=>exact fun hu hw=>ih ((hP _).1 hx).1 hw
 have Z:∀ u w,V9 (C73 es) (· ∈ p1) u w->c.testBit u=true->V9 (C73 es) (fun x=>(Z2 c (lft c p1)).testBit x=true) u w:=by
  intro u w hr
  induction hr with
  | one ha=>exact fun _ => .one ha
  | more ha hx _ ih=>
   intro hu;have U:=E _ _ hu ha (V _ hx).1;exact .more ha ((hP _).2 ⟨U,hx⟩) (ih U)
 unfold RB
 constructor
 .rintro (rfl | ⟨h1,h2⟩)
  .exact .inl rfl
  .exact .inr ⟨fun hh=>h1 ((hP w).1 hh).2,Z v w h2 J⟩
 .rintro (rfl | ⟨h1,h2⟩)
  .exact .inl rfl
  .refine .inr ⟨fun hw=>h1 ((hP w).2 ⟨a4 v w h2 J (V w hw).1,hw⟩),h2.mono fun x hx=>((hP x).1 hx).2⟩
theorem U79{l:List Nat}(hN:N<=6)(hf:f<=N)(h:IsP N f l){i:Nat}(hi:(B50 es N f (l.map fun(x:Nat)=>(x:Int)))[i]? = some b):Y34 b<2^N/\0<(V5 N (Y34 b)).length:=by
 have E:i<N:=by have:=N12 hi;rw[U74] at this;exact this
 obtain⟨b',a1,a2,a3⟩:=Q95 (es:=es) (h.ok hf) hf E;rw[hi] at a1
 cases a1
 obtain⟨s1,s2,s3⟩:=J93 a2 a3 E (by omega);exact⟨s2,U43 E s3⟩
variable (hN:N<=6) (hsm:∀ e ∈ es,e<2^N) (hle:es.length<=8) (hcov:∀ w,w<N->∃ e ∈ es,e.testBit w=true) (hf:f<=N)
include hN hsm hle hcov hf
theorem K85{s:Nat}(hs:s<2^N):∀ v,s.testBit v=true->∃ e ∈ es,e.testBit v=true:=fun v hv=>hcov v (R7 hs hv)
theorem X102(h:IsP N f l):wid es N f l<=W<->fwI es N (B50 es N f (upK f (N-f))) f<=W/\gdp es N f W l:=by
 obtain⟨hp,a0,aa,a9⟩:=X73 (es:=es) (f:=f) hN;have a8:=U74 es N f (l.map fun(x:Nat)=>(x:Int));have V:=U74 es N f (upK f (N-f));unfold wid wdI fwI;rw[R77,R77,gJ (by omega)];have E:∀ i,i<f->∃ b b',(B50 es N f (l.map fun(x:Nat)=>(x:Int)))[i]? = some b/\(B50 es N f (upK f (N-f)))[i]? = some b'/\Y34 b=Y34 b'/\Y74 es N (Y34 b')=D73 es N (Y34 b):=fun i hi=>by
  rw[E108];obtain⟨b,b',a1,a2,a3⟩:=N103 hN hsm hf h (R105 (N:=N) (f:=f)) hi;obtain⟨s1,s2⟩:=U79 hN hf h a1;refine⟨b,b',a1,a2,a3,?_⟩;rw[<- a3];exact N90 (K85 hN hsm hle hcov hf s1) s2
 constructor
 .rintro⟨h0,h1⟩
  refine⟨⟨h0,fun b hb => ?_⟩,fun p1 v p2 e => ?_⟩
  .obtain⟨i,hi,rfl⟩:=gL hb
   rw[cK] at hi;rw[List.getElem_take];obtain⟨b,b',a1,a2,a3,a4⟩:=E i (by omega);rw[(aJ.1 a2).2,a4];exact h1 b (aH a1)
  .have Z:v ∈ l:=by rw[e];simp
   have a6:v ∉ p1:=by
    have:=h.nd;rw[e,List.nodup_append] at this;exact fun hv=>this.2.2 v hv v (by simp) rfl
   obtain⟨c,hc,a5⟩:=(a0 v).1 (E61.2 ((h.mem v).1 Z));have O:=Z78.2 ⟨a5,a6⟩;obtain⟨b,a1,a2⟩:=D91 hN hsm hf h e hc O;obtain⟨s1,s2⟩:=U79 hN hf h a1;refine⟨c,hc,O,?_⟩;unfold Y25;rw[<- a2,N90 (K85 hN hsm hle hcov hf s1) s2];exact h1 b (aH a1)
 .rintro⟨⟨h0,h1⟩,h2⟩
  refine⟨h0,fun b hb => ?_⟩;obtain⟨i,hi,rfl⟩:=gL hb;have J:=aE hi
  by_cases U:i<f
  .obtain⟨b,b',a1,a2,a3,a4⟩:=E i U
   rw[a1] at J
   cases J
   rw[<- a4];refine h1 b' (aH (i:=i) ?_);rw[aX,if_pos U];exact a2
  .have a7:i ∈ l:=(h.mem i).2 ⟨by omega,by omega⟩
   obtain⟨p1,p2,e⟩:=List.append_of_mem a7;obtain⟨c,hc,O,Q⟩:=h2 p1 i p2 e;obtain⟨b,a1,a2⟩:=D91 hN hsm hf h e hc O;obtain⟨s1,s2⟩:=U79 hN hf h a1;rw[a1] at J
   cases J
   unfold Y25 at Q;rw[<- a2,N90 (K85 hN hsm hle hcov hf s1) s2] at Q;exact Q
theorem K90:N64 es N f<=W<->fwI es N (B50 es N f (upK f (N-f))) f<=W/\∀ c ∈ Z20 es N f,M45 N (Y25 es (B2 es N) N c) c<=W:=by
 unfold N64 wI;rw[gJ (aD _),R77]
end
end
section
variable {l:List Nat}
theorem Y106{es nb:List Nat}{N:Nat}{cs:List Nat}{W:Rat}:∀(q p:List Nat),(∀ p1 v p2,p++q=p1++v :: p2->Cst es nb N cs W p1 v)->(∀ c ∈ cs,lft c (p++q)=0)->CW es nb N cs W p q
 | [],p,_,h2=>fun c hc=>by have:=h2 c hc;simpa using this
 | v :: q,p,h1,h2=>by
  have e:p++v :: q=(p++[v])++q:=by simp
  exact⟨h1 p v q rfl,Y106 q (p++[v]) (fun p1 u p2 e2=>h1 p1 u p2 (by rw[e];exact e2)) (by rw[<- e];exact h2)⟩
theorem Q105:∀(l:List Nat)(n:Nat),l.foldl (fun n c=>n+E9 c) n=n+M71 l:=by
 intro l
 induction l with
 | nil=>intro n;rfl
 | cons c l ih=>
  intro n;have e:M71 (c :: l)=l.foldl (fun n c=>n+E9 c) (0+E9 c):=rfl;rw[e,dF,ih,ih];omega
theorem C91{p q:Nat->Bool}:∀ {l:List Nat},(∀ x ∈ l,p x=true->q x=false)->(l.filter fun x=>p x || q x).length=(l.filter p).length+(l.filter q).length
 | [],_=>rfl
 | a :: l,h=>by
  have ih:=C91 (l:=l) fun x hx=>h x (by simp[hx])
  have ha:=h a (by simp)
  cases hp:p a with
  | true=>
   have hq:=ha hp;simp[hp,hq,ih];omega
  | false=>
   cases hq:q a with
   | true=>simp[hp,hq,ih];omega
   | false=>simp[hp,hq,ih]
theorem N97:∀{l:List Nat},l.Pairwise (fun c d=>∀ w,c.testBit w=true->d.testBit w=false)->M71 l=((aY 6).filter fun w=>l.any fun c=>c.testBit w).length
 | [],_=>by decide
 | c :: l,h=>by
  rw[List.pairwise_cons] at h;have e:M71 (c :: l)=E9 c+M71 l:=by
   show l.foldl (fun n c=>n+E9 c) (0+E9 c)=_;rw[Q105];omega
  rw[e,N97 h.2];have:=C91 (p:=fun w=>c.testBit w) (q:=fun w=>l.any fun d=>d.testBit w) (l:=aY 6) (fun x _ hx=>by
   cases hb:l.any fun d=>d.testBit x with
   | false=>rfl
   | true=>
    obtain⟨d,hd,E⟩:=dY.1 hb;rw[h.1 d hd x hx] at E;cases E)
  simp only[List.any_cons];rw[this]
  rfl
section
variable {es:List Nat} {N f:Nat}
theorem W105(hN:N<=6):M71 (Z20 es N f)=N-f:=by
 obtain⟨hp,J,Q,O⟩:=X73 (es:=es) (f:=f) hN;rw[N97 hp.dis];have E:((aY 6).filter fun w=>(Z20 es N f).any fun c=>c.testBit w).Perm (V37 N f):=by
  refine(List.perm_ext_iff_of_nodup (List.nodup_range.filter _) ((U49 N f).imp fun h=>Nat.ne_of_lt h)).2 fun v => ?_
  rw[dA,J v,dY,cW]
  constructor
  .rintro⟨_,c,h1,h2⟩;exact⟨c,h1,h2⟩
  .rintro⟨c,h1,h2⟩
   exact⟨by have:=(O c h1 v h2).2;omega,c,h1,h2⟩
 rw[E.length_eq];simp[V37]
open Classical in
def B99(es:List Nat)(N f:Nat)(l:List Nat):Bool:=decide (gdp es N f (N64 es N f) l/\∀ c ∈ Z20 es N f,lft c l=0)
open Classical in
theorem B92:B99 es N f l=true<->gdp es N f (N64 es N f) l/\∀ c ∈ Z20 es N f,lft c l=0:=by
 unfold B99;exact decide_eq_true_iff
theorem Y107(cs:List Nat):cs.map (lft · [])=cs:=by
 simp[lft]
theorem E88{α:Type}{p q:α->Bool}:∀ {l:List α},(∀ a ∈ l,p a=q a)->l.find? p=l.find? q
 | [],_=>rfl
 | a :: l,h=>by
  rw[List.find?_cons,List.find?_cons,h a (by simp),E88 fun b hb=>h b (by simp[hb])]
theorem C88:∀(n:Nat)(l rest x:List Nat),rest.length=n->x ∈ Q71 n l rest->∃ q,x=l++q/\q.Perm rest
 | 0,l,rest,x,hn,hx=>by
  have:=dT.1 hn;subst this;simp[Q71] at hx;exact⟨[],by simp[hx],List.Perm.refl _⟩
 | n+1,l,rest,x,hn,hx=>by
  have J:x ∈ rest.flatMap fun v=>Q71 n (l++[v]) (rest.erase v):=hx
  obtain⟨v,hv,E⟩:=List.mem_flatMap.1 J;obtain⟨q,e,hq⟩:=C88 n (l++[v]) (rest.erase v) x (by rw[List.length_erase_of_mem hv];omega) E;refine⟨v :: q,by rw[e];simp,?_⟩;exact(List.Perm.cons v hq).trans (List.perm_cons_erase hv).symm
theorem B76 {x:List Nat} (hx:x ∈ Q71 (N-f) [] (V37 N f)):IsP N f x:=by
 obtain⟨q,e,hq⟩:=C88 (N-f) [] (V37 N f) x (by simp[V37]) hx
 simp at e
 subst e
 exact⟨hq.nodup_iff.2 ((U49 N f).imp fun h=>Nat.ne_of_lt h),fun v=>by rw[hq.mem_iff,E61]⟩
variable (hN:N<=6) (hsm:∀ e ∈ es,e<2^N) (hle:es.length<=8) (hcov:∀ w,w<N->∃ e ∈ es,e.testBit w=true) (hf:f<=N)
include hN hsm hle hcov hf
theorem Q104(h:IsP N f l){W:Rat}(hW:0<=W)(hg:gdp es N f W l):M75 es (B2 es N) N (Z20 es N f) W []:=by
 obtain⟨hp,J,O,E⟩:=X73 (es:=es) (f:=f) hN;refine C96 hp hW (q:=l) (Y106 l [] (fun p1 v p2 e=>hg p1 v p2 (by simpa using e)) fun c hc => ?_);refine aI fun h0 => ?_
 obtain⟨u,hu⟩:=B14 h0;obtain⟨h1,h2⟩:=Z78.1 hu;exact h2 (by simpa using (h.mem u).2 (E c hc u h1))
theorem U91:0<=fwI es N (B50 es N f (upK f (N-f))) f:=by
 have:=(R77 (g:=fun b=>Y74 es N (Y34 b)) (W:=fwI es N (B50 es N f (upK f (N-f))) f) (l:=(B50 es N f (upK f (N-f))).take f) (x:=0)).1 (by unfold fwI;exact Rat.le_refl);exact this.1
theorem X96:0<=N64 es N f:=by
 have h1:=((K90 hN hsm hle hcov hf (W:=N64 es N f)).1 Rat.le_refl).1;have h2:=U91 hN hsm hle hcov hf
 grind
theorem Y94(h:IsP N f l):N64 es N f<=wid es N f l:=by
 obtain⟨h1,h2⟩:=(X102 hN hsm hle hcov hf h (W:=wid es N f l)).1 Rat.le_refl;have h3:=U91 hN hsm hle hcov hf;have hW:0<=wid es N f l:=by grind
 exact(K90 hN hsm hle hcov hf).2 ⟨h1,Q104 hN hsm hle hcov hf h hW h2⟩
theorem W101(h:IsP N f l):wid es N f l<=8:=by
 unfold wid wdI;rw[R77];refine⟨by decide,fun b hb => ?_⟩;obtain⟨i,hi,rfl⟩:=gL (List.mem_of_mem_take hb);obtain⟨s1,s2⟩:=U79 hN hf h (aE hi);exact J100 (K85 hN hsm hle hcov hf s1) hle
theorem G99:∃ g,(Q71 (N-f) [] (V37 N f)).find? (fun l=>decide (wid es N f l<=N64 es N f))=some g/\R82 es N f=g.map (fun (x:Nat)=>(x:Int))/\wid es N f g=N64 es N f/\N64 es N f<=8:=by
 obtain⟨hp,hp2,hp3,hp4⟩:=X73 (es:=es) (f:=f) hN
 have hW:=X96 hN hsm hle hcov hf
 obtain⟨hfw,hco⟩:=(K90 hN hsm hle hcov hf (W:=N64 es N f)).1 Rat.le_refl
 have hF:M75 es (B2 es N) N (Z20 es N f) (N64 es N f) []:=hco
 have hlen:(V37 N f).length=N-f:=by simp[V37]
 have hnd:(V37 N f).Nodup:=(U49 N f).imp fun h=>Nat.ne_of_lt h
 have hmem:∀ v,v ∈ V37 N f<->∃ c ∈ Z20 es N f,(lft c []).testBit v=true:=hp2
 obtain⟨h1,_⟩:=V82 (es:=es) (nb:=B2 es N) (N:=N) (cs:=Z20 es N f) (W:=N64 es N f) hp hW (good:=B99 es N f) (goodp:=gdp es N f (N64 es N f))
  (fun l=>B92) (fun l v=>X105) (N-f) [] (V37 N f) hlen hmem hnd
 obtain⟨h2,h3⟩:=h1 ⟨fun p1 v p2 e=>by simp at e,hF⟩
 have hfind:(Q71 (N-f) [] (V37 N f)).find? (fun l=>decide (wid es N f l<=N64 es N f))=some (gre es (B2 es N) N (Z20 es N f) (N64 es N f) (N-f) [] (V37 N f)):=by
  rw[<- h2]
  refine E88 fun l hl => ?_
  have hi:=B76 hl
  rw[Bool.eq_iff_iff,decide_eq_true_eq,B92,X102 hN hsm hle hcov hf hi]
  constructor
  .rintro⟨_,h⟩
   refine⟨h,fun c hc => ?_⟩
   refine Classical.byContradiction fun h0 => ?_
   obtain⟨u,hu⟩:=B14 h0
   obtain⟨a1,a2⟩:=Z78.1 hu
   exact a2 ((hi.mem u).2 (hp4 c hc u a1))
  .rintro⟨h,_⟩
   exact⟨hfw,h⟩
 refine⟨_,hfind,?_,?_,?_⟩
 .unfold R82 W85
  rw[Q97,W105 hN]
  have:=Y97 hp hW (N-f) [] (V37 N f) hlen hmem (U49 N f) hF
  rw[Y107] at this
  exact this
 .have ha:=List.find?_some hfind
  have hb:=List.mem_of_find?_eq_some hfind
  have hc:=Y94 hN hsm hle hcov hf (B76 hb)
  have hd:=of_decide_eq_true ha
  grind
 .have hb:=List.mem_of_find?_eq_some hfind
  have hc:=Y94 hN hsm hle hcov hf (B76 hb)
  have hd:=W101 hN hsm hle hcov hf (B76 hb)
  grind
end
end
end Go.Proofs.YtoiioigihocgbaaGreatDoor
