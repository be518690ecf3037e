/-
  Plain: a graph has an elimination order without fill that ends with the free vertices exactly if it is acyclic,has no free path and no disruptive trio.
  Plain: the best width is at most 1 exactly if the graph is acyclic,has no free path and no disruptive trio.
  Plain: the nearest order by trying all (the reference) and with cuts (the program) is one.
-/
import Derived.Test.YtoiioigihocgbaaGreatDoorN19
import Derived.Test.YtoiioigihocgbaaGreatDoorN17
set_option linter.all false
noncomputable section
namespace Go.Clo
variable {A:Nat->Nat->Prop} {P:Nat->Prop} {a b f n:Nat} {es l:List Nat}
structure IsW (A:Nat->Nat->Prop) (P:Nat->Prop) (a b:Nat) (l:List Nat):Prop where
 len:2<=l.length
 first:l[0]? = some a
 last:∀(i:Nat),i+1=l.length->l[i]? = some b
 step:∀(i x y:Nat),l[i]? = some x->l[i+1]? = some y->A x y
 inn:∀(i x:Nat),l[i]? = some x->0<i->i+1<l.length->P x
theorem V9.walk(h:V9 A P a b):∃ l,IsW A P a b l:=by
 induction h with
 | @one u w h1=>
  refine⟨[u,w],by simp,rfl,fun i hi => ?_,fun i x y hx hy => ?_,fun i x hx h0 h1 => ?_⟩
  .have:i=1:=by simp at hi;omega
   subst this;rfl
  .rcases i with _ | i
   .simp at hx hy;subst hx;subst hy;exact h1
   .simp at hy
  .simp at h1;omega
 | @more u x w h1 h2 _ ih=>
  obtain⟨l,hl⟩:=ih;have h3:=hl.len;refine⟨u :: l,by simp;omega,rfl,fun i hi => ?_,fun i y z hy hz => ?_,fun i y hy h0 hi => ?_⟩
  .rcases i with _ | i
   .simp at hi;subst hi;simp at h3
   .rw[List.getElem?_cons_succ];exact hl.last i (by simpa using hi)
  .rcases i with _ | i
   .rw[List.getElem?_cons_succ,hl.first] at hz
    simp at hy;cases hz;subst hy;exact h1
   .rw[List.getElem?_cons_succ] at hy hz;exact hl.step i y z hy hz
  .rcases i with _ | i
   .omega
   .rw[List.getElem?_cons_succ] at hy
    rcases i with _ | i
    .rw[hl.first] at hy;cases hy;exact h2
    .exact hl.inn (i+1) y hy (by omega) (by simpa using hi)
theorem K51{p:List Nat->Prop}:∀(n:Nat) (l:List Nat),l.length<=n->p l->∃ l,p l/\∀ l',p l'->l.length<=l'.length
 | 0,l,h,hp=>⟨l,hp,fun l' _=>by omega⟩
 | n+1,l,h,hp=>by
  by_cases hx:∃ l',p l'/\l'.length<l.length
  .obtain⟨l',h1,h2⟩:=hx
   exact K51 n l' (by omega) h1
  .exact⟨l,hp,fun l' h'=>Classical.byContradiction fun hn=>hx ⟨l',h',by omega⟩⟩
theorem Y68{l:List Nat}{i k:Nat}(hi:i<l.length)(hk:i<k)(p:Nat):(l.take (i+1)++l.drop k)[p]? = if p<=i then l[p]? else l[k+(p-(i+1))]? := by
 have h1:(l.take (i+1)).length=i+1:=by rw[List.length_take];omega
 by_cases h:p<=i
 .rw[if_pos h,List.getElem?_append_left (by omega),List.getElem?_take,if_pos (by omega)]
 .rw[if_neg h,List.getElem?_append_right (by omega),h1,List.getElem?_drop]
theorem IsW.cut(h:IsW A P a b l){i k:Nat}(hi:i<l.length)(Q:i+1<k)(hk:k<=l.length)(h1:∀ x y,l[i]? = some x->l[k]? = some y->A x y)
  (h2:k=l.length->l[i]? = some b)(h3:2<=i+1+(l.length-k)):IsW A P a b (l.take (i+1)++l.drop k):=by
 have hg:=Y68 hi (show i<k by omega);have O:(l.take (i+1)++l.drop k).length=i+1+(l.length-k):=by rw[List.length_append,List.length_take,List.length_drop];omega
 refine⟨by omega,?_,fun p hp => ?_,fun p x y hx hy => ?_,fun p x hx h0 hp => ?_⟩
 .rw[hg,if_pos (Nat.zero_le _)];exact h.first
 .rw[hg]
  by_cases E:p<=i
  .rw[if_pos E]
   obtain rfl:p=i:=by omega
   exact h2 (by omega)
  .rw[if_neg E];exact h.last _ (by omega)
 .rw[hg] at hx hy
  by_cases E:p+1<=i
  .rw[if_pos (by omega)] at hx;rw[if_pos E] at hy;exact h.step p x y hx hy
  .rw[if_neg E] at hy
   by_cases J:p<=i
   .rw[if_pos J] at hx
    obtain rfl:p=i:=by omega
    exact h1 x y hx (by rw[show k+(p+1-(p+1))=k by omega] at hy;exact hy)
   .rw[if_neg J] at hx
    rw[show k+(p+1-(i+1))=k+(p-(i+1))+1 by omega] at hy;exact h.step _ x y hx hy
 .rw[hg] at hx
  by_cases E:p<=i
  .rw[if_pos E] at hx;exact h.inn p x hx h0 (by omega)
  .rw[if_neg E] at hx;exact h.inn _ x hx (by omega) (by omega)
def ChP(A:Nat->Nat->Prop)(l:List Nat):Prop:=∀(i j x y:Nat),i<j->l[i]? = some x->l[j]? = some y->x≠y/\(A x y<->i+1=j)
theorem V9.chordless(h:V9 A P a b)(J:a≠b):∃ l,IsW A P a b l/\ChP A l:=by
 obtain⟨l0,h0⟩:=h.walk;obtain⟨l,hl,hm⟩:=K51 l0.length l0 (Nat.le_refl _) h0;refine⟨l,hl,fun i j x y Q hx hy => ?_⟩;have hj:j<l.length:=(List.getElem?_eq_some_iff.1 hy).1;have E:=fun k (hk:k<=l.length) (hik:i+1<k)=>(show(l.take (i+1)++l.drop k).length=i+1+(l.length-k) by rw[List.length_append,List.length_take,List.length_drop];omega)
 constructor
 .rintro rfl
  have h3:2<=i+1+(l.length-(j+1)):=by
   by_cases hc:i=0/\j+1=l.length
   .obtain⟨rfl,h5⟩:=hc
    have e1:=hl.first;have e2:=hl.last j h5;rw[hx] at e1;rw[hy] at e2
    cases e1;cases e2;exact absurd rfl J
   .omega
  have:=hm _ (hl.cut (i:=i) (k:=j+1) (by omega) (by omega) (by omega) (fun x' y' e1 e2=>by
   rw[hx] at e1;cases e1;exact hl.step j _ _ hy e2) (fun e=>by rw[hx,<- hy];exact hl.last j e) h3)
  rw[E _ (by omega) (by omega)] at this;omega
 .constructor
  .intro hA
   refine Classical.byContradiction fun O => ?_
   have:=hm _ (hl.cut (i:=i) (k:=j) (by omega) (by omega) (by omega) (fun x' y' e1 e2=>by
    rw[hx] at e1;cases e1;rw[hy] at e2;cases e2;exact hA) (fun e=>by omega) (by omega))
   rw[E _ (by omega) (by omega)] at this;omega
  .rintro rfl
   exact hl.step i x y hx hy
structure V28 (A:Nat->Nat->Prop) (n f:Nat) (l:List Nat):Prop where
 len:3<=l.length
 ch:ChP A l
 lt:∀(i x:Nat),l[i]? = some x->x<n
 ends:∀(i x:Nat),l[i]? = some x->(x<f<->i=0\/i+1=l.length)
def FOk(A:Nat->Nat->Prop)(p:List Nat)(v:Nat):Prop:=∀(i x:Nat),p[i]? = some x->x≠v/\(A x v<->i+1=p.length)
inductive J13 (A:Nat->Nat->Prop) (n f:Nat):List Nat->Prop
 | last {p:List Nat} {v:Nat}:FOk A p v->v<n->v<f->1<p.length->J13 A n f p
 | more {p:List Nat} {v:Nat}:FOk A p v->v<n->(p.length=0->v<f)->(p.length=1->f<=v)->¬ (1<p.length/\v<f)->J13 A n f (p++[v])->J13 A n f p
theorem J51{A:Nat->Nat->Prop}{n f:Nat}{l:List Nat}(h:V28 A n f l):∀ d i,i+d+1=l.length->J13 A n f (l.take i)
 | d,i,hi=>by
  have h3:=h.len;obtain⟨v,hv⟩:∃ v,l[i]? = some v:=⟨_,List.getElem?_eq_getElem (by omega)⟩
  have J:(l.take i).length=i:=by rw[List.length_take];omega
  have E:FOk A (l.take i) v:=fun q x hx=>by
   rw[List.getElem?_take] at hx
   split at hx
   .rename_i hq
    rw[J];exact h.ch q i x v hq hx hv
   .cases hx
  have he:=h.ends i v hv
  cases d with
  | zero=>exact .last E (h.lt i v hv) (he.2 (.inr (by omega))) (by omega)
  | succ d=>
   refine .more E (h.lt i v hv) (fun e=>he.2 (.inl (by omega))) (fun e => ?_) (fun⟨e1,e2⟩ => ?_) ?_
   .have:¬ v<f:=fun e'=>by have:=he.1 e';omega
    omega
   .have:=he.1 e2;omega
   .have e:l.take i++[v]=l.take (i+1):=by rw[List.take_add_one,hv];rfl
    rw[e];exact J51 h d (i+1) (by omega)
theorem K66{p:List Nat}(h:J13 A n f p):ChP A p->(∀(i x:Nat),p[i]? = some x->x<n/\(x<f<->i=0))->∃ l,V28 A n f l:=by
 have app:∀(p:List Nat) (v i x:Nat),(p++[v])[i]? = some x->(i<p.length/\p[i]? = some x)\/(i=p.length/\x=v):=fun p v i x hx=>by
  by_cases hi:i<p.length
  .rw[List.getElem?_append_left hi] at hx;exact .inl ⟨hi,hx⟩
  .rw[List.getElem?_append_right (by omega)] at hx
   have:i=p.length:=by
    rcases Nat.lt_or_ge p.length i with h | h
    .rw[List.getElem?_eq_none (by simp;omega)] at hx;cases hx
    .omega
   subst this;simp at hx;exact .inr ⟨rfl,hx.symm⟩
 have J:∀ {p:List Nat} {v:Nat},ChP A p->FOk A p v->ChP A (p++[v]):=fun {p v} hc E i j x y O hx hy=>by
  rcases app p v j y hy with ⟨h1,h2⟩ | ⟨rfl,rfl⟩
  .rcases app p v i x hx with ⟨h3,h4⟩ | ⟨rfl,rfl⟩
   .exact hc i j x y O h4 h2
   .omega
  .rcases app p _ i x hx with ⟨h3,h4⟩ | ⟨h3,_⟩
   .exact E i x h4
   .omega
 induction h with
 | @last p v E hn hf hl=>
  intro hc hp;refine⟨p++[v],by simp;omega,J hc E,fun i x hx => ?_,fun i x hx => ?_⟩
  .rcases app p v i x hx with ⟨h1,h2⟩ | ⟨_,rfl⟩
   .exact(hp i x h2).1
   .exact hn
  .rw[List.length_append,List.length_singleton]
   rcases app p v i x hx with ⟨h1,h2⟩ | ⟨rfl,rfl⟩
   .rw[(hp i x h2).2];omega
   .exact⟨fun _ => .inr rfl,fun _=>hf⟩
 | @more p v E hn h0 h1 h2 _ ih=>
  intro hc hp;refine ih (J hc E) fun i x hx => ?_
  rcases app p v i x hx with ⟨h1,h2⟩ | ⟨rfl,rfl⟩
  .exact hp i x h2
  .exact⟨hn,by omega⟩
theorem V19:J13 A n f []<->∃ l,V28 A n f l:=by
 constructor
 .exact fun h=>K66 h (fun i j x y _ hx _=>by simp at hx) (fun i x hx=>by simp at hx)
 .rintro⟨l,h⟩
  have h3:=h.len;exact J51 h (l.length-1) 0 (by omega)
theorem X50{es:List Nat}{n f:Nat}{fr l:List Nat}(J:∀ x ∈ fr,x<f)(h:V28 (V3 es) n f l):∀ {q:List Nat},(∀ x ∈ q,f<=x)->D6 es (q++fr)->(∀ x ∈ l,x ∈ q++fr)->False
 | [],_,_,hm=>by
  have h3:=h.len;have h1:l[1]? = some l[1]:=List.getElem?_eq_getElem (by omega);have:=(h.ends 1 _ h1).1 (J _ (hm _ (List.mem_of_getElem? h1)));omega
 | v :: q,hq,g,hm=>by
  have h3:=h.len
  by_cases hv:v ∈ l
  .obtain⟨i,hi⟩:=List.getElem?_of_mem hv
   have V:=(List.getElem?_eq_some_iff.1 hi).1;have hn:¬ (i=0\/i+1=l.length):=fun e=>by
    have:=(h.ends i v hi).2 e;have:=hq v (by simp);omega
   obtain⟨a,ha⟩:∃ a,l[i-1]? = some a:=⟨_,List.getElem?_eq_getElem (by omega)⟩
   obtain⟨b,hb⟩:∃ b,l[i+1]? = some b:=⟨_,List.getElem?_eq_getElem (by omega)⟩
   have a1:=h.ch (i-1) i a v (by omega) ha hi;have b1:=h.ch i (i+1) v b (by omega) hi hb;have c1:=h.ch (i-1) (i+1) a b (by omega) ha hb;have O:=(a1.2.2 (by omega)).symm;have U:=b1.2.2 rfl;obtain⟨e,e1,e2,e3⟩:=g.1 O.cov;have E:∀ x,x ∈ l->x≠v->x ∈ q++fr:=fun x hx Q=>by
    rcases List.mem_cons.1 (hm x hx) with h4 | h4
    .exact absurd h4 Q
    .exact h4
   have:=c1.2.1 ⟨c1.1,e,e1,e3 a (E a (List.mem_of_getElem? ha) a1.1) O,e3 b (E b (List.mem_of_getElem? hb) b1.1.symm) U⟩;omega
  .refine X50 J h (fun x hx=>hq x (by simp[hx])) g.2 fun x hx => ?_
   rcases List.mem_cons.1 (hm x hx) with h4 | h4
   .subst h4;exact absurd hx hv
   .exact h4
open Classical in
theorem C45(hA:∀ a b,A a b->A b a)(hI:∀ a,¬ A a a){W:List Nat}(hl:PEO A l)(hW:∀ w ∈ W,w ∈ l){S:Nat->Prop}
  (a0:∀ a b,a ∈ W->b ∈ W->S a->S b->a≠b->V9 A (fun z=>z ∈ W/\¬ S z) a b->A a b){x:Nat}(hx:x ∈ W)(V:¬ S x):∃ v ∈ W,¬ S v/\Sim A W v:=by
 obtain⟨P,hP⟩:∃ P:Nat->Prop,P=fun z=>z ∈ W/\¬ S z:=⟨_,rfl⟩
 obtain⟨C,hC⟩:∃ C:Nat->Prop,C=fun y=>P y/\(y=x\/V9 A P x y):=⟨_,rfl⟩
 obtain⟨K,hK⟩:∃ K:Nat->Prop,K=fun y=>y ∈ W/\S y/\∃ c,C c/\A c y:=⟨_,rfl⟩
 have Q:P x:=by rw[hP];exact⟨hx,V⟩
 have E:∀ c y,C c->A c y->V9 A P x y:=fun c y hc ha=>by
  rw[hC] at hc;rcases hc.2 with e | h
  .rw[<- e];exact .one ha
  .exact h.trans hc.1 (.one ha)
 have U:∀ y,C y->y ∈ W/\¬ S y:=fun y h=>by rw[hC,hP] at h;exact h.1
 obtain⟨v,h1,h2,h3⟩:=K65 hA hI (hl.filter fun y=>decide (C y\/K y)) (K:=K) (fun a b ka kb _ _ O=>by
  rw[hK] at ka kb;obtain⟨a1,a2,c,a3,a4⟩:=ka;obtain⟨b1,b2,d,b3,b4⟩:=kb;refine a0 a b a1 b1 a2 b2 O ?_;rw[<- hP];exact V9.join hA (fun _ h=>h) Q (E c a a3 a4) (E d b b3 b4)) ⟨x,List.mem_filter.2 ⟨hW x hx,decide_eq_true (.inl (by rw[hC];exact⟨Q,.inl rfl⟩))⟩,fun h=>by rw[hK] at h;exact V h.2.1⟩
 have J:C v:=by
  rcases of_decide_eq_true (List.mem_filter.1 h1).2 with h | h
  .exact h
  .exact absurd h h2
 have hm:∀ a,a ∈ W->A v a->a ∈ l.filter fun y=>decide (C y\/K y):=fun a ha Z=>by
  refine List.mem_filter.2 ⟨hW a ha,decide_eq_true ?_⟩
  by_cases hs:S a
  .exact .inr (by rw[hK];exact⟨ha,hs,v,J,Z⟩)
  .exact .inl (by rw[hC];exact⟨by rw[hP];exact⟨ha,hs⟩,.inr (E v a J Z)⟩)
 exact⟨v,(U v J).1,(U v J).2,fun a ha b hb O ga gb=>h3 a (hm a ha ga) b (hm b hb gb) O ga gb⟩
theorem G29{A:Nat->Nat->Prop}(hA:∀ a b,A a b->A b a)(hI:∀ a,¬ A a a){l:List Nat}(hl:PEO A l){f n:Nat}(hf:f<=n)(E:∀ v,v<n->v ∈ l)
  (O:∀ a b,a<f->b<f->a≠b->V9 A (fun z=>z<n/\f<=z) a b->A a b):∀(k:Nat) (R:List Nat),R.length=k->R.Nodup->(∀ x ∈ R,f<=x/\x<n) ->
  ∃ q:List Nat,q.Nodup/\(∀ x,x ∈ q<->x ∈ R)/\∀ p1 v p2,q=p1++v :: p2->∀ a b,(a ∈ p2\/a<f)->(b ∈ p2\/b<f)->a≠b->A v a->A v b->A a b
 | 0,R,hk,_,_=>⟨[],List.nodup_nil,fun x=>by rw[List.length_eq_zero_iff.1 hk],fun p1 v p2 e=>by simp at e⟩
 | k+1,R,hk,hnd,hR=>by
  obtain⟨x,hx⟩:∃ x,x ∈ R:=by
   cases R with
   | nil=>simp at hk
   | cons x _=>exact⟨x,by simp⟩
  have Q:=hR x hx;obtain⟨v,h1,h2,h3⟩:=C45 hA hI (W:=R++List.range f) hl (fun w hw=>by
   rcases List.mem_append.1 hw with h | h
   .exact E w (hR w h).2
   .have:=List.mem_range.1 h;exact E w (by omega)) (S:=fun y=>y<f) (fun a b _ _ sa sb J r=>O a b sa sb J (r.mono fun z hz=>by
    rcases List.mem_append.1 hz.1 with h | h
    .exact⟨(hR z h).2,(hR z h).1⟩
    .exact absurd (List.mem_range.1 h) hz.2)) (x:=x) (List.mem_append_left _ hx) (by omega)
  have hv:v ∈ R:=by
   rcases List.mem_append.1 h1 with h | h
   .exact h
   .exact absurd (List.mem_range.1 h) h2
  obtain⟨q,q1,q2,q3⟩:=G29 hA hI hl hf E O k (R.erase v) (by rw[List.length_erase_of_mem hv];omega) (hnd.erase v) (fun y hy=>hR y (List.mem_of_mem_erase hy));have hq:∀ y,y ∈ q<->y≠v/\y ∈ R:=fun y=>by rw[q2,hnd.mem_erase_iff]
  refine⟨v :: q,List.nodup_cons.2 ⟨fun h=>((hq v).1 h).1 rfl,q1⟩,fun y => ?_,fun p1 u p2 e a b ha hb J ga gb => ?_⟩
  .rw[List.mem_cons,hq]
   constructor
   .rintro (rfl | h)
    .exact hv
    .exact h.2
   .intro h
    by_cases e:y=v
    .exact .inl e
    .exact .inr ⟨e,h⟩
  .cases p1 with
   | nil=>
    simp at e;obtain⟨rfl,rfl⟩:=e;have hm:∀ y,(y ∈ q\/y<f)->y ∈ R++List.range f:=fun y hy=>by
     rcases hy with h | h
     .exact List.mem_append_left _ ((hq y).1 h).2
     .exact List.mem_append_right _ (List.mem_range.2 h)
    exact h3 a (hm a ha) b (hm b hb) J ga gb
   | cons w p1=>
    rw[List.cons_append] at e;injection e with e1 e2;exact q3 p1 u p2 e2 a b ha hb J ga gb
def D9:Nat->List Nat
 | 0=>[]
 | k+1=>k :: D9 k
theorem D10{x:Nat}:∀ {k:Nat},x ∈ D9 k<->x<k
 | 0=>by simp[D9]
 | k+1=>by rw[D9,List.mem_cons,D10];omega
theorem Z60{c:Nat}:∀ {k:Nat},c<k->∃ p1,D9 k=p1++c :: D9 c
 | 0,h=>by omega
 | k+1,h=>by
  by_cases e:c=k
  .subst e;exact⟨[],rfl⟩
  .obtain⟨p1,h1⟩:=Z60 (k:=k) (c:=c) (by omega)
   exact⟨k :: p1,by rw[D9,h1];rfl⟩
def D53(es:List Nat)(f:Nat):Prop:=∃ a b c,a<b/\b<c/\c<f/\V3 es a c/\V3 es b c/\¬ V3 es a b
theorem K29{es:List Nat}(hl:D6 es l)(J:∀ v,U6 es v->v ∈ l){v:Nat}{T:Nat->Prop}(hc:U6 es v)(h:∀ a b,T a->T b->a≠b->V3 es v a->V3 es v b->V3 es a b):∃ e ∈ es,e.testBit v=true/\∀ w,T w->V3 es v w->e.testBit w=true:=by
 have E:∀ q,(q=v\/(T q/\V3 es v q))->U6 es q:=fun q hq=>by
  rcases hq with rfl | ⟨_,hq⟩
  .exact hc
  .exact hq.symm.cov
 obtain⟨e,h1,h2⟩:=B38 hl (Q:=fun q=>q=v\/(T q/\V3 es v q)) (fun q hq=>J q (E q hq)) ⟨v,.inl rfl⟩ E (fun a b ha hb O=>by
  rcases ha with rfl | ⟨a1,a2⟩
  .rcases hb with rfl | ⟨b1,b2⟩
   .exact absurd rfl O
   .exact b2
  .rcases hb with rfl | ⟨b1,b2⟩
   .exact a2.symm
   .exact h a b a1 b1 O a2 b2)
 exact⟨e,h1,h2 v (.inl rfl),fun w hw ha=>h2 w (.inr ⟨hw,ha⟩)⟩
theorem B33{es fr:List Nat}(E:D6 es fr):∀ {q:List Nat},(∀ p1 v p2,q=p1++v :: p2->U6 es v->∃ e ∈ es,e.testBit v=true/\∀ w ∈ p2++fr,V3 es v w->e.testBit w=true)->D6 es (q++fr)
 | [],_=>E
 | v :: q,h=>⟨h [] v q rfl,B33 E fun p1 u p2 e=>h (v :: p1) u p2 (by rw[e];rfl)⟩
theorem R48(hf:f<=n)(Q:∀ v,U6 es v<->v<n):
  (∃ q:List Nat,q.Nodup/\(∀ v,v ∈ q<->f<=v/\v<n)/\D6 es (q++D9 f))<->PE es/\¬ J13 (V3 es) n f []/\¬ D53 es f:=by
 constructor
 .rintro⟨q,q1,q2,q3⟩
  have E:∀ v,v<n->v ∈ q++D9 f:=fun v hv=>by
   rw[List.mem_append,q2,D10];omega
  refine⟨⟨_,fun v hv=>E v ((Q v).1 hv),q3⟩,fun h => ?_,?_⟩
  .obtain⟨l,hl⟩:=V19.1 h
   exact X50 (fun x hx=>D10.1 hx) hl (fun x hx=>((q2 x).1 hx).1) q3 fun x hx=>by
    obtain⟨i,hi⟩:=List.getElem?_of_mem hx;exact E x (hl.lt i x hi)
  .rintro⟨a,b,c,h1,h2,h3,h4,h5,h6⟩
   obtain⟨p1,e⟩:=Z60 h3;rw[e,<- List.append_assoc] at q3;obtain⟨e,e1,e2,e3⟩:=q3.at h4.symm.cov;exact h6 ⟨by omega,e,e1,e3 a (D10.2 (by omega)) h4.symm,e3 b (D10.2 (by omega)) h5.symm⟩
 .rintro⟨⟨l,hl,hp⟩,V,U⟩
  have hA:∀ a b,V3 es a b->V3 es b a:=fun a b h=>h.symm
  have hI:∀ a,¬ V3 es a a:=fun a h=>h.1 rfl
  have E:∀ v,v<n->v ∈ l:=fun v hv=>hl v ((Q v).2 hv)
  have W:∀ a b,a<f->b<f->a≠b->V9 (V3 es) (fun z=>z<n/\f<=z) a b->V3 es a b:=fun a b ha hb J r=>by
   refine Classical.byContradiction fun hn=>V (V19.2 ?_)
   obtain⟨l,hl,hc⟩:=r.chordless J;have h2:=hl.len;have h3:3<=l.length:=by
    refine Classical.byContradiction fun h=>hn ?_
    exact hl.step 0 a b hl.first (hl.last 1 (by omega))
   have O:∀ i x,l[i]? = some x->(i=0/\x=a)\/(i+1=l.length/\x=b)\/(¬ (i=0\/i+1=l.length)/\x<n/\f<=x):=fun i x hx=>by
    have Z:=(List.getElem?_eq_some_iff.1 hx).1
    by_cases e0:i=0
    .subst e0
     have:=hl.first;rw[hx] at this;cases this;exact .inl ⟨rfl,rfl⟩
    by_cases e1:i+1=l.length
    .have:=hl.last i e1
     rw[hx] at this;cases this;exact .inr (.inl ⟨e1,rfl⟩)
    .exact .inr (.inr ⟨by omega,hl.inn i x hx (by omega) (by omega)⟩)
   refine⟨l,h3,hc,fun i x hx => ?_,fun i x hx => ?_⟩
   .rcases O i x hx with ⟨_,rfl⟩ | ⟨_,rfl⟩ | ⟨_,h,_⟩<;>omega
   .rcases O i x hx with ⟨_,rfl⟩ | ⟨_,rfl⟩ | ⟨h,h',_⟩<;>omega
  obtain⟨q,q1,q2,q3⟩:=G29 hA hI hp.peo hf E W _ ((List.range n).filter fun v=>decide (f<=v)) rfl (List.nodup_range.filter _) (fun x hx=>by simp at hx;omega);refine⟨q,q1,fun v=>by rw[q2];simp;omega,B33 ?_ fun p1 v p2 e hc => ?_⟩
  .have key:∀ k,k<=f->D6 es (D9 k):=fun k=>by
    induction k with
    | zero=>exact fun _=>trivial
    | succ k ih=>
     intro hk;refine⟨fun hc => ?_,ih (by omega)⟩;obtain⟨e,e1,e2,e3⟩:=K29 hp hl (T:=fun w=>w<k) hc fun a b ha hb J ga gb=>by
      refine Classical.byContradiction fun hn=>U ?_
      rcases Nat.lt_or_gt_of_ne J with h | h
      .exact⟨a,b,k,h,hb,by omega,ga.symm,gb.symm,hn⟩
      .exact⟨b,a,k,h,ha,by omega,gb.symm,ga.symm,fun h=>hn h.symm⟩
     exact⟨e,e1,e2,fun w hw ha=>e3 w (D10.1 hw) ha⟩
   exact key f (Nat.le_refl _)
  .obtain⟨e',e1,e2,e3⟩:=K29 hp hl (T:=fun w=>w ∈ p2\/w<f) hc fun a b ha hb J ga gb=>q3 p1 v p2 e a b ha hb J ga gb
   exact⟨e',e1,e2,fun w hw ha=>e3 w (by rw[List.mem_append,D10] at hw;exact hw) ha⟩
end Go.Clo

namespace Go.Proofs.YtoiioigihocgbaaGreatDoor
open Go.Clo
variable {es:List Nat}
theorem B15{a b:Nat}:adj es a b=true<->V3 es a b:=by
 unfold adj V3;simp only[Bool.and_eq_true,decide_eq_true_eq,List.any_eq_true]
theorem J46{es:List Nat}{s:Nat}:R10 es s=true<->∃ e ∈ es,∀ w,s.testBit w=true->e.testBit w=true:=by
 unfold R10;rw[List.any_eq_true]
 constructor
 .rintro⟨e,h1,h2⟩;exact⟨e,h1,M34.1 (of_decide_eq_true h2)⟩
 .rintro⟨e,h1,h2⟩;exact⟨e,h1,decide_eq_true (M34.2 h2)⟩
theorem J38(f:Nat):∀ i,i<=f->(R6 f i).map Int.toNat++D9 (f-i)=D9 f
 | 0,_=>rfl
 | i+1,h=>by
  rw[R6,List.map_append,List.append_assoc];have e:[((f:Int)-1-(i:Int))].map Int.toNat++D9 (f-(i+1))=D9 (f-i):=by
   have e1:f-i=(f-(i+1))+1:=by omega
   rw[e1,D9];have e2:((f:Int)-1-(i:Int)).toNat=f-(i+1):=by omega
   simp[e2]
  rw[e];exact J38 f i (by omega)
theorem V35(f:Nat):(R6 f f).map Int.toNat=D9 f:=by
 have:=J38 f f (Nat.le_refl _);rw[Nat.sub_self] at this;simpa [D9] using this
section
variable {es:List Nat} {N f:Nat} (hN:N<=6) (hsm:∀ e ∈ es,e<2^N) (hle:es.length<=8) (hcov:∀ w,w<N->∃ e ∈ es,e.testBit w=true) (hf:f<=N)
include hN hsm hle hcov hf
theorem J69{l:List Nat}(h:IsP N f l):(l++D9 f).Nodup:=by
 rw[List.nodup_append];refine⟨h.nd,?_,fun a ha b hb => ?_⟩
 .have key:∀ k,(D9 k).Nodup:=fun k=>by
   induction k with
   | zero=>exact List.nodup_nil
   | succ k ih=>exact List.nodup_cons.2 ⟨fun h=>by have:=D10.1 h;omega,ih⟩
  exact key f
 .have h1:=(h.mem a).1 ha
  have h2:=D10.1 hb;omega
end
end Go.Proofs.YtoiioigihocgbaaGreatDoor

namespace Go.Proofs.YtoiioigihocgbaaGreatDoor
open Go.Clo Go.Inv
variable {Q:List Nat->Nat->Prop} {f v:Nat} {p:List Nat}
def R5(p:List Nat):Nat:=inv (p.map fun(x:Nat)=>(x:Int))
theorem D40(p:List Nat)(v:Nat):R5 (p++[v])=R5 p+p.countP fun x=>decide (v<x):=by
 unfold R5;rw[List.map_append,List.map_singleton,K34,N19,Q21,List.countP_map];have e:inv [(v:Int)]=0:=by simp[inv,less]
 rw[e];simp only[Nat.add_zero];congr 1;apply List.countP_congr;intro x _;simp[Function.comp]
theorem W66(p:List Nat)(v:Nat):R5 p<=R5 (p++[v]):=by rw[D40];omega
def Lss(p:List Nat)(best:Option (List Nat)):Prop:=∀ b,best=some b->R5 p<R5 b
open Classical in
def nr(f:Nat)(P:List Nat->Prop):Nat->List Nat->Option (List Nat)->Option (List Nat)
 | 0,p,best=>if Lss p best/\P p then some p else best
 | k+1,p,best=>(List.range f).foldl (fun s v=>if v ∈ p then s else nr f P k (p++[v]) s) best
open Classical in
def pr(f:Nat)(Q:List Nat->Nat->Prop):Nat->List Nat->Option (List Nat)->Option (List Nat)
 | 0,p,best=>if Lss p best then some p else best
 | k+1,p,best=>if Lss p best then(List.range f).foldl (fun s v=>if v ∉ p/\Q p v then pr f Q k (p++[v]) s else s) best else best
theorem X32{α β:Type}{g:α->β->α}{a:α}:∀ {l:List β},(∀ x ∈ l,g a x=a)->l.foldl g a=a
 | [],_=>rfl
 | x :: l,h=>by rw[List.foldl_cons,h x (by simp),X32 fun y hy=>h y (by simp[hy])]
theorem W50{α β:Type}{g g':α->β->α}:∀ {l:List β} {a:α},(∀ x ∈ l,∀ a,g a x=g' a x)->l.foldl g a=l.foldl g' a
 | [],_,_=>rfl
 | x :: l,a,h=>by rw[List.foldl_cons,List.foldl_cons,h x (by simp),W50 fun y hy=>h y (by simp[hy])]
theorem B57{f:Nat}{P:List Nat->Prop}{b:List Nat}:∀(k:Nat) (p:List Nat),R5 b<=R5 p->nr f P k p (some b)=some b
 | 0,p,h=>by
  rw[nr,if_neg];rintro⟨h1,_⟩;have:=h1 b rfl;omega
 | k+1,p,h=>by
  rw[nr];refine X32 fun v _ => ?_
  split
  .rfl
  .exact B57 k _ (Nat.le_trans h (W66 p v))
theorem N22(h:p.Nodup)(hv:v ∉ p):(p++[v]).Nodup:=by
 rw[List.nodup_append];exact⟨h,by simp,fun a ha b hb e=>by simp at hb;subst hb;subst e;exact hv ha⟩
theorem K22{p:List Nat}{v:Nat}(h:∀ x ∈ p,x<f)(hv:v<f):∀ x ∈ p++[v],x<f:=fun x hx=>by
 rcases List.mem_append.1 hx with hx | hx
 .exact h x hx
 .simp at hx;omega
theorem X36{f:Nat}{P:List Nat->Prop}:∀(k:Nat) (p:List Nat) (best:Option (List Nat)),p.Nodup->(∀ x ∈ p,x<f)->p.length+k=f->(∀ r:List Nat,(p++r).Nodup->(∀ x ∈ p++r,x<f)->(p++r).length=f->¬ P (p++r))->nr f P k p best=best
 | 0,p,best,h1,h2,h3,h=>by
  rw[nr,if_neg];rintro⟨_,h4⟩;have:=h [];rw[List.append_nil] at this;exact this h1 h2 (by omega) h4
 | k+1,p,best,h1,h2,h3,h=>by
  rw[nr];refine X32 fun v hv => ?_
  have hv:v<f:=by simpa using hv
  split
  .rfl
  .rename_i hp
   refine X36 k _ best (N22 h1 hp) (K22 h2 hv) (by simp;omega) fun r a1 a2 a3 => ?_
   have:=h (v :: r);rw[List.append_assoc,List.singleton_append] at a1 a2 a3 ⊢;exact this a1 a2 a3
def M24(Q:List Nat->Nat->Prop)(p:List Nat):Prop:=∀ p1 v p2,p=p1++v :: p2->Q p1 v
theorem B61:M24 Q []:=fun p1 v p2 h=>by simp at h
theorem Z61(h:M24 Q p)(hv:Q p v):M24 Q (p++[v]):=by
 intro p1 u p2 e;rcases List.eq_nil_or_concat p2 with rfl | ⟨p3,w,rfl⟩
 .obtain⟨e1,e2⟩:=List.append_inj' e rfl
  simp at e2;subst e1 e2;exact hv
 .rw[show p1++u :: p3.concat w=(p1++u :: p3)++[w] by simp[List.concat_eq_append]] at e
  obtain⟨e1,_⟩:=List.append_inj' e rfl;exact h p1 u p3 e1
theorem R65{f:Nat}{P:List Nat->Prop}{Q:List Nat->Nat->Prop}(E:∀ q:List Nat,q.Nodup->(∀ x ∈ q,x<f)->q.length=f->(P q<->M24 Q q)):∀(k:Nat) (p:List Nat) (best:Option (List Nat)),p.Nodup->(∀ x ∈ p,x<f)->p.length+k=f->M24 Q p->pr f Q k p best=nr f P k p best
 | 0,p,best,h1,h2,h3,h=>by
  rw[pr,nr];have:=(E p h1 h2 (by omega)).2 h
  by_cases hl:Lss p best
  .rw[if_pos hl,if_pos ⟨hl,this⟩]
  .rw[if_neg hl,if_neg fun g=>hl g.1]
 | k+1,p,best,h1,h2,h3,h=>by
  rw[pr]
  by_cases hl:Lss p best
  .rw[if_pos hl,nr]
   refine W50 fun v hv s => ?_
   have hv:v<f:=by simpa using hv
   by_cases hp:v ∈ p
   .simp[hp]
   .by_cases hQ:Q p v
    .rw[if_pos ⟨hp,hQ⟩,if_neg hp]
     exact R65 E k _ s (N22 h1 hp) (K22 h2 hv) (by simp;omega) (Z61 h hQ)
    .rw[if_neg (fun a=>hQ a.2),if_neg hp]
     refine(X36 k _ s (N22 h1 hp) (K22 h2 hv) (by simp;omega) fun r a1 a2 a3 hP => ?_).symm;have hg:=(E _ a1 a2 a3).1 hP;exact hQ (hg p v r (by simp))
  .rw[if_neg hl]
   obtain⟨b,rfl,hb⟩:∃ b,best=some b/\R5 b<=R5 p:=by
    cases best with
    | none=>exact absurd (fun b e=>by cases e) hl
    | some b=>exact⟨b,rfl,Classical.byContradiction fun hn=>hl fun b' e=>by cases e;omega⟩
   exact(B57 (k+1) p hb).symm
theorem U36{f:Nat}{P:List Nat->Prop}:∀(k:Nat) (p:List Nat) (best:Option (List Nat)),p.length+k=f->(∀ b,best=some b->b.length=f)->∀ b,nr f P k p best=some b->b.length=f
 | 0,p,best,h1,h2,b,h=>by
  rw[nr] at h
  split at h
  .cases h;omega
  .exact h2 b h
 | k+1,p,best,h1,h2,b,h=>by
  rw[nr] at h;have key:∀(l:List Nat) (s:Option (List Nat)),(∀ b,s=some b->b.length=f)->∀ b,l.foldl (fun s v=>if v ∈ p then s else nr f P k (p++[v]) s) s=some b->b.length=f:=by
   intro l
   induction l with
   | nil=>intro s hs b hb;exact hs b hb
   | cons v l ih=>
    intro s hs b hb;rw[List.foldl_cons] at hb;refine ih _ (fun b' E => ?_) b hb
    split at E
    .exact hs b' E
    .exact U36 k _ s (by simp;omega) hs b' E
  exact key _ best h2 b h
theorem R68:∀ x,x<64->∀ w,w<6->∀ v,v<6->x.testBit w=false->E9 ((x ||| 2^w) >>> v)=E9 (x >>> v)+if v<=w then 1 else 0:=by
 have h:((List.range 64).all fun x=>(List.range 6).all fun w=>(List.range 6).all fun v=>x.testBit w || decide (E9 ((x ||| 2^w) >>> v)=E9 (x >>> v)+if v<=w then 1 else 0))=true:=by decide +kernel
 intro x hx w hw v hv hb;have h1:=List.all_eq_true.1 h x (by simpa using hx);have h2:=List.all_eq_true.1 h1 w (by simpa using hw);have h3:=List.all_eq_true.1 h2 v (by simpa using hv);rw[hb,Bool.false_or] at h3;exact of_decide_eq_true h3
def E6(f:Nat)(p:List Nat):Nat:=Q1 (fun w=>decide (w ∈ p)) f
theorem D44{f:Nat}(hf:f<=6)(p:List Nat):E6 f p<64:=by
 have:=G11 (fun w=>decide (w ∈ p)) f;have h2:2^f<=2^6:=Nat.pow_le_pow_right (by omega) hf;unfold E6;omega
theorem Q20(f:Nat)(p:List Nat)(w:Nat):(E6 f p).testBit w=(decide (w<f)&&decide (w ∈ p)):=C2 _ _ _
theorem V62(hv:v<f):E6 f p ||| 2^v=E6 f (p++[v]):=by
 unfold E6;rw[Q38 hv];refine N25 fun w _ => ?_
 simp
theorem R52{v:Nat}(hv:v<f):E6 f (v :: p)=E6 f p ||| 2^v:=by
 unfold E6;rw[Q38 hv];refine N25 fun w _ => ?_
 simp[Bool.or_comm]
theorem N39(f:Nat):E6 f []=0:=by
 apply Nat.eq_of_testBit_eq;intro w;rw[Q20];simp
theorem M43{f v:Nat}(hf:f<=6)(hv:v<f):∀ {p:List Nat},p.Nodup->(∀ x ∈ p,x<f)->v ∉ p->E9 (E6 f p >>> v)=p.countP fun x=>decide (v<x)
 | [],_,_,_=>by rw[N39,Nat.zero_shiftRight];rfl
 | w :: p,h1,h2,h3=>by
  rw[List.nodup_cons] at h1;have hw:=h2 w (by simp);have hb:(E6 f p).testBit w=false:=by rw[Q20];simp[h1.1]
  rw[R52 hw,R68 _ (D44 hf p) w (by omega) v (by omega) hb,M43 hf hv h1.2 (fun x hx=>h2 x (by simp[hx])) (fun h=>h3 (by simp[h])),List.countP_cons];congr 1;have J:v≠w:=fun e=>h3 (by simp[e])
  by_cases E:v<=w
  .rw[if_pos E,if_pos (by simp;omega)]
  .rw[if_neg E,if_neg (by simp;omega)]
def G12(es:List Nat)(p:List Nat)(v:Nat):Prop:=∀ a ∈ p,∀ b ∈ p,a≠b->V3 es v a->V3 es v b->V3 es a b
def nlF(es:List Nat)(n f:Nat):List Nat:=(List.range f).map fun v=>Q1 (adj es v) n
theorem D51(es:List Nat)(n f:Nat):(nlF es n f).length=f:=by simp[nlF]
theorem Z23(es:List Nat)(n:Nat){f v:Nat}(hv:v<f):(nlF es n f)[v]? = some (Q1 (adj es v) n):=by simp[nlF,hv]
theorem G67{es p:List Nat}{n:Nat}(hf:f<=n)(hp:∀ x ∈ p,x<f):(∀ u x:Nat,u<f->(nlF es n f)[u]? = some x->(Q1 (adj es v) n &&& E6 f p).testBit u=true->Z2 (Q1 (adj es v) n &&& E6 f p) x=2^u)<->G12 es p v:=by
 have hb:∀ u,(Q1 (adj es v) n &&& E6 f p).testBit u=true<->u ∈ p/\V3 es v u:=fun u=>by
  rw[Nat.testBit_and,C2,Q20,Bool.and_eq_true,Bool.and_eq_true,Bool.and_eq_true,decide_eq_true_eq,decide_eq_true_eq,decide_eq_true_eq,B15]
  constructor
  .rintro⟨⟨_,h1⟩,_,h2⟩;exact⟨h2,h1⟩
  .rintro⟨h1,h2⟩
   have:=hp u h1;exact⟨⟨by omega,h2⟩,this,h1⟩
 constructor
 .intro h a ha b J V h1 h2
  have O:=hp a ha;have W:=hp b J;have e:=h a _ O (Z23 es n O) ((hb a).2 ⟨ha,h1⟩);have e2:=N1 (Q1 (adj es v) n &&& E6 f p) (Q1 (adj es a) n) b;rw[e,(hb b).2 ⟨J,h2⟩,Nat.testBit_two_pow,decide_eq_false V,C2,decide_eq_true (show b<n by omega),Bool.true_and,Bool.true_and] at e2;refine B15.1 ?_
  cases hx:adj es a b with
  | true=>rfl
  | false=>rw[hx] at e2;cases e2
 .intro h u x hu hx E
  rw[Z23 es n hu] at hx
  cases hx
  obtain⟨h1,h2⟩:=(hb u).1 E;apply Nat.eq_of_testBit_eq;intro w;rw[N1,Nat.testBit_two_pow,C2]
  by_cases hw:u=w
  .subst hw
   rw[E,E43];simp
  .rw[decide_eq_false hw]
   cases U:(Q1 (adj es v) n &&& E6 f p).testBit w with
   | false=>rfl
   | true=>
    obtain⟨h3,h4⟩:=(hb w).1 U;have:=hp w h3;rw[B15.2 (h u h1 w h3 hw h2 h4),decide_eq_true (show w<n by omega)];rfl
end Go.Proofs.YtoiioigihocgbaaGreatDoor
