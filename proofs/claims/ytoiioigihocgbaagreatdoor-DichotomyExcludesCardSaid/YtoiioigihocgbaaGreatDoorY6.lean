/-
Plain: least widths as orders;the bag of a solver by reachability.
-/
import Derived.Test.YtoiioigihocgbaaGreatDoorY5
import Derived.KernelRfl
import Derived.Test.YtoiioigihocgbaaGreatDoorY4
import Derived.Test.YtoiioigihocgbaaGreatDoorY1
set_option maxHeartbeats 8000000
set_option maxRecDepth 100000
set_option linter.all false
noncomputable section
open Bool renaming and_eq_true->aG,eq_false_iff->bN,eq_iff_iff->eX,false_eq_true->dQ,not_eq_true'->cJ,or_eq_true->cO,true_and->iA
open Classical renaming byContradiction->aI,propDecidable->fJ
open Go.Instr renaming findNow->dP
open Go.Proofs.Tryz renaming prog->gQ
open Go.Value renaming bool->dU,int->cD
open List renaming any_eq_true->dY,append_nil->gV,countP_eq_length_filter->fS,ext_getElem?->dH,foldl_cons->dF,getD_cons_zero->fZ,getD_eq_getElem?_getD->aP,getElem?_append_left->bQ,getElem?_eq_getElem->aE,getElem?_eq_none->aT,getElem?_eq_some_iff->aJ,getElem?_map->cP,getElem?_of_mem->cH,getElem?_set->cQ,getElem_of_mem->gL,length_append->bH,length_cons->cV,length_eq_zero_iff->dT,length_filter_lt_length_iff_exists->fG,length_map->gM,length_replicate->iC,length_set->dO,length_singleton->gU,length_take->cK,mem_append->dN,mem_append_left->dX,mem_cons->aU,mem_cons_of_mem->eJ,mem_filter->dA,mem_map->gN,mem_of_getElem?->aH,mem_range->cW,mem_singleton->dJ,nodup_append->gT,nodup_cons->hO,pairwise_iff_getElem->fD,range->aY,replicate->aF,take_of_length_le->gJ
open List.Nodup renaming length_le_of_subset->iB
open Nat renaming add_assoc->eH,add_zero->eM,ble->dD,eq_of_testBit_eq->bZ,eq_zero_or_pos->cI,le_of_lt->eG,le_refl->aD,le_trans->bK,lt_of_le_of_lt->iF,lt_of_lt_of_le->aO,lt_or_ge->aW,mul_one->eQ,pow_le_pow_right->aK,testBit_and->bI,testBit_or->aV,testBit_two_pow->aR,testBit_two_pow_sub_one->dC,two_pow_pos->aQ,zero_add->cF,zero_testBit->jQ
open Ne renaming symm->eT
open Option renaming elim_some->aN,map_eq_some_iff->bU
namespace Go.Clo
theorem B88{x y w:Rat}:gr x y<=w<->x<=w/\y<=w:=by
 unfold gr
 split<;>grind
theorem U107{w c W:Rat}{acc:Option Rat}:(∃ b,Z75 w c acc=some b/\b<=W)<->(∃ b,acc=some b/\b<=W)\/(w<=W/\c<=W):=by
 unfold Z75
 cases acc with
 | none=>simp[B88]
 | some b=>
  dsimp only
  by_cases h1:b<=w
  .rw[if_pos h1]
   constructor
   .rintro⟨x,hx,h⟩
    cases hx
    exact .inl ⟨_,rfl,h⟩
   .rintro (⟨x,hx,h⟩ | ⟨h2,h3⟩)
    .exact⟨x,hx,h⟩
    .exact⟨b,rfl,by grind⟩
  .rw[if_neg h1]
   by_cases h2:gr w c<b
   .rw[if_pos h2]
    constructor
    .rintro⟨x,hx,h⟩
     cases hx
     exact .inr (B88.1 h)
    .rintro (⟨x,hx,h⟩ | h)
     .cases hx
      exact⟨_,rfl,by grind⟩
     .exact⟨_,rfl,B88.2 h⟩
   .rw[if_neg h2]
    constructor
    .rintro⟨x,hx,h⟩
     exact .inl ⟨x,hx,h⟩
    .rintro (⟨x,hx,h⟩ | h)
     .exact⟨x,hx,h⟩
     .have:=B88.2 h
      exact⟨b,rfl,by grind⟩
theorem C97{N:Nat}{f:Nat->Nat->Rat}{left:Nat}{W:Rat}:∀ i,(∃ b,M70 N f left i=some b/\b<=W)<->∃ v,v<i/\left.testBit v=true/\M45 N f (Z2 left (2^v))<=W/\f v left<=W
 | 0=>by simp[M70]
 | i+1=>by
  have ih:=@C97 N f left W i;rw[M76]
  by_cases hb:left.testBit i=true
  .rw[if_pos hb,U107,ih]
   constructor
   .rintro (⟨v,h1,h2⟩ | h)
    .exact⟨v,O0,h2⟩
    .exact⟨i,O0,hb,h⟩
   .rintro⟨v,h1,h2,h3⟩
    by_cases e:v=i
    .subst e;exact .inr h3
    .exact .inl ⟨v,O0,h2,h3⟩
  .rw[if_neg hb,ih]
   constructor
   .rintro⟨v,h1,h2⟩
    exact⟨v,O0,h2⟩
   .rintro⟨v,h1,h2,h3⟩
    refine⟨v,?_,h2,h3⟩
    by_cases e:v=i
    .subst e;exact absurd h2 hb
    .omega
theorem W90{N:Nat}{f:Nat->Nat->Rat}{left:Nat}(hl:left<2^N){W:Rat}(hW:0<=W):M45 N f left<=W<->left=0\/∃ v,left.testBit v=true/\M45 N f (Z2 left (2^v))<=W/\f v left<=W:=by
 rw[C77]
 by_cases h0:left=0
 .rw[if_pos h0];simp[h0,hW]
 .rw[if_neg h0]
  obtain⟨u,hu⟩:=B14 h0;obtain⟨b,hb⟩:=Y84 (N:=N) (f:=f) (left:=left) (i:=N) ⟨u,R7 hl hu,hu⟩;have:=@C97 N f left W N;rw[hb] at this ⊢;simp only[h0,false_or,Option.getD_some]
  constructor
  .intro h
   obtain⟨v,h1,h2⟩:=this.1 ⟨b,rfl,h⟩;exact⟨v,h2⟩
  .rintro⟨v,h2⟩
   obtain⟨x,hx,h⟩:=this.2 ⟨v,R7 hl h2.1,h2⟩
   cases hx
   exact h
end Go.Clo
namespace Go.Proofs.YtoiioigihocgbaaGreatDoor
open Go.Clo
theorem V87{nb:List Nat}{gone v:Nat}(P:Nat->Prop)(hP:∀ u w,P u->(u=v\/gone.testBit u=true)->(nb.getD u 0).testBit w=true->P w):∀(f r b:Nat),(∀ w,r.testBit w=true->P w)->b<64->(∀(u x:Nat),nb[u]? = some x->x<64) ->
  (∀ w,b.testBit w=true->P w)->∀ w,(Z65 nb gone v f r b).testBit w=true->P w
 | 0,r,b,hr,_,_,_=>hr
 | f+1,r,b,hr,h64,hnb,hb=>by
  intro w hw;have E:(if b=0 then r else if tz b=v\/gone.testBit (tz b)=true then Z65 nb gone v f (r ||| 2^tz b) (Z2 b (2^tz b) ||| Z2 (nb.getD (tz b) 0) (r ||| 2^tz b)) else Z65 nb gone v f (r ||| 2^tz b) (Z2 b (2^tz b)):Nat).testBit w=true:=hw
  by_cases h0:b=0
  .rw[if_pos h0] at E;exact hr w E
  rw[if_neg h0] at E;have W:=V33 h64 O0;have Q:=hb _ W;have U:∀ w,(r ||| 2^tz b).testBit w=true->P w:=fun w hw=>by
   rw[aV,cO,aR] at hw;rcases hw with h | h
   .exact hr w h
   .have:tz b=w:=by simpa using h
    rw[<- this];exact Q
  have O:∀ w,(Z2 b (2^tz b)).testBit w=true->P w:=fun w hw=>by
   rw[N1,aG] at hw;exact hb w hw.1
  have V:nb.getD (tz b) 0<64:=by
   rw[aP]
   cases hg:nb[tz b]? with
   | none=>show 0<64;omega
   | some x=>exact hnb _ _ hg
  have J:∀ {a b:Nat},a<64->Z2 a b<64:=fun h=>Z6 (n:=6) h
  split at E
  .rename_i hc
   refine V87 P hP f _ _ U (Nat.or_lt_two_pow (n:=6) (J h64) (J V)) hnb (fun w hw => ?_) w E;rw[aV,cO] at hw;rcases hw with h | h
   .exact O w h
   .rw[N1,aG] at h
    exact hP _ w Q hc h.1
  .exact V87 P hP f _ _ U (J h64) hnb O w E
theorem Z81{nb:List Nat}{gone v N:Nat}(hN:N<=6)(O:∀(u x:Nat),nb[u]? = some x->x<2^N):∀(f r b:Nat),f+(V5 N r).length=N->r<2^N->b<2^N->(∀ w,b.testBit w=true->r.testBit w=false) ->
  (∀ u w,r.testBit u=true->(u=v\/gone.testBit u=true)->(nb.getD u 0).testBit w=true->r.testBit w=true\/b.testBit w=true) ->
  ∀ u w,(Z65 nb gone v f r b).testBit u=true->(u=v\/gone.testBit u=true)->(nb.getD u 0).testBit w=true->(Z65 nb gone v f r b).testBit w=true
 | 0,r,b,hf,hr,hb,hd,hc=>by
  have h0:b=0:=X20 hb hd O0;subst h0;intro u w hu hg hw;rcases hc u w hu hg hw with h | h
  .exact h
  .simp at h
 | f+1,r,b,hf,hr,hb,hd,hc=>by
  intro u w hu hg hw;have a4:2^N<=64:=aK (n:=2) O0 hN
  by_cases h0:b=0
  .have e:Z65 nb gone v (f+1) r b=r:=if_pos h0
   rw[e] at hu ⊢;rcases hc u w hu hg hw with h | h
   .exact h
   .rw[h0] at h;simp at h
  have a3:=V33 (x:=b) O0 O0;have Z:=hd _ a3;have Q:=B54 (N:=N) (x:=b) O0 O0 hb;have a5:=N50 Q Z;have hx:nb.getD (tz b) 0<2^N:=by
   rw[aP]
   cases hg:nb[tz b]? with
   | none=>exact aQ _
   | some x=>exact O _ _ hg
  have V:∀ w,(Z2 b (2^tz b)).testBit w=true->(r ||| 2^tz b).testBit w=false:=fun w hw=>by
   rw[N1,aR] at hw;rw[aV,aR];simp at hw;rw[hd w hw.1];simp[hw.2]
  have W:∀ x y,(r ||| 2^tz b).testBit x=true->x≠tz b->(x=v\/gone.testBit x=true)->(nb.getD x 0).testBit y=true->(r ||| 2^tz b).testBit y=true\/(Z2 b (2^tz b)).testBit y=true:=fun x y hx a0 J hy=>by
   rw[aV,cO,aR] at hx;have a2:r.testBit x=true:=by
    rcases hx with h | h
    .exact h
    .exact absurd (by simpa using h) (eT a0)
   by_cases e:y=tz b
   .left;rw[aV,aR];simp[e]
   .rcases hc x y a2 J hy with h | h
    .left;rw[aV,h];rfl
    .right
     rw[N1,h,aR];simp[eT e]
  by_cases E:tz b=v\/gone.testBit (tz b)=true
  .have e:Z65 nb gone v (f+1) r b=Z65 nb gone v f (r ||| 2^tz b) (Z2 b (2^tz b) ||| Z2 (nb.getD (tz b) 0) (r ||| 2^tz b)):=by
    show(if b=0 then r else _:Nat)=_;rw[if_neg h0,if_pos E]
   rw[e] at hu ⊢;refine Z81 hN O f _ _ O0 (Z26 hr (R27 Q)) (Z26 (Z6 hb) (Z6 hx)) (fun x hx => ?_) (fun x y hx J hy => ?_) u w hu hg hw
   .rw[aV,cO] at hx
    rcases hx with h | h
    .exact V x h
    .rw[N1,aG] at h
     simpa using h.2
   .by_cases ex:x=tz b
    .subst ex
     by_cases U:(r ||| 2^tz b).testBit y=true
     .exact .inl U
     .right
      have a1:(r ||| 2^tz b).testBit y=false:=by simpa using U
      rw[aV,N1 (nb.getD (tz b) 0),hy,a1];simp
    .rcases W x y hx ex J hy with h | h
     .exact .inl h
     .right;rw[aV,h];rfl
  .have e:Z65 nb gone v (f+1) r b=Z65 nb gone v f (r ||| 2^tz b) (Z2 b (2^tz b)):=by
    show(if b=0 then r else _:Nat)=_;rw[if_neg h0,if_neg E]
   rw[e] at hu ⊢;refine Z81 hN O f _ _ O0 (Z26 hr (R27 Q)) (Z6 hb) V (fun x y hx J hy => ?_) u w hu hg hw;have ex:x≠tz b:=fun e=>E (e ▸ J)
   exact W x y hx ex J hy
theorem Z105{es:List Nat}{N v comp left:Nat}(hN:N<=6)(U:∀ e ∈ es,e<2^N)(hv:v<N)(Z:(Z2 comp left).testBit v=false):∀ w,(C78 (B2 es N) N v comp left).testBit w=true<->RB es (fun x=>(Z2 comp left).testBit x=true) v w:=by
 intro w;have a1:2^N<=64:=aK (n:=2) O0 hN;have Q:=N30 (es:=es) (N:=N);have J:∀ u w,((B2 es N).getD u 0).testBit w=true<->C73 es u w:=fun u w=>by
  rw[U24 O0];exact⟨fun h=>h.2.2,fun h=>⟨(J88 U h).1,(J88 U h).2,h⟩⟩
 generalize hg:Z2 comp left=gone at *
 have W:=Z81 (gone:=gone) (v:=v) hN Q N 0 (2^v) (by simp[V5]) (aQ _) (R27 hv) O2 O2;have O:(Z65 (B2 es N) gone v N 0 (2^v)).testBit v=true:=by
  obtain⟨n,rfl⟩:∃ n,N=n+1:=⟨N-1,O0⟩
  show(if 2^v=0 then 0 else _:Nat).testBit v=true;rw[if_neg (by have:=aQ v;omega),U101 v O0,if_pos (.inl rfl)];refine R83 _ _ v v n _ _ ?_;rw[Nat.zero_or,aR];simp
 have a0:∀ u w,(Z65 (B2 es N) gone v N 0 (2^v)).testBit u=true->(u=v\/gone.testBit u=true)->V9 (C73 es) (fun x=>gone.testBit x=true) u w->(Z65 (B2 es N) gone v N 0 (2^v)).testBit w=true:=by
  intro u w hu E hr
  induction hr with
  | one h=>exact W _ _ hu E ((J _ _).2 h)
  | more h1 h2 _ ih=>exact ih (W _ _ hu E ((J _ _).2 h1)) (.inr h2)
 have V:=V87 (nb:=B2 es N) (gone:=gone) (v:=v) (fun w=>w=v\/V9 (C73 es) (fun x=>gone.testBit x=true) v w) (fun u w hu E hw=>by
  right;have ha:=(J u w).1 hw;rcases hu with rfl | hu
  .exact .one ha
  .rcases E with rfl | E
   .exact .one ha
   .exact hu.trans E (.one ha)) N 0 (2^v) O2 (by have:=R27 hv;omega) (fun u x h=>by have:=Q u x h;omega) (fun w hw=>by
  left;rw[aR] at hw;have:v=w:=by simpa using hw
  exact this.symm)
 unfold C78 RB;rw[hg,N1];simp only[aG,cJ,Bool.not_eq_true]
 constructor
 .rintro⟨h1,h2⟩
  rcases V w h1 with h | h
  .exact .inl h
  .exact .inr ⟨h2,h⟩
 .rintro (rfl | ⟨h1,h2⟩)
  .exact⟨O,Z⟩
  .exact⟨a0 v w O (.inl rfl) h2,h1⟩
section
variable {c v w:Nat} {p:List Nat}
def lft(c:Nat)(p:List Nat):Nat:=p.foldl (fun l v=>Z2 l (2^v)) c
theorem Z78:∀ {p:List Nat},(lft c p).testBit w=true<->c.testBit w=true/\w ∉ p:=by
 intro p;unfold lft
 induction p generalizing c with
 | nil=>simp
 | cons v p ih=>
  grind[N1]
theorem Z72(c:Nat)(p:List Nat)(v:Nat):lft c (p++[v])=Z2 (lft c p) (2^v):=by unfold lft;rw[List.foldl_append];rfl
theorem R75:∀ w,(lft c p).testBit w=true->c.testBit w=true:=fun w h=>(Z78.1 h).1
theorem Q88{N:Nat}(hc:c<2^N):∀(p:List Nat),lft c p<2^N:=by
 intro p;unfold lft
 induction p generalizing c with
 | nil=>exact hc
 | cons v p ih=>exact ih (Z6 hc)
theorem C103{l:Nat}(h:l.testBit v=false):Z2 l (2^v)=l:=by
 apply bZ
 grind[N1]
section
variable {es nb:List Nat} {N:Nat} {cs:List Nat} {W:Rat}
structure J76 (N:Nat) (cs:List Nat):Prop where
 lt:∀ c ∈ cs,c<2^N
 dis:cs.Pairwise fun c d=>∀ w,c.testBit w=true->d.testBit w=false
def OKp(es nb:List Nat)(N:Nat)(cs:List Nat)(W:Rat)(p:List Nat)(v:Nat):Prop:=∃ c ∈ cs,(lft c p).testBit v=true/\Y25 es nb N c v (lft c p)<=W/\M45 N (Y25 es nb N c) (Z2 (lft c p) (2^v))<=W
def M75(es nb:List Nat)(N:Nat)(cs:List Nat)(W:Rat)(p:List Nat):Prop:=∀ c ∈ cs,M45 N (Y25 es nb N c) (lft c p)<=W
def Cst(es nb:List Nat)(N:Nat)(cs:List Nat)(W:Rat)(p:List Nat)(v:Nat):Prop:=∃ c ∈ cs,(lft c p).testBit v=true/\Y25 es nb N c v (lft c p)<=W
def CW(es nb:List Nat)(N:Nat)(cs:List Nat)(W:Rat):List Nat->List Nat->Prop
 | p,[]=>∀ c ∈ cs,lft c p=0
 | p,v :: q=>Cst es nb N cs W p v/\CW es nb N cs W (p++[v]) q
theorem J76.one(h:J76 N cs){c d w:Nat}(hc:c ∈ cs)(hd:d ∈ cs)(h1:c.testBit w=true)(h2:d.testBit w=true):c=d:=by
 obtain⟨i,hi,rfl⟩:=gL hc;obtain⟨j,hj,rfl⟩:=gL hd;rcases Nat.lt_trichotomy i j with g | g | g
 .have:=fD.1 h.dis i j hi hj g w h1
  rw[h2] at this;cases this
 .subst g;rfl
 .have:=fD.1 h.dis j i hj hi g w h2
  rw[h1] at this;cases this
theorem J76.other(h:J76 N cs){d:Nat}(hc:c ∈ cs)(hd:d ∈ cs)(E:d≠c)(h1:(lft c p).testBit w=true):lft d (p++[w])=lft d p:=by
 rw[Z72];refine C103 ?_
 cases hb:(lft d p).testBit w with
 | false=>rfl
 | true=>exact absurd (h.one hd hc (R75 _ hb) (R75 _ h1)) E
theorem C96(h:J76 N cs)(hW:0<=W):∀ {q p:List Nat},CW es nb N cs W p q->M75 es nb N cs W p
 | [],p,hq=>fun c hc=>by rw[hq c hc,C77,if_pos rfl];exact hW
 | v :: q,p,hq=>by
  obtain⟨⟨c,hc,h1,h2⟩,h3⟩:=hq;have ih:=C96 h hW h3;intro d hd
  by_cases e:d=c
  .subst e
   refine(W90 (Q88 (h.lt d hd) p) hW).2 (.inr ⟨v,h1,?_,h2⟩);rw[<- Z72];exact ih d hd
  .rw[<- h.other hc hd e h1];exact ih d hd
theorem G91(h:J76 N cs)(hp:M75 es nb N cs W p)(hv:OKp es nb N cs W p v):M75 es nb N cs W (p++[v]):=by
 obtain⟨c,hc,h1,h2,h3⟩:=hv;intro d hd
 by_cases e:d=c
 .subst e;rw[Z72];exact h3
 .rw[h.other hc hd e h1];exact hp d hd
theorem E110(hc:Cst es nb N cs W p v)(hf:M75 es nb N cs W (p++[v])):OKp es nb N cs W p v:=by
 obtain⟨c,h1,h2,h3⟩:=hc;exact⟨c,h1,h2,h3,by rw[<- Z72];exact hf c h1⟩
theorem J102(h:J76 N cs)(hW:0<=W)(hp:M75 es nb N cs W p)(hc:c ∈ cs)(h0:lft c p≠0):∃ v,OKp es nb N cs W p v:=by
 rcases (W90 (Q88 (h.lt c hc) p) hW).1 (hp c hc) with h1 | ⟨v,h1,h2,h3⟩
 .exact absurd h1 h0
 .exact⟨v,c,hc,h1,h3,h2⟩
def Q71:Nat->List Nat->List Nat->List (List Nat)
 | 0,l,_=>[l]
 | n+1,l,rest=>rest.flatMap fun v=>Q71 n (l++[v]) (rest.erase v)
def gre(es nb:List Nat)(N:Nat)(cs:List Nat)(W:Rat):Nat->List Nat->List Nat->List Nat
 | 0,l,_=>l
 | n+1,l,rest=>open Classical in match rest.find? fun v=>decide (OKp es nb N cs W l v) with
  | some v=>gre es nb N cs W n (l++[v]) (rest.erase v)
  | none=>l
theorem Q84{α β:Type}{p:β->Bool}{g:α->List β}:∀ {l:List α},(l.flatMap g).find? p=l.findSome? fun a=>(g a).find? p
 | []=>rfl
 | a :: l=>by
  grind
theorem V82(h:J76 N cs)(hW:0<=W){good:List Nat->Bool}{goodp:List Nat->Prop}(O:∀ l,good l=true<->goodp l/\∀ c ∈ cs,lft c l=0)(E:∀ l v,goodp (l++[v])<->goodp l/\Cst es nb N cs W l v):
  ∀(n:Nat) (l rest:List Nat),rest.length=n->(∀ v,v ∈ rest<->∃ c ∈ cs,(lft c l).testBit v=true)->rest.Nodup ->
  (goodp l/\M75 es nb N cs W l->(Q71 n l rest).find? good=some (gre es nb N cs W n l rest)/\(gre es nb N cs W n l rest).length=l.length+n)/\(¬ (goodp l/\M75 es nb N cs W l)->(Q71 n l rest).find? good=none)
 | 0,l,rest,hn,hr,hnd=>by
  have hz:∀ c ∈ cs,lft c l=0:=fun c hc=>by
   refine aI fun h0 => ?_
   obtain⟨u,hu⟩:=B14 h0
   simp_all
  have hF:M75 es nb N cs W l:=fun c hc=>by rw[hz c hc,C77,if_pos rfl];exact hW
  grind[Q71,gre,absurd]
 | n+1,l,rest,hn,hr,hnd=>by
  have Q:∀ v ∈ rest,(∀ u,u ∈ rest.erase v<->∃ c ∈ cs,(lft c (l++[v])).testBit u=true)/\(rest.erase v).Nodup/\(rest.erase v).length=n:=fun v hv=>by
   refine⟨fun u => ?_,hnd.erase v,by simp_all⟩;rw[hnd.mem_erase_iff,hr u]
   constructor
   .rintro⟨h1,c,h2,h3⟩
    refine⟨c,h2,?_⟩;rw[Z72,N1,h3,aR];simp[eT h1]
   .rintro⟨c,h2,h3⟩
    rw[Z72,N1,aR,aG] at h3
    grind
  have a8:∀ v,goodp l/\M75 es nb N cs W l->(goodp (l++[v])/\M75 es nb N cs W (l++[v])<->OKp es nb N cs W l v):=fun v hl=>by
   constructor
   .grind[E110]
   .intro U
    refine⟨(E l v).2 ⟨hl.1,?_⟩,G91 h hl.2 U⟩;obtain⟨c,a1,a2,a3,_⟩:=U;exact⟨c,a1,a2,a3⟩
  constructor
  .intro hl
   have a5:∃ v ∈ rest,OKp es nb N cs W l v:=by
    obtain⟨r0,Z⟩:∃ r0,r0 ∈ rest:=by
     cases rest with
     | nil=>simp at hn
     | cons a r=>exact⟨a,O2⟩
    obtain⟨c,hc,hb⟩:=(hr r0).1 Z;obtain⟨v,hv⟩:=J102 h hW hl.2 hc (fun e=>by rw[e] at hb;simp at hb);have a6:=hv;obtain⟨d,hd,a9,_⟩:=a6
    grind
   have key:∀ r:List Nat,(∀ v ∈ r,v ∈ rest)->(∃ v ∈ r,OKp es nb N cs W l v)->∃ v,(open Classical in r.find? fun v=>decide (OKp es nb N cs W l v))=some v/\v ∈ rest/\OKp es nb N cs W l v /\
     (r.findSome? fun v=>(Q71 n (l++[v]) (rest.erase v)).find? good)=some (gre es nb N cs W n (l++[v]) (rest.erase v)):=by
    intro r
    induction r with
    | nil=>simp_all
    | cons a r ih=>
     intro J V;have ha:=J a O2;obtain⟨s1,s2,s3⟩:=Q a ha;obtain⟨i1,i2⟩:=V82 h hW O E n (l++[a]) (rest.erase a) s3 s1 s2
     by_cases U:OKp es nb N cs W l a
     .simp_all
     .obtain⟨v,hv,a7⟩:=V
      have a4:v ∈ r:=by
       grind
      obtain⟨x,x1,x2,x3,x4⟩:=ih (fun v hv=>J v (by simp[hv])) ⟨v,a4,a7⟩
      simp_all
   obtain⟨v,x1,x2,x3,x4⟩:=key rest (fun v hv=>hv) a5;obtain⟨s1,s2,s3⟩:=Q v x2;obtain⟨i1,_⟩:=V82 h hW O E n (l++[v]) (rest.erase v) s3 s1 s2
   grind[gre,decide,OKp,Q71,Q84]
  .intro a0
   show(rest.flatMap fun v=>Q71 n (l++[v]) (rest.erase v)).find? good=none;rw[Q84,List.findSome?_eq_none_iff];intro v hv;obtain⟨s1,s2,s3⟩:=Q v hv;refine(V82 h hW O E n (l++[v]) (rest.erase v) s3 s1 s2).2 fun⟨h1,h2⟩=>a0 ⟨((E l v).1 h1).1,?_⟩
   obtain⟨c,hc,a1,a2⟩:=((E l v).1 h1).2;intro d hd
   by_cases e:d=c
   .subst e
    refine(W90 (Q88 (h.lt d hd) l) hW).2 (.inr ⟨v,a1,?_,a2⟩);rw[<- Z72];exact h2 d hd
   .rw[<- h.other hc hd e a1];exact h2 d hd
end
end
section
variable {N c f v:Nat}
section
variable {es nb:List Nat} {N:Nat} {cs:List Nat} {W:Rat}
theorem B87{l:Nat}:M72 es nb N W c l v=true<->l.testBit v=true/\Y25 es nb N c v l<=W/\M45 N (Y25 es nb N c) (Z2 l (2^v))<=W:=by
 unfold M72;simp only[aG,decide_eq_true_eq]
theorem D92{lefts:List Nat}{v:Nat}:∀(f i:Nat),(∀ j,D75 es nb N W cs lefts v f i=some j->i<=j/\j<i+f/\M72 es nb N W (cs.getD j 0) (lefts.getD j 0) v=true) /\
  (D75 es nb N W cs lefts v f i=none->∀ j,i<=j->j<i+f->M72 es nb N W (cs.getD j 0) (lefts.getD j 0) v=false)
 | 0,i=>⟨fun j h=>(by cases h),fun _ j h1 h2=>O0⟩
 | f+1,i=>by
  obtain⟨h1,h2⟩:=@D92 lefts v f (i+1);have e:D75 es nb N W cs lefts v (f+1) i=if M72 es nb N W (cs.getD i 0) (lefts.getD i 0) v=true then some i else D75 es nb N W cs lefts v f (i+1):=rfl;rw[e]
  by_cases hb:M72 es nb N W (cs.getD i 0) (lefts.getD i 0) v=true
  .rw[if_pos hb]
   refine⟨fun j h => ?_,fun h=>by cases h⟩
   cases h
   exact⟨aD _,O0,hb⟩
  .rw[if_neg hb]
   refine⟨fun j h => ?_,fun h j a1 a2 => ?_⟩
   .obtain⟨a1,a2,a3⟩:=h1 j h
    exact⟨O0,O0,a3⟩
   .by_cases e:j=i
    .subst e;simpa using hb
    .exact h2 h j O0 O0
theorem W92{lefts:List Nat}{v0 i0:Nat}(U:v0<N)(Q:i0<lefts.length)(J:M72 es nb N W (cs.getD i0 0) (lefts.getD i0 0) v0=true)(E:∀ v i,v<v0->i<lefts.length->M72 es nb N W (cs.getD i 0) (lefts.getD i 0) v=false):
  ∀(f w:Nat),f+w=N->w<=v0->∃ i,E80 es nb N W cs lefts f w=some (v0,i)/\i<lefts.length/\M72 es nb N W (cs.getD i 0) (lefts.getD i 0) v0=true
 | 0,w,h1,h2=>O0
 | f+1,w,h1,h2=>by
  obtain⟨a1,a2⟩:=@D92 es nb N cs W lefts w lefts.length 0;have e:E80 es nb N W cs lefts (f+1) w=match D75 es nb N W cs lefts w lefts.length 0 with
   | some i=>some (w,i)
   | none=>E80 es nb N W cs lefts f (w+1):=rfl
  rw[e]
  cases O:D75 es nb N W cs lefts w lefts.length 0 with
  | some i=>
   obtain⟨b1,b2,b3⟩:=a1 i O
   by_cases ew:w=v0
   .subst ew;exact⟨i,rfl,O0,b3⟩
   .have:=E w i O0 O0
    rw[b3] at this;cases this
  | none=>
   have b:=a2 O i0 O0 O0;have ew:w≠v0:=fun ew=>by rw[ew,J] at b;cases b
   exact W92 U Q J E f (w+1) O0 O0
def E90(es nb:List Nat)(N:Nat)(W:Rat)(cs:List Nat):Nat->List Int × List Nat->List Int × List Nat
 | 0,s=>s
 | n+1,s=>E90 es nb N W cs n (Q73 es nb N W cs s)
theorem Q92:∀(n:Nat) (s:List Int × List Nat),Q73 es nb N W cs (E90 es nb N W cs n s)=E90 es nb N W cs (n+1) s
 | 0,_=>rfl
 | n+1,s=>Q92 n _
theorem Q97:∀ n,C54 es nb N W cs n=E90 es nb N W cs n ([],cs)
 | 0=>rfl
 | n+1=>by
  show Q73 es nb N W cs (C54 es nb N W cs n)=_;rw[Q97 n,Q92]
theorem Q82{i:Nat}{g:Nat->Nat}(h:cs[i]? = some c):(cs.map g).getD i 0=g c:=by simp[aP,h]
theorem Y97(h:J76 N cs)(hW:0<=W):∀(n:Nat) (l rest:List Nat),rest.length=n->(∀ v,v ∈ rest<->∃ c ∈ cs,(lft c l).testBit v=true)->rest.Pairwise (· < ·)->M75 es nb N cs W l ->
  (E90 es nb N W cs n (l.map (fun(x:Nat)=>(x:Int)),cs.map (lft · l))).1=(gre es nb N cs W n l rest).map fun(x:Nat)=>(x:Int)
 | 0,l,rest,hn,hr,hnd,hF=>rfl
 | n+1,l,rest,hn,hr,hnd,hF=>by
  have ag:∃ v ∈ rest,OKp es nb N cs W l v:=by
   obtain⟨r0,a9⟩:∃ r0,r0 ∈ rest:=by
    cases rest with
    | nil=>simp at hn
    | cons a r=>exact⟨a,O2⟩
   obtain⟨c,hc,hb⟩:=(hr r0).1 a9;obtain⟨v,hv⟩:=J102 h hW hF hc (fun e=>by rw[e] at hb;simp at hb);have ah:=hv;obtain⟨d,hd,V,_⟩:=ah;exact⟨v,(hr v).2 ⟨d,hd,V⟩,hv⟩
  have U:∃ v,(open Classical in rest.find? fun v=>decide (OKp es nb N cs W l v))=some v/\v ∈ rest/\OKp es nb N cs W l v/\∀ u,OKp es nb N cs W l u->v<=u:=by
   have key:∀ r:List Nat,r.Pairwise (· < ·)->(∃ v ∈ r,OKp es nb N cs W l v)->∃ v,(open Classical in r.find? fun v=>decide (OKp es nb N cs W l v))=some v/\v ∈ r/\OKp es nb N cs W l v/\∀ u ∈ r,OKp es nb N cs W l u->v<=u:=by
    intro r
    induction r with
    | nil=>rintro _ ⟨v,hv,_⟩;simp at hv
    | cons a r ih=>
     intro hp Z;rw[List.pairwise_cons] at hp
     by_cases O:OKp es nb N cs W l a
     .refine⟨a,by simp[O],O2,O,fun u hu _ => ?_⟩
      rcases aU.1 hu with rfl | hu
      .exact aD _
      .exact eG (hp.1 u hu)
     .obtain⟨v,hv,a8⟩:=Z
      have ad:v ∈ r:=by
       rcases aU.1 hv with rfl | hv
       .exact absurd a8 O
       .exact hv
      obtain⟨x,x1,x2,x3,x4⟩:=ih hp.2 ⟨v,ad,a8⟩;refine⟨x,by simp[O];simpa using x1,by simp[x2],x3,fun u hu a6 => ?_⟩;rcases aU.1 hu with rfl | hu
      .exact absurd a6 O
      .exact x4 u hu a6
   obtain⟨v,a1,a2,a3,a4⟩:=key rest hnd ag;refine⟨v,a1,a2,a3,fun u hu=>a4 u ?_ hu⟩;obtain⟨d,hd,V,_⟩:=hu;exact(hr u).2 ⟨d,hd,V⟩
  obtain⟨v,x1,x2,x3,x4⟩:=U;have eg:gre es nb N cs W (n+1) l rest=gre es nb N cs W n (l++[v]) (rest.erase v):=by
   show(match (open Classical in rest.find? fun v=>decide (OKp es nb N cs W l v)) with | some v=>gre es nb N cs W n (l++[v]) (rest.erase v) | none=>l)=_;rw[x1]
  have ae:=x3;obtain⟨c,hc,b1,b2,b3⟩:=ae;obtain⟨i0,a7,ab⟩:=gL hc;have a0:cs[i0]? = some c:=by rw[aE a7,ab]
  have aa:v<N:=R7 (Q88 (h.lt c hc) l) b1;have hD:∀ i c,cs[i]? = some c->cs.getD i 0=c:=fun i c h=>by simp[aP,h]
  obtain⟨i,f1,f2,f3⟩:=W92 (es:=es) (nb:=nb) (N:=N) (W:=W) (cs:=cs) (lefts:=cs.map (lft · l)) (v0:=v) (i0:=i0) aa (by simpa using a7) (by
    rw[B87,Q82 a0,hD _ _ a0];exact⟨b1,b2,b3⟩) (fun u j hu hj=>by
    cases hb:M72 es nb N W (cs.getD j 0) ((cs.map (lft · l)).getD j 0) u with
    | false=>rfl
    | true=>
     rw[gM] at hj;have J:cs[j]? = some cs[j]:=aE hj;rw[B87,Q82 J,hD _ _ J] at hb;have:=x4 u ⟨cs[j],List.getElem_mem _,hb⟩;omega) N 0 O0 O0
  have Q:Q73 es nb N W cs (l.map (fun(x:Nat)=>(x:Int)),cs.map (lft · l))=((l++[v]).map (fun(x:Nat)=>(x:Int)),cs.map (lft · (l++[v]))):=by
   unfold Q73;dsimp only;rw[f1];dsimp only;rw[gM] at f2;have J:cs[i]? = some cs[i]:=aE f2;rw[B87,Q82 J] at f3;have e1:l.map (fun(x:Nat)=>(x:Int))++[(v:Int)]=(l++[v]).map fun(x:Nat)=>(x:Int):=O2
   rw[e1,Q82 J];congr 1;apply dH;intro j;rw[cQ,gM,cP,cP]
   by_cases e:i=j
   .subst e
    rw[if_pos rfl,if_pos f2,J];simp[Z72]
   .rw[if_neg e]
    cases E:cs[j]? with
    | none=>rfl
    | some d=>
     simp only[Option.map_some];congr 1;have ac:d≠cs[i]:=fun hd=>by
      rcases Nat.lt_or_gt_of_ne e with g | g
      .have:=fD.1 h.dis i j f2 (N12 E) g v (R75 _ f3.1)
       rw[(aJ.1 E).2,hd,R75 _ f3.1] at this;cases this
      .have:=fD.1 h.dis j i (N12 E) f2 g v (by rw[(aJ.1 E).2,hd];exact R75 _ f3.1)
       rw[R75 _ f3.1] at this;cases this
     exact(h.other (List.getElem_mem f2) (aH E) ac f3.1).symm
  show(E90 es nb N W cs n (Q73 es nb N W cs _)).1=_;rw[Q,eg];refine Y97 h hW n (l++[v]) (rest.erase v) (by rw[List.length_erase_of_mem x2];omega) (fun u => ?_) (hnd.sublist List.erase_sublist) (G91 h hF x3);have a5:rest.Nodup:=hnd.imp fun h=>Nat.ne_of_lt h
  rw[a5.mem_erase_iff,hr u]
  constructor
  .rintro⟨h1,c,h2,h3⟩
   refine⟨c,h2,?_⟩;rw[Z72,N1,h3,aR];simp[eT h1]
  .rintro⟨c,h2,h3⟩
   rw[Z72,N1,aR,aG] at h3;refine⟨fun e => ?_,c,h2,h3.1⟩;rw[e] at h3;simp at h3
end
def V37(N f:Nat):List Nat:=(aY (N-f)).map fun j=>f+j
theorem E61:v ∈ V37 N f<->f<=v/\v<N:=by
 unfold V37;simp only[gN,cW]
 constructor
 .rintro⟨j,h,rfl⟩;omega
 .rintro⟨h1,h2⟩;exact⟨v-f,O0,O0⟩
theorem U49(N f:Nat):(V37 N f).Pairwise (· < ·):=by
 unfold V37;rw[List.pairwise_map];exact List.pairwise_lt_range.imp fun h=>O0
theorem X73{es:List Nat}{N f:Nat}(hN:N<=6):J76 N (Z20 es N f)/\(∀ v,v ∈ V37 N f<->∃ c ∈ Z20 es N f,c.testBit v=true)/\(∀ c ∈ Z20 es N f,∀ u w,c.testBit u=true->f<=u->f<=w->adj es u w=true->w<N->c.testBit w=true) /\
  (∀ c ∈ Z20 es N f,∀ w,c.testBit w=true->f<=w/\w<N):=by
 obtain⟨h1,h2,h3⟩:=M56 (es:=D14 es (bnd N f)) hN;have J:∀ u w,adj (D14 es (bnd N f)) u w=true<->adj es u w=true/\(bnd N f).testBit u=true/\(bnd N f).testBit w=true:=by
  intro u w;unfold adj;simp only[aG,decide_eq_true_eq,dY,D14,List.mem_filterMap]
  constructor
  .rintro⟨h0,e,⟨x,hx,Q⟩,a1,a2⟩
   split at Q
   .cases Q
   .cases Q
    rw[bI,aG] at a1 a2;exact⟨⟨h0,x,hx,a1.1,a2.1⟩,a1.2,a2.2⟩
  .rintro⟨⟨h0,x,hx,a1,a2⟩,b1,b2⟩
   refine⟨h0,x &&& bnd N f,⟨x,hx,?_⟩,by rw[bI,a1,b1];rfl,by rw[bI,a2,b2];rfl⟩;rw[if_neg];intro e;have:(x &&& bnd N f).testBit u=true:=by rw[bI,a1,b1];rfl
   rw[e] at this;simp at this
 have O:∀ c ∈ Z20 es N f,c ∈ D19 (D14 es (bnd N f)) N/\∃ w,c.testBit w=true/\f<=w/\w<N:=fun c hc=>by
  obtain⟨a1,a2⟩:=dA.1 hc;refine⟨a1,?_⟩;obtain⟨w,hw⟩:=B14 (of_decide_eq_true a2);rw[bI,aG] at hw;obtain⟨b1,b2⟩:=E77.1 hw.2;exact⟨w,hw.1,b2,b1⟩
 have E:∀ c ∈ Z20 es N f,∀ w,c.testBit w=true->f<=w/\w<N:=fun c hc w hw=>by
  obtain⟨a1,u,a2,a3,a4⟩:=O c hc;obtain⟨v,hv,hI⟩:=h1 c a1;have Z:f<=v:=by
   refine aI fun hn => ?_
   have:=hI.least (fun x=>x=v) rfl (fun x y hx hy=>by
    subst hx;have:=((U24 O0).1 hy).2.2;have:=((J _ _).1 this).2.1;have:=(E77.1 this).2;omega) u a2
   omega
  have:=hI.least (fun x=>f<=x/\x<N) ⟨Z,hv⟩ (fun x y hx hy=>by
   have:=((U24 O0).1 hy).2.2;have:=E77.1 ((J _ _).1 this).2.2;omega) w hw
  exact this
 refine⟨⟨fun c hc => ?_,?_⟩,fun v => ?_,fun c hc u w hu V a0 ha hw => ?_,E⟩
 .obtain⟨a1,_⟩:=O c hc
  obtain⟨v,hv,hI⟩:=h1 c a1;exact hI.lt
 .exact h2.filter _
 .rw[E61]
  constructor
  .rintro⟨a1,a2⟩
   obtain⟨c,b1,b2⟩:=(h3 v).1 a2;refine⟨c,dA.2 ⟨b1,?_⟩,b2⟩;simp only[ne_eq,decide_not,cJ,decide_eq_false_iff_not];intro e;have:(c &&& bnd N f).testBit v=true:=by rw[bI,b2,E77.2 ⟨a2,a1⟩];rfl
   rw[e] at this;simp at this
  .rintro⟨c,b1,b2⟩
   exact E c b1 v b2
 .obtain⟨a1,_⟩:=O c hc
  obtain⟨v,hv,hI⟩:=h1 c a1;have U:=(E c hc u hu).2;exact hI.closed u w hu ((U24 O0).2 ⟨U,hw,(J u w).2 ⟨ha,E77.2 ⟨U,V⟩,E77.2 ⟨hw,a0⟩⟩⟩)
end
section
variable {W:Rat} {b:Bag} {es l:List Nat} {v:Nat}
theorem M86(es:List Nat)(N set:Nat):D73 es N set=Lp.valT (V5 N set).length (D16 es set).length (sP es N set):=rfl
section
variable {es:List Nat} {N set:Nat}
theorem M109(hcov:∀ v,set.testBit v=true->∃ e ∈ es,e.testBit v=true)(h0:0<(V5 N set).length):1<=D73 es N set:=by
 rw[M86];exact Lp.val_ge (fun v hv=>G83 hcov hv) h0
theorem Y110(hcov:∀ v,set.testBit v=true->∃ e ∈ es,e.testBit v=true)(h0:0<(V5 N set).length)(O:R10 es set=true):D73 es N set=1:=by
 have h1:=M109 hcov h0;have h2:D73 es N set<=1:=by
  obtain⟨e,he,hz⟩:=dY.1 O;have hz:=of_decide_eq_true hz;have E:e &&& set=set:=by
   apply bZ
   grind[M34]
  have J:e &&& set≠0:=by
   rw[E];intro e0;rw[e0] at h0;simp[V5] at h0
  have hm:set ∈ D16 es set:=by
   have:=M83 set e J es [] he;rw[E] at this;exact this
  obtain⟨r,hr,Q⟩:=gL hm;rw[M86];refine Lp.val_le (fun v hv=>G83 hcov hv) hr fun j hj => ?_
  unfold sP
  grind[V5]
 grind
theorem N90(hcov:∀ v,set.testBit v=true->∃ e ∈ es,e.testBit v=true)(h0:0<(V5 N set).length):Y74 es N set=D73 es N set:=by
 grind[Y74,Y110]
theorem J100(hcov:∀ v,set.testBit v=true->∃ e ∈ es,e.testBit v=true)(hle:es.length<=8):D73 es N set<=8:=by
 rw[M86];have h1:=Lp.val_small (n:=(V5 N set).length) (m:=(D16 es set).length) (s:=sP es N set) (fun v hv=>G83 hcov hv);have hm:(D16 es set).length<=8:=by grind[X79,D16]
 have h2:(((D16 es set).length:Nat):Rat)<=((8:Nat):Rat):=by exact_mod_cast hm
 grind
end
theorem R77{α:Type}{g:α->Rat}{W:Rat}:∀ {l:List α} {x:Rat},l.foldl (fun w b=>gr w (g b)) x<=W<->x<=W/\∀ b ∈ l,g b<=W
 | [],x=>O2
 | a :: l,x=>by
  rw[dF,R77,B88]
  grind
def wdI(es:List Nat)(N:Nat)(bs:List Bag)(i:Nat):Rat:=(bs.take i).foldl (fun w b=>gr w (D73 es N (Y34 b))) 0
def wid(es:List Nat)(N f:Nat)(l:List Nat):Rat:=wdI es N (B50 es N f (l.map fun(x:Nat)=>(x:Int))) N
def gdp(es:List Nat)(N f:Nat)(W:Rat)(l:List Nat):Prop:=∀ p1 v p2,l=p1++v :: p2->Cst es (B2 es N) N (Z20 es N f) W p1 v
theorem X105{N f:Nat}:gdp es N f W (l++[v])<->gdp es N f W l/\Cst es (B2 es N) N (Z20 es N f) W l v:=by
 constructor
 .intro h
  exact⟨fun p1 u p2 e=>h p1 u (p2++[v]) (by rw[e];simp),h l v [] rfl⟩
 .rintro⟨h1,h2⟩ p1 u p2 e
  rcases List.eq_nil_or_concat p2 with rfl | ⟨q,x,rfl⟩
  .simp_all
  .have e3:p1++u :: (q++[x])=(p1++u :: q)++[x]:=O2
   rw[List.concat_eq_append,e3] at e;have:=List.append_inj' (s₁:=l) (t₁:=[v]) e rfl;exact h1 p1 u q this.1
theorem K104{P Q:Nat->Prop}(h:∀ x,P x<->Q x){w:Nat}:RB es P v w<->RB es Q v w:=by
 have e:P=Q:=funext fun x=>propext (h x)
 rw[e]
section
variable {es:List Nat} {N f:Nat}
structure IsP (N f:Nat) (l:List Nat):Prop where
 nd:l.Nodup
 mem:∀ v,v ∈ l<->f<=v/\v<N
theorem IsP.len(h:IsP N f l):l.length=N-f:=by
 have hp:l.Perm (V37 N f):=(List.perm_ext_iff_of_nodup h.nd ((U49 N f).imp fun h=>Nat.ne_of_lt h)).2 fun v=>by rw[h.mem,E61]
 rw[hp.length_eq];simp[V37]
theorem IsP.ok(h:IsP N f l)(hf:f<=N):V72 (l.map fun(x:Nat)=>(x:Int)) f N:=by
 refine⟨by rw[gM,h.len];omega,fun x hx => ?_,?_⟩
 .obtain⟨y,hy,rfl⟩:=gN.1 hx
  have:=(h.mem y).1 hy;omega
 .unfold List.Nodup
  rw[List.pairwise_map];exact List.Pairwise.imp (fun {a b} h e=>h O0) h.nd
theorem N82(l:List Nat):Z85 N f (l.map fun(x:Nat)=>(x:Int))=l++(R6 f f).map Int.toNat:=by
 unfold Z85;rw[List.map_append,List.map_map];congr 1;simp[Function.comp_def]
theorem R105:IsP N f (V37 N f):=⟨(U49 N f).imp fun h=>Nat.ne_of_lt h,fun v=>E61⟩
theorem E108:upK f (N-f)=(V37 N f).map fun(x:Nat)=>(x:Int):=by
 unfold upK V37;rw[List.map_map];rfl
theorem N102{b':Bag}(h:∀ w,(Y34 b).testBit w=true<->(Y34 b').testBit w=true):Y34 b=Y34 b':=by
 apply bZ
 simp_all
theorem N103(hN:N<=6)(hsm:∀ e ∈ es,e<2^N)(hf:f<=N){l':List Nat}(h:IsP N f l)(h':IsP N f l'){i:Nat}(hi:i<f):∃ b b',(B50 es N f (l.map fun(x:Nat)=>(x:Int)))[i]? = some b/\(B50 es N f (l'.map fun(x:Nat)=>(x:Int)))[i]? = some b'/\Y34 b=Y34 b':=by
 have E:i ∈ (R6 f f).map Int.toNat:=by
  obtain⟨J,h1,h2,h3,h4⟩:=J77 (h.ok hf);obtain rfl:=Y88 (n:=N) h1;have:=Q58 h2 h3 h4 (show i<N by omega);rw[N82,dN] at this;rcases this with h5 | h5
  .have:=(h.mem i).1 h5;omega
  .exact h5
 obtain⟨q1,q2,e⟩:=List.append_of_mem E;obtain⟨b,a1,a2⟩:=J83 (n:=N) (f:=f) O0 hsm (h.ok hf) (p1:=l++q1) (p2:=q2) (v:=i) (by rw[N82,e];simp);obtain⟨b',c1,c2⟩:=J83 (n:=N) (f:=f) O0 hsm (h'.ok hf) (p1:=l'++q1) (p2:=q2) (v:=i) (by rw[N82,e];simp);refine⟨b,b',a1,c1,N102 fun w => ?_⟩;rw[a2,c2];exact K104 fun x=>by rw[dN,dN,h.mem,h'.mem]
theorem D91(hN:N<=6)(hsm:∀ e ∈ es,e<2^N)(hf:f<=N)(h:IsP N f l){p1 p2:List Nat}{c:Nat}(e:l=p1++v :: p2)(hc:c ∈ Z20 es N f)(hv:(lft c p1).testBit v=true):
  ∃ b,(B50 es N f (l.map fun(x:Nat)=>(x:Int)))[v]? = some b/\Y34 b=C78 (B2 es N) N v c (lft c p1):=by
 obtain⟨hp,a4,a3,J⟩:=X73 (es:=es) (f:=f) hN;have U:=R75 _ hv;obtain⟨a5,Z⟩:=J c hc v U;obtain⟨b,a1,a2⟩:=J83 (n:=N) (f:=f) O0 hsm (h.ok hf) (p1:=p1) (p2:=p2++(R6 f f).map Int.toNat) (v:=v) (by rw[N82,e];simp);refine⟨b,a1,?_⟩;apply bZ;intro w;have hP:∀ x,(Z2 c (lft c p1)).testBit x=true<->c.testBit x=true/\x ∈ p1:=fun x=>by
  rw[N1,aG]
  grind[Z78]
 have O:∀ x,x ∈ p1->f<=x/\x<N:=fun x hx=>(h.mem x).1 (by rw[e];simp[hx])
 have E:(Z2 c (lft c p1)).testBit v=false:=by rw[N1,hv];simp
 rw[eX,a2,Z105 hN hsm Z E];have Q:∀ u w,c.testBit u=true->C73 es u w->f<=w->c.testBit w=true:=fun u w hu ha hw=>a3 c hc u w hu (J c hc u hu).1 hw ha (J88 hsm ha).2
 have a0:∀ u w,V9 (C73 es) (fun x=>(Z2 c (lft c p1)).testBit x=true) u w->c.testBit u=true->f<=w->c.testBit w=true:=by
  intro u w hr
  induction hr with
  | one ha=>grind
  | more ha hx _ ih=>simp_all
 have a6:∀ u w,V9 (C73 es) (· ∈ p1) u w->c.testBit u=true->V9 (C73 es) (fun x=>(Z2 c (lft c p1)).testBit x=true) u w:=by
  intro u w hr
  induction hr with
  | one ha=>exact fun _ => .one ha
  | more ha hx _ ih=>
   intro hu;have V:=Q _ _ hu ha (O _ hx).1;exact .more ha ((hP _).2 ⟨V,hx⟩) (ih V)
 unfold RB
 constructor
 .grind
 .rintro (rfl | ⟨h1,h2⟩)
  .exact .inl rfl
  .refine .inr ⟨fun hw=>h1 ((hP w).2 ⟨a0 v w h2 U (O w hw).1,hw⟩),h2.mono fun x hx=>((hP x).1 hx).2⟩
theorem U79{l:List Nat}(hN:N<=6)(hf:f<=N)(h:IsP N f l){i:Nat}(hi:(B50 es N f (l.map fun(x:Nat)=>(x:Int)))[i]? = some b):Y34 b<2^N/\0<(V5 N (Y34 b)).length:=by
 have E:i<N:=by grind[N12,U74]
 obtain⟨b',a1,a2,a3⟩:=Q95 (es:=es) (h.ok hf) hf E
 grind[J93,U43]
variable (hN:N<=6) (hsm:∀ e ∈ es,e<2^N) (hle:es.length<=8) (hcov:∀ w,w<N->∃ e ∈ es,e.testBit w=true) (hf:f<=N)
include hN hsm hle hcov hf
theorem K85{s:Nat}(hs:s<2^N):∀ v,s.testBit v=true->∃ e ∈ es,e.testBit v=true:=fun v hv=>hcov v (R7 hs hv)
theorem X102(h:IsP N f l):wid es N f l<=W<->fwI es N (B50 es N f (upK f (N-f))) f<=W/\gdp es N f W l:=by
 obtain⟨hp,U,aa,a9⟩:=X73 (es:=es) (f:=f) hN;have a8:=U74 es N f (l.map fun(x:Nat)=>(x:Int));have a0:=U74 es N f (upK f (N-f));unfold wid wdI fwI;rw[R77,R77,gJ O0];have O:∀ i,i<f->∃ b b',(B50 es N f (l.map fun(x:Nat)=>(x:Int)))[i]? = some b/\(B50 es N f (upK f (N-f)))[i]? = some b'/\Y34 b=Y34 b'/\Y74 es N (Y34 b')=D73 es N (Y34 b):=fun i hi=>by
  rw[E108];obtain⟨b,b',a1,a2,a3⟩:=N103 hN hsm hf h (R105 (N:=N) (f:=f)) hi;obtain⟨s1,s2⟩:=U79 hN hf h a1;refine⟨b,b',a1,a2,a3,?_⟩
  grind[N90,K85]
 constructor
 .rintro⟨h0,h1⟩
  refine⟨⟨h0,fun b hb => ?_⟩,fun p1 v p2 e => ?_⟩
  .grind[gL,cK,aJ,aH]
  .have Z:v ∈ l:=by rw[e];simp
   have a6:v ∉ p1:=by
    have:=h.nd
    grind
   obtain⟨c,hc,a5⟩:=(U v).1 (E61.2 ((h.mem v).1 Z));have E:=Z78.2 ⟨a5,a6⟩;obtain⟨b,a1,a2⟩:=D91 hN hsm hf h e hc E;obtain⟨s1,s2⟩:=U79 hN hf h a1;refine⟨c,hc,E,?_⟩;unfold Y25
   grind[N90,K85,aH]
 .rintro⟨⟨h0,h1⟩,h2⟩
  refine⟨h0,fun b hb => ?_⟩;obtain⟨i,hi,rfl⟩:=gL hb;have J:=aE hi
  by_cases V:i<f
  .obtain⟨b,b',a1,a2,a3,a4⟩:=O i V
   rw[a1] at J
   cases J
   rw[<- a4];refine h1 b' (aH (i:=i) ?_)
   grind
  .have a7:i ∈ l:=(h.mem i).2 ⟨O0,O0⟩
   obtain⟨p1,p2,e⟩:=List.append_of_mem a7;obtain⟨c,hc,E,Q⟩:=h2 p1 i p2 e;obtain⟨b,a1,a2⟩:=D91 hN hsm hf h e hc E;obtain⟨s1,s2⟩:=U79 hN hf h a1;rw[a1] at J
   cases J
   unfold Y25 at Q;rw[<- a2,N90 (K85 hN hsm hle hcov hf s1) s2] at Q;exact Q
theorem K90:N64 es N f<=W<->fwI es N (B50 es N f (upK f (N-f))) f<=W/\∀ c ∈ Z20 es N f,M45 N (Y25 es (B2 es N) N c) c<=W:=by
 unfold N64 wI;rw[gJ (aD _),R77]
end
end
section
variable {l:List Nat}
theorem Y106{es nb:List Nat}{N:Nat}{cs:List Nat}{W:Rat}:∀(q p:List Nat),(∀ p1 v p2,p++q=p1++v :: p2->Cst es nb N cs W p1 v)->(∀ c ∈ cs,lft c (p++q)=0)->CW es nb N cs W p q
 | [],p,_,h2=>fun c hc=>by have:=h2 c hc;simpa using this
 | v :: q,p,h1,h2=>by
  have e:p++v :: q=(p++[v])++q:=O2;exact⟨h1 p v q rfl,Y106 q (p++[v]) (fun p1 u p2 e2=>h1 p1 u p2 (by rw[e];exact e2)) (by rw[<- e];exact h2)⟩
theorem Q105:∀(l:List Nat) (n:Nat),l.foldl (fun n c=>n+E9 c) n=n+M71 l:=by
 intro l
 induction l with
 | nil=>intro n;rfl
 | cons c l ih=>
  intro n;have e:M71 (c :: l)=l.foldl (fun n c=>n+E9 c) (0+E9 c):=rfl;rw[e,dF,ih,ih];omega
theorem C91{p q:Nat->Bool}:∀ {l:List Nat},(∀ x ∈ l,p x=true->q x=false)->(l.filter fun x=>p x || q x).length=(l.filter p).length+(l.filter q).length
 | [],_=>rfl
 | a :: l,h=>by
  have ih:=C91 (l:=l) fun x hx=>h x (by simp[hx])
  have ha:=h a O2
  cases hp:p a with
  | true=>
   have hq:=ha hp;simp[hp,hq,ih];omega
  | false=>
   cases hq:q a with
   | true=>simp[hp,hq,ih];omega
   | false=>simp[hp,hq,ih]
theorem N97:∀ {l:List Nat},l.Pairwise (fun c d=>∀ w,c.testBit w=true->d.testBit w=false)->M71 l=((aY 6).filter fun w=>l.any fun c=>c.testBit w).length
 | [],_=>by decide
 | c :: l,h=>by
  rw[List.pairwise_cons] at h;have e:M71 (c :: l)=E9 c+M71 l:=by
   show l.foldl (fun n c=>n+E9 c) (0+E9 c)=_;rw[Q105];omega
  rw[e,N97 h.2];have:=C91 (p:=fun w=>c.testBit w) (q:=fun w=>l.any fun d=>d.testBit w) (l:=aY 6) (fun x _ hx=>by
   cases hb:l.any fun d=>d.testBit x with
   | false=>rfl
   | true=>
    obtain⟨d,hd,E⟩:=dY.1 hb;rw[h.1 d hd x hx] at E;cases E)
  simp only[List.any_cons];rw[this]
  rfl
section
variable {es:List Nat} {N f:Nat}
theorem W105(hN:N<=6):M71 (Z20 es N f)=N-f:=by
 obtain⟨hp,O,Q,J⟩:=X73 (es:=es) (f:=f) hN;rw[N97 hp.dis];have E:((aY 6).filter fun w=>(Z20 es N f).any fun c=>c.testBit w).Perm (V37 N f):=by
  refine(List.perm_ext_iff_of_nodup (List.nodup_range.filter _) ((U49 N f).imp fun h=>Nat.ne_of_lt h)).2 fun v => ?_
  rw[dA,O v,dY,cW]
  constructor
  .rintro⟨_,c,h1,h2⟩;exact⟨c,h1,h2⟩
  .rintro⟨c,h1,h2⟩
   exact⟨by have:=(J c h1 v h2).2;omega,c,h1,h2⟩
 rw[E.length_eq];simp[V37]
open Classical in
def B99(es:List Nat)(N f:Nat)(l:List Nat):Bool:=decide (gdp es N f (N64 es N f) l/\∀ c ∈ Z20 es N f,lft c l=0)
open Classical in
theorem B92:B99 es N f l=true<->gdp es N f (N64 es N f) l/\∀ c ∈ Z20 es N f,lft c l=0:=by
 unfold B99;exact decide_eq_true_iff
theorem Y107(cs:List Nat):cs.map (lft · [])=cs:=by
 simp[lft]
theorem E88{α:Type}{p q:α->Bool}:∀ {l:List α},(∀ a ∈ l,p a=q a)->l.find? p=l.find? q
 | [],_=>rfl
 | a :: l,h=>by
  rw[List.find?_cons,List.find?_cons,h a O2,E88 fun b hb=>h b (by simp[hb])]
theorem C88:∀(n:Nat) (l rest x:List Nat),rest.length=n->x ∈ Q71 n l rest->∃ q,x=l++q/\q.Perm rest
 | 0,l,rest,x,hn,hx=>by
  have:=dT.1 hn;subst this;simp[Q71] at hx;exact⟨[],by simp[hx],List.Perm.refl _⟩
 | n+1,l,rest,x,hn,hx=>by
  have E:x ∈ rest.flatMap fun v=>Q71 n (l++[v]) (rest.erase v):=hx
  obtain⟨v,hv,J⟩:=List.mem_flatMap.1 E;obtain⟨q,e,hq⟩:=C88 n (l++[v]) (rest.erase v) x (by rw[List.length_erase_of_mem hv];omega) J;refine⟨v :: q,by rw[e];simp,?_⟩;exact(List.Perm.cons v hq).trans (List.perm_cons_erase hv).symm
theorem B76{x:List Nat}(hx:x ∈ Q71 (N-f) [] (V37 N f)):IsP N f x:=by
 obtain⟨q,e,hq⟩:=C88 (N-f) [] (V37 N f) x (by simp[V37]) hx;simp at e;subst e;exact⟨hq.nodup_iff.2 ((U49 N f).imp fun h=>Nat.ne_of_lt h),fun v=>by rw[hq.mem_iff,E61]⟩
variable (hN:N<=6) (hsm:∀ e ∈ es,e<2^N) (hle:es.length<=8) (hcov:∀ w,w<N->∃ e ∈ es,e.testBit w=true) (hf:f<=N)
include hN hsm hle hcov hf
theorem Q104(h:IsP N f l){W:Rat}(hW:0<=W)(hg:gdp es N f W l):M75 es (B2 es N) N (Z20 es N f) W []:=by
 obtain⟨hp,J,O,E⟩:=X73 (es:=es) (f:=f) hN;refine C96 hp hW (q:=l) (Y106 l [] (fun p1 v p2 e=>hg p1 v p2 (by simpa using e)) fun c hc => ?_);refine aI fun h0 => ?_
 obtain⟨u,hu⟩:=B14 h0;obtain⟨h1,h2⟩:=Z78.1 hu;exact h2 (by simpa using (h.mem u).2 (E c hc u h1))
theorem U91:0<=fwI es N (B50 es N f (upK f (N-f))) f:=by
 have:=(R77 (g:=fun b=>Y74 es N (Y34 b)) (W:=fwI es N (B50 es N f (upK f (N-f))) f) (l:=(B50 es N f (upK f (N-f))).take f) (x:=0)).1 (by unfold fwI;exact Rat.le_refl);exact this.1
theorem X96:0<=N64 es N f:=by
 have h1:=((K90 hN hsm hle hcov hf (W:=N64 es N f)).1 Rat.le_refl).1;have h2:=U91 hN hsm hle hcov hf
 grind
theorem Y94(h:IsP N f l):N64 es N f<=wid es N f l:=by
 obtain⟨h1,h2⟩:=(X102 hN hsm hle hcov hf h (W:=wid es N f l)).1 Rat.le_refl;have h3:=U91 hN hsm hle hcov hf;have hW:0<=wid es N f l:=by grind
 exact(K90 hN hsm hle hcov hf).2 ⟨h1,Q104 hN hsm hle hcov hf h hW h2⟩
theorem W101(h:IsP N f l):wid es N f l<=8:=by
 unfold wid wdI;rw[R77];refine⟨by decide,fun b hb => ?_⟩;obtain⟨i,hi,rfl⟩:=gL (List.mem_of_mem_take hb);obtain⟨s1,s2⟩:=U79 hN hf h (aE hi);exact J100 (K85 hN hsm hle hcov hf s1) hle
theorem G99:∃ g,(Q71 (N-f) [] (V37 N f)).find? (fun l=>decide (wid es N f l<=N64 es N f))=some g/\R82 es N f=g.map (fun(x:Nat)=>(x:Int))/\wid es N f g=N64 es N f/\N64 es N f<=8:=by
 obtain⟨hp,Z,a3,Q⟩:=X73 (es:=es) (f:=f) hN;have hW:=X96 hN hsm hle hcov hf;obtain⟨a0,U⟩:=(K90 hN hsm hle hcov hf (W:=N64 es N f)).1 Rat.le_refl;have hF:M75 es (B2 es N) N (Z20 es N f) (N64 es N f) []:=U;have O:(V37 N f).length=N-f:=by simp[V37]
 have V:(V37 N f).Nodup:=(U49 N f).imp fun h=>Nat.ne_of_lt h
 have J:∀ v,v ∈ V37 N f<->∃ c ∈ Z20 es N f,(lft c []).testBit v=true:=Z;obtain⟨h1,_⟩:=V82 (es:=es) (nb:=B2 es N) (N:=N) (cs:=Z20 es N f) (W:=N64 es N f) hp hW (good:=B99 es N f) (goodp:=gdp es N f (N64 es N f))
  (fun l=>B92) (fun l v=>X105) (N-f) [] (V37 N f) O J V
 obtain⟨h2,h3⟩:=h1 ⟨fun p1 v p2 e=>by simp at e,hF⟩;have E:(Q71 (N-f) [] (V37 N f)).find? (fun l=>decide (wid es N f l<=N64 es N f))=some (gre es (B2 es N) N (Z20 es N f) (N64 es N f) (N-f) [] (V37 N f)):=by
  rw[<- h2];refine E88 fun l hl => ?_
  have hi:=B76 hl;rw[eX,decide_eq_true_eq,B92,X102 hN hsm hle hcov hf hi]
  constructor
  .rintro⟨_,h⟩
   refine⟨h,fun c hc => ?_⟩;refine aI fun h0 => ?_
   obtain⟨u,hu⟩:=B14 h0;obtain⟨a1,a2⟩:=Z78.1 hu;exact a2 ((hi.mem u).2 (Q c hc u a1))
  .rintro⟨h,_⟩
   exact⟨a0,h⟩
 refine⟨_,E,?_,?_,?_⟩
 .unfold R82 W85
  rw[Q97,W105 hN];have:=Y97 hp hW (N-f) [] (V37 N f) O J (U49 N f) hF;rw[Y107] at this;exact this
 .have ha:=List.find?_some E
  have hb:=List.mem_of_find?_eq_some E;have hc:=Y94 hN hsm hle hcov hf (B76 hb);have hd:=of_decide_eq_true ha
  grind
 .have hb:=List.mem_of_find?_eq_some E
  have hc:=Y94 hN hsm hle hcov hf (B76 hb);have hd:=W101 hN hsm hle hcov hf (B76 hb)
  grind
end
end
section
variable {es l:List Nat}
theorem M43{a b:Nat}:adj es a b=true<->N10 es a b:=by
 unfold adj N10
 simp_all
theorem K58{es:List Nat}{s:Nat}:R10 es s=true<->∃ e ∈ es,∀ w,s.testBit w=true->e.testBit w=true:=by
 unfold R10
 grind[M34]
theorem M116(f:Nat):∀ i,i<=f->(R6 f i).map Int.toNat++dnL (f-i)=dnL f
 | 0,_=>rfl
 | i+1,h=>by
  rw[R6,List.map_append,List.append_assoc];have e:[((f:Int)-1-(i:Int))].map Int.toNat++dnL (f-(i+1))=dnL (f-i):=by
   have e1:f-i=(f-(i+1))+1:=O0
   grind[dnL]
  rw[e];exact M116 f i O0
theorem C57(f:Nat):(R6 f f).map Int.toNat=dnL f:=by
 have:=M116 f f (aD _)
 grind[dnL]
theorem M112{es E:List Nat}(J:PEl es E)(O:E.Nodup):∀(n:Nat) (p1 p2:List Nat),p1.length=n->E=p1++p2->∀ a b,a ∈ p2->b ∈ p2->a≠b->V9 (C73 es) (· ∈ p1) a b->N10 es a b
 | 0,p1,p2,hn,_,a,b,_,_,_,r=>by
  have:=dT.1 hn;subst this
  cases r with
  | one h=>exact M43.1 h
  | more _ h _=>simp at h
 | n+1,p1,p2,hn,e,a,b,ha,hb,hne,r=>by
  rcases List.eq_nil_or_concat p1 with h | ⟨pre,x,h⟩
  .subst h;simp at hn
  .rw[List.concat_eq_append] at h
   subst h;have e':E=pre++(x :: p2):=by rw[e];simp
   have hl:pre.length=n:=by simpa using hn
   have hx:x ∉ p2:=by
    grind
   rcases r.split (P:=(· ∈ pre)) (v:=x) (fun y hy=>by simpa using hy) with g | ⟨g1,g2⟩
   .exact M112 J O n pre (x :: p2) hl e' a b (by simp[ha]) (by simp[hb]) hne g
   .have a1:=(M112 J O n pre (x :: p2) hl e' a x (by simp[ha]) O2 (fun h=>hx (h ▸ ha)) g1).symm
    have b1:=M112 J O n pre (x :: p2) hl e' x b O2 (by simp[hb]) (fun h=>hx (h ▸ hb)) g2;rw[e'] at J;obtain⟨y,y1,y2,y3⟩:=J.at a1.cov;exact⟨hne,y,y1,y3 a ha a1,y3 b hb b1⟩
theorem K116{set x:Nat}:∀ {es ps:List Nat},x ∈ es.foldl (W77 set) ps->x ∈ ps\/∃ e ∈ es,x=e &&& set
 | [],ps,h => .inl h
 | e :: es,ps,h=>by
  rw[dF] at h;rcases K116 h with h | ⟨e',h1,h2⟩
  .grind[W77]
  grind
theorem J122{es:List Nat}{N set:Nat}(hs:set<2^N)(hcov:∀ v,set.testBit v=true->∃ e ∈ es,e.testBit v=true)(h0:0<(V5 N set).length):D73 es N set<=1<->R10 es set=true:=by
 constructor
 .intro h
  rw[M86] at h;obtain⟨r,hr,E⟩:=Lp.val_one (fun v hv=>G83 hcov hv) h0 h;have hm:(D16 es set)[r] ∈ D16 es set:=List.getElem_mem hr;have e1:(D16 es set).getD r 0=(D16 es set)[r]:=by simp_all
  rcases K116 (es:=es) (ps:=[]) hm with h | ⟨e,h1,h2⟩
  .simp at h
  .refine K58.2 ⟨e,h1,fun w hw => ?_⟩
   obtain⟨j,hj,J⟩:=gL (Q62.2 ⟨R7 hs hw,hw⟩:w ∈ V5 N set)
   grind[sP]
 grind[Y110,Rat.le_refl]
section
variable {es:List Nat} {N f:Nat} (hN:N<=6) (hsm:∀ e ∈ es,e<2^N) (hle:es.length<=8) (hcov:∀ w,w<N->∃ e ∈ es,e.testBit w=true) (hf:f<=N)
include hN hsm hle hcov hf
theorem Y113(h:IsP N f l):wid es N f l<=1<->∀ b ∈ B50 es N f (l.map fun(x:Nat)=>(x:Int)),R10 es (Y34 b)=true:=by
 have key:∀ b ∈ B50 es N f (l.map fun(x:Nat)=>(x:Int)),D73 es N (Y34 b)<=1<->R10 es (Y34 b)=true:=fun b hb=>by
  obtain⟨i,hi⟩:=cH hb;obtain⟨h1,h2⟩:=U79 hN hf h hi;exact J122 h1 (K85 hN hsm hle hcov hf h1) h2
 unfold wid wdI;rw[gJ (by rw[U74];omega),R77]
 grind
theorem W118(h:IsP N f l):(l++dnL f).Nodup:=by
 rw[gT];refine⟨h.nd,?_,fun a ha b hb => ?_⟩
 .have key:∀ k,(dnL k).Nodup:=fun k=>by
   induction k with
   | zero=>exact List.nodup_nil
   | succ k ih=>exact hO.2 ⟨fun h=>by have:=K22.1 h;omega,ih⟩
  exact key f
 .have h1:=(h.mem a).1 ha
  have h2:=K22.1 hb;omega
theorem Z59(h:IsP N f l):(∀ b ∈ B50 es N f (l.map fun(x:Nat)=>(x:Int)),R10 es (Y34 b)=true)<->PEl es (l++dnL f):=by
 have E:Z85 N f (l.map fun(x:Nat)=>(x:Int))=l++dnL f:=by rw[N82,C57]
 have Q:=W118 hN hsm hle hcov hf h;have J:∀ w,w<N->w ∈ l++dnL f:=fun w hw=>by rw[dN,h.mem,K22];omega
 constructor
 .intro g
  refine PEl.of_at fun p1 v p2 e hc => ?_
  obtain⟨b,b1,b2⟩:=J83 (es:=es) (n:=N) (f:=f) (l:=l.map fun(x:Nat)=>(x:Int)) O0 hsm (h.ok hf) (p1:=p1) (p2:=p2) (v:=v) (by rw[E,e]);obtain⟨y,y1,y2⟩:=K58.1 (g b (aH b1));refine⟨y,y1,y2 v ((b2 v).2 (.inl rfl)),fun w hw ha=>y2 w ((b2 w).2 (.inr ⟨fun hp => ?_,.one (M43.2 ha)⟩))⟩
  grind
 .intro g b hb
  obtain⟨i,hi⟩:=cH hb;have O:i<N:=by
   grind[aJ,U74]
  obtain⟨p1,p2,e⟩:=List.append_of_mem (J i O);obtain⟨b',b1,b2⟩:=J83 (es:=es) (n:=N) (f:=f) (l:=l.map fun(x:Nat)=>(x:Int)) O0 hsm (h.ok hf) (p1:=p1) (p2:=p2) (v:=i) (by rw[E,e]);rw[hi] at b1
  cases b1
  have g':=g;rw[e] at g';obtain⟨y,y1,y2,y3⟩:=g'.at (hcov i O);refine K58.2 ⟨y,y1,fun w hw => ?_⟩;rcases (b2 w).1 hw with rfl | ⟨hp,r⟩
  .exact y2
  .by_cases ew:w=i
   .rw[ew];exact y2
   have hm:w ∈ i :: p2:=by
    have:=J w (J110 hsm r)
    simp_all
   have U:w ∈ p2:=by
    simp_all
   exact y3 w U (M112 g Q _ p1 (i :: p2) rfl e i w O2 hm (fun e'=>ew e'.symm) r)
theorem G117:N64 es N f<=1<->PE es/\¬ U25 (N10 es) N f []/\¬ R52 es f:=by
 rw[<- K113 hf (fun v=>⟨fun⟨e,h1,h2⟩=>R7 (hsm e h1) h2,fun hv=>hcov v hv⟩)]
 constructor
 .intro h
  obtain⟨g,h1,h2,h3,h4⟩:=G99 hN hsm hle hcov hf;have hg:IsP N f g:=B76 (List.mem_of_find?_eq_some h1);rw[<- h3,Y113 hN hsm hle hcov hf hg,Z59 hN hsm hle hcov hf hg] at h;exact⟨g,hg.nd,hg.mem,h⟩
 .rintro⟨q,q1,q2,q3⟩
  have hq:IsP N f q:=⟨q1,q2⟩
  rw[<- Z59 hN hsm hle hcov hf hq,<- Y113 hN hsm hle hcov hf hq] at q3
  grind[Y94]
end
end
theorem R57{aL:List Nat}{N inn f:Nat}:∀ i,(J4 aL N inn f i).1≠0->∃ x,x<i/\(J4 aL N inn f i).2 x≠0
 | 0,h=>absurd rfl h
 | i+1,h=>by
  cases hr:shG aL inn (N14 aL f i) (J4 aL N inn f i).1 N 0 (aL.getD i 0 &&& inn) 2 with
  | none=>
   have e:J4 aL N inn f (i+1)=J4 aL N inn f i:=by rw[J4,hr];rfl
   rw[e] at h ⊢;obtain⟨x,h1,h2⟩:=R57 i h;exact⟨x,O0,h2⟩
  | some r=>
   obtain⟨st,last⟩:=r;have e:J4 aL N inn f (i+1)=(st,fun x=>if x=i then last else if (J4 aL N inn f i).1=0\/st<(J4 aL N inn f i).1 then 0 else(J4 aL N inn f i).2 x):=by rw[J4,hr];rfl
   rw[e];obtain⟨_,_,h4,_⟩:=K15 (b0:=aL.getD i 0 &&& inn) N 0 _ 2 (fun w hw=>hw) (aD _) hr;exact⟨i,O0,by simp_all⟩
theorem Z60{aL:List Nat}{N inn f:Nat}:∀ i,(J4 aL N inn f i).1=0->∀ x,x<i->shG aL inn (N14 aL f x) 0 N 0 (aL.getD x 0 &&& inn) 2=none
 | 0,_,x,hx=>O0
 | i+1,h,x,hx=>by
  cases hr:shG aL inn (N14 aL f i) (J4 aL N inn f i).1 N 0 (aL.getD i 0 &&& inn) 2 with
  | none=>
   have e:J4 aL N inn f (i+1)=J4 aL N inn f i:=by rw[J4,hr];rfl
   rw[e] at h;rw[h] at hr
   by_cases E:x=i
   .subst E;exact hr
   .exact Z60 i h x O0
  | some r=>
   obtain⟨st,last⟩:=r;have e:J4 aL N inn f (i+1)=(st,fun x=>if x=i then last else if (J4 aL N inn f i).1=0\/st<(J4 aL N inn f i).1 then 0 else(J4 aL N inn f i).2 x):=by rw[J4,hr];rfl
   rw[e] at h;obtain⟨h2,_⟩:=K15 (b0:=aL.getD i 0 &&& inn) N 0 _ 2 (fun w hw=>hw) (aD _) hr;omega
def Q20(N inn E:Nat):Nat:=(aY N).countP fun w=>inn.testBit w && !E.testBit w
theorem R64{N inn E b w:Nat}(hw:w<N)(hb:b.testBit w=true)(hi:inn.testBit w=true)(hs:E.testBit w=false):Q20 N inn (E ||| b)<Q20 N inn E:=by
 unfold Q20;have key:∀ l:List Nat,l.countP (fun w=>inn.testBit w && !(E ||| b).testBit w)<=l.countP fun w=>inn.testBit w && !E.testBit w:=fun l=>by
  refine List.countP_mono_left fun x _ hx => ?_
  simp_all
 obtain⟨s,t,e⟩:=List.append_of_mem (cW.2 hw)
 grind
theorem K49{aL:List Nat}{N inn far:Nat}(hi:inn<2^N)(hN:N<=32)(U:∀ u,aL.getD u 0<2^N):∀(k E b st:Nat),shG aL inn far 0 k E b st=none->(∀ w,b.testBit w=true->inn.testBit w=true/\E.testBit w=false) ->
  (∀ u,E.testBit u=true->∀ w,(aL.getD u 0).testBit w=true->(inn.testBit w=true->E.testBit w=true\/b.testBit w=true)/\far.testBit w=false)->Q20 N inn E+1<=k ->
  ∃ S:Nat->Prop,(∀ w,E.testBit w=true\/b.testBit w=true->S w)/\∀ u,S u->∀ w,(aL.getD u 0).testBit w=true->(inn.testBit w=true->S w)/\far.testBit w=false
 | 0,E,b,st,_,_,_,hk=>O0
 | k+1,E,b,st,h,hb,hc,hk=>by
  unfold shG at h
  by_cases h0:b=0
  .refine⟨fun w=>E.testBit w=true,fun w hw => ?_,fun u hu w hw => ?_⟩
   .simp_all
   grind
  .rw[if_neg (by simp[h0])] at h
   split at h
   .cases h
   .rename_i J
    have J:Q4 aL b 32 &&& far=0:=aI J;obtain⟨w0,Q⟩:=B14 h0;obtain⟨i0,s0⟩:=hb w0 Q;have V:=R64 (R7 hi i0) Q i0 s0;refine(fun g => ?_) (K49 hi hN U k (E ||| b) _ _ h (fun w hw => ?_) (fun u hu w hw => ?_) O0)
    .obtain⟨S,h1,h2⟩:=g
     refine⟨S,fun w hw=>h1 w (.inl ?_),h2⟩
     simp_all
    .grind[N1]
    .rw[aV,cO] at hu
     rcases hu with hu | hu
     .grind
     .have O:u<32:=aO (R7 hi (hb u hu).1) hN
      have hn:(Q4 aL b 32).testBit w=true:=Y7.2 ⟨u,O,hu,hw⟩
      constructor
      .grind[N1]
      .have:=congrArg (·.testBit w) J
       grind
section
variable {es:List Nat} {N f:Nat} (hN:N<=6) (hf:f<=N)
include hN hf
theorem B17(u w:Nat):((B2 es N).getD u 0).testBit w=true<->u<N/\w<N/\N10 es u w:=by
 by_cases hu:u<N
 .rw[aP,V39 es O0 hu,Option.getD_some,E26,aG,decide_eq_true_eq,M43]
  simp_all
 grind[B2,aT,N9]
theorem J69(u:Nat):(B2 es N).getD u 0<2^N:=Nat.lt_pow_two_of_testBit _ fun w hw=>bN.2 fun h=>by
 grind[B17]
theorem X38(w:Nat):(K10 N f).testBit w=true<->f<=w/\w<N:=by
 grind[K10,N1,dC]
theorem M73:K10 N f<2^N:=Z6 (by grind)
theorem V57{x:Nat}(w:Nat):(N14 (B2 es N) f x).testBit w=true<->w<f/\w≠x/\¬ (x<N/\N10 es x w):=by
 unfold N14;rw[N1,N1,dC,aR,aG,aG,decide_eq_true_eq,cJ,cJ,<- Bool.not_eq_true,B17 hN hf,decide_eq_false_iff_not]
 grind
theorem C61{x:Nat}(hx:x<N):∀(k u:Nat),(lev (B2 es N) (K10 N f) ((B2 es N).getD x 0 &&& K10 N f) k).testBit u=true->(f<=u/\u<N)/\V9 (N10 es) (fun v=>f<=v/\v<N) x u
 | 0,u,h=>by
  rw[lev,bI,aG,B17 hN hf,X38 hN hf] at h;exact⟨h.2,.one h.1.2.2⟩
 | k+1,u,h=>by
  rw[lev,bI,aG,X38 hN hf] at h;obtain⟨v,_,hv,E⟩:=Y7.1 h.1;obtain⟨h1,h2⟩:=C61 hx k v hv;exact⟨h.2,h2.trans h1 (.one ((B17 hN hf v u).1 E).2.2)⟩
theorem W67:(K24 (B2 es N) N f).isSome=true<->U25 (N10 es) N f []:=by
 rw[V45]
 constructor
 .intro h
  unfold K24 at h
  split at h
  .cases h
  .rename_i x hx
   have O:x<f:=by simp_all
   have Q:=List.find?_some hx;have Q:(J4 (B2 es N) N (K10 N f) f f).2 x≠0:=by simpa using Q
   obtain⟨_,aa,hs⟩:=E47 f x Q;obtain⟨_,_,_,h4,u,z,h5,h6,h7⟩:=K15 (b0:=(B2 es N).getD x 0 &&& K10 N f) N 0 _ 2 (fun w hw=>hw) (aD _) hs;obtain⟨h8,h9⟩:=C61 hN hf (show x<N by omega) _ u h5;obtain⟨_,a7,a3⟩:=(B17 hN hf u z).1 h7;obtain⟨W,a2,E⟩:=(V57 hN hf z).1 (h4 z h6);have E:¬ N10 es x z:=fun g=>E ⟨O0,g⟩
   obtain⟨l,hl,a4⟩:=(h9.trans h8 (.one a3)).chordless (fun e=>a2 e.symm);have Z:=hl.len;have J:3<=l.length:=by
    rcases aW 2 l.length with h | h
    .exact h
    .have h2:l.length=2:=O0
     have e1:=hl.first;have e2:=hl.last 1 O0;exact absurd (hl.step 0 x z e1 e2) E
   refine⟨l,J,a4,fun i y hy => ?_,fun i y hy => ?_⟩
   .have a1:=(aJ.1 hy).1
    rcases cI i with rfl | hi
    .rw[hl.first] at hy;cases hy;omega
    .by_cases V:i+1=l.length
     .rw[hl.last i V] at hy;cases hy;omega
     .exact(hl.inn i y hy hi O0).2
   .have a1:=(aJ.1 hy).1
    constructor
    .intro a8
     refine aI fun hn => ?_
     have:=(hl.inn i y hy O0 O0).1;omega
    .rintro (rfl | V)
     .rw[hl.first] at hy;cases hy;exact O
     .rw[hl.last i V] at hy;cases hy;exact W
 .rintro⟨l,hl⟩
  have Z:=hl.len;obtain⟨x,hx⟩:∃ x,l[0]? = some x:=⟨_,aE O0⟩
  obtain⟨z,hz⟩:∃ z,l[l.length-1]? = some z:=⟨_,aE O0⟩
  have O:=(hl.ends 0 x hx).2 (.inl rfl);have W:=(hl.ends _ z hz).2 (.inr O0);obtain⟨a9,E⟩:=hl.ch 0 _ x z O0 hx hz;have E:¬ N10 es x z:=fun g=>by have:=E.1 g;omega
  have a6:∀(i y:Nat),l[i]? = some y->0<i->i+1<l.length->(K10 N f).testBit y=true:=fun i y hy h0 h1=>by
   rw[X38 hN hf];have:=hl.lt i y hy;refine⟨?_,this⟩;have:=(hl.ends i y hy)
   omega
  have a5:∀(i y w:Nat),l[i]? = some y->l[i+1]? = some w->((B2 es N).getD y 0).testBit w=true:=fun i y w hy hw=>by
   rw[B17 hN hf];exact⟨hl.lt i y hy,hl.lt _ w hw,(hl.ch i (i+1) y w O0 hy hw).2.2 rfl⟩
  have h1:(J4 (B2 es N) N (K10 N f) f f).1≠0:=by
   intro h0;have U:=Z60 f h0 x O;have a0:Q20 N (K10 N f) 0+1<=N:=by
    have h1:Q20 N (K10 N f) 0<=((aY N).filter fun w=>decide (w≠x)).length:=by
     unfold Q20;rw[<- fS];refine List.countP_mono_left fun w _ hw => ?_
     grind[X38]
    have h2:((aY N).filter fun w=>decide (w≠x)).length<(aY N).length:=by
     rw[<- fS]
     grind[aW,aY,decide,List.countP_eq_length,List.countP_le_length]
    grind
   obtain⟨S,s1,s2⟩:=K49 (M73 hN hf) O0 (J69 hN hf) N 0 _ 2 U (fun w hw=>by
    simp_all) (fun u hu=>by simp at hu) a0
   have hS:∀(i y:Nat),l[i]? = some y->0<i->i+1<l.length->S y:=by
    intro i
    induction i with
    | zero=>intro y _ h0;omega
    | succ i ih=>
     intro y hy _ hi;obtain⟨u,hu⟩:∃ u,l[i]? = some u:=⟨_,aE O0⟩
     grind[cI]
   obtain⟨u,hu⟩:∃ u,l[l.length-2]? = some u:=⟨_,aE O0⟩
   grind[V57]
  grind[R57,K24,List.find?_eq_none,absurd]
end
end Go.Proofs.YtoiioigihocgbaaGreatDoor
namespace Go.Clo
theorem N28{a b:Nat}:Z2 a b=0<->∀ q,a.testBit q=true->b.testBit q=true:=by
 constructor
 .intro h q hq
  have:=congrArg (·.testBit q) h
  grind[N1]
 .intro h
  apply bZ
  grind[N1]
theorem J43{cl rest:Nat}:∀(es:List Nat) (s:Nat × Bool),((∃ e ∈ es,Z2 cl e=0)/\(∃ e ∈ es,Z2 cl e=0/\es.foldl (X78 cl rest) s=(Z2 rest e,true))\/es.foldl (X78 cl rest) s=s)/\(s.2=false->(∃ e ∈ es,Z2 cl e=0)->(es.foldl (X78 cl rest) s).2=true)
 | [],s=>⟨.inr rfl,fun _ ⟨e,h,_⟩=>by simp at h⟩
 | x :: es,s=>by
  rw[dF];obtain⟨h1,h2⟩:=J43 es (X78 cl rest s x)
  by_cases hc:Z2 cl x=0/\(s.2=false\/E9 (Z2 rest x)<E9 s.1)
  .have e:X78 cl rest s x=(Z2 rest x,true):=if_pos hc
   rw[e] at h1 h2 ⊢;have hx:∃ e ∈ x :: es,Z2 cl e=0:=⟨x,O2,hc.1⟩
   rcases h1 with ⟨_,y,y1,y2,y3⟩ | h1
   .refine⟨.inl ⟨hx,y,by simp[y1],y2,y3⟩,fun _ _=>by rw[y3]⟩
   simp_all
  .have e:X78 cl rest s x=s:=if_neg hc
   rw[e] at h1 h2 ⊢;refine⟨?_,fun h0 ⟨y,y1,y2⟩ => ?_⟩
   .grind
   grind
theorem R49{es:List Nat}{cl rest:Nat}:(C75 es cl rest).2=false<->¬ ∃ e ∈ es,Z2 cl e=0:=by
 grind[J43,C75,absurd]
theorem Z53{es:List Nat}{cl rest:Nat}(h:(C75 es cl rest).2=true):∃ e ∈ es,Z2 cl e=0/\(C75 es cl rest).1=Z2 rest e:=by
 grind[J43,C75]
theorem R48{p q:Nat->Bool}{t:Nat}:∀ {T:List Nat},(∀ x,p x=true->q x=true)->t ∈ T->q t=true->p t=false->T.countP p+1<=T.countP q
 | [],_,h,_,_=>by simp at h
 | x :: T,hpq,ht,h1,h2=>by
  rw[List.countP_cons,List.countP_cons];have hm:=List.countP_mono_left (l:=T) (p:=p) (q:=q) fun y _=>hpq y
  by_cases e:t=x
  .simp_all
  .have:=R48 (T:=T) hpq ((aU.1 ht).resolve_left e) h1 h2
   grind
theorem Y68{cl rest:Nat}{T:List Nat}:∀(es:List Nat) (s:Nat × Nat),(∀ e ∈ es,Z2 cl e=0->∃ t ∈ T,rest.testBit t=true/\e.testBit t=false)->s.1<=T.countP (fun t=>s.2.testBit t)->(es.foldl (X74 cl rest) s).1<=T.countP (fun t=>(es.foldl (X74 cl rest) s).2.testBit t)
 | [],s,_,h=>h
 | x :: es,s,he,h=>by
  rw[dF];refine Y68 es _ (fun e h1=>he e (by simp[h1])) ?_;unfold X74
  split
  .rename_i hc
   obtain⟨t,t1,t2,t3⟩:=he x O2 hc.1;have hs:s.2.testBit t=false:=by
    have:=congrArg (·.testBit t) hc.2
    grind[N1]
   have:=R48 (T:=T) (p:=fun t=>s.2.testBit t) (q:=fun t=>(s.2 ||| Z2 rest x).testBit t) (fun y hy=>by rw[aV,hy];rfl) t1 (by rw[aV,N1,t2,t3];simp) hs
   grind
  .exact h
theorem X46{rest out t:Nat}:∀ k,(N71 rest out k).testBit t=true<->rest.testBit t=true/\¬ (out.testBit t=true/\t<k)
 | 0=>by simp[N71]
 | k+1=>by
  have ih:=X46 (rest:=rest) (out:=out) (t:=t) k;rw[N71]
  grind[N1]
def Unc(es:List Nat)(cl:Nat)(T:List Nat):Prop:=¬ ∃ e ∈ es,Z2 cl e=0/\∀ t ∈ T,e.testBit t=true
section
variable {A:Nat->Nat->Prop} {es aL:List Nat} {N:Nat} (hb:∀ u w,(aL.getD u 0).testBit w=true<->A u w)
include hb
theorem E38:∀(c cl rest:Nat),W51 es aL N c cl rest=true->∃ T:List Nat,T.length<=c/\(∀ t ∈ T,rest.testBit t=true)/\(∀ a ∈ T,∀ b ∈ T,a≠b->A a b\/A b a)/\Unc es cl T
 | 0,cl,rest,h=>by
  rw[W51,cJ] at h;exact⟨[],aD _,O2,O2,fun⟨e,h1,h2,_⟩=>R49.1 h ⟨e,h1,h2⟩⟩
 | c+1,cl,rest,h=>by
  rw[W51,cO,cJ] at h
  by_cases E:(C75 es cl rest).2=false
  .exact⟨[],O2,O2,O2,fun⟨e,h1,h2,_⟩=>R49.1 E ⟨e,h1,h2⟩⟩
  have h:=h.resolve_left E;obtain⟨e0,e1,e2,e3⟩:=Z53 (by simpa using E);rw[aG,dY] at h;obtain⟨_,v,hv,h⟩:=h;rw[aG,e3] at h;obtain⟨h1,h2⟩:=h;obtain⟨T,t1,t2,t3,t4⟩:=E38 c _ _ h2;rw[N1,aG] at h1;have Q:∀ t ∈ T,rest.testBit t=true/\A v t:=fun t ht=>by
   grind[X46]
  refine⟨v :: T,by simp;omega,fun t ht => ?_,fun a ha b J O => ?_,fun⟨e,g1,g2,g3⟩=>t4 ⟨e,g1,?_,fun t ht=>g3 t (by simp[ht])⟩⟩
  .grind
  .grind
  grind[N28]
theorem X50{p:Nat->Prop}:∀ {T:List Nat},(∃ t ∈ T,p t)->∃ v ∈ T,p v/\∀ t ∈ T,p t->v<=t
 | [],⟨t,h,_⟩=>by simp at h
 | x :: T,h=>by
  by_cases hT:∃ t ∈ T,p t
  .obtain⟨v,v1,v2,v3⟩:=X50 hT
   grind
  simp_all
theorem E60{cl v:Nat}{T:List Nat}(hv:v ∈ T)(h:Unc es cl T):Unc es (cl ||| 2^v) (T.filter fun t=>decide (t≠v)):=fun⟨e,h1,h2,h3⟩=>h ⟨e,h1,N28.2 fun q hq=>N28.1 h2 q (by rw[aV,hq];rfl),fun t ht=>by
 grind[N28]⟩
theorem X30:∀(c cl rest:Nat) (T:List Nat),rest<2^N->T.length<=c->(∀ t ∈ T,rest.testBit t=true)->(∀ a ∈ T,∀ b ∈ T,a≠b->A a b)->Unc es cl T->W51 es aL N c cl rest=true
 | 0,cl,rest,T,_,hl,_,_,hu=>by
  obtain rfl:T=[]:=dT.1 O0;rw[W51,cJ];exact R49.2 fun⟨e,h1,h2⟩=>hu ⟨e,h1,h2,O2⟩
 | c+1,cl,rest,T,hr,hl,hT,hp,hu=>by
  rw[W51,cO,cJ]
  by_cases E:(C75 es cl rest).2=false
  .exact .inl E
  right;obtain⟨e0,e1,e2,e3⟩:=Z53 (by simpa using E);have O:∀ e ∈ es,Z2 cl e=0->∃ t ∈ T,rest.testBit t=true/\e.testBit t=false:=fun e he h0=>by
   refine aI fun hn=>hu ⟨e,he,h0,fun t ht => ?_⟩
   simp_all
  have Q:∀ t,(C75 es cl rest).1.testBit t=true<->rest.testBit t=true/\e0.testBit t=false:=fun t=>by
   grind[N1]
  obtain⟨v,v1,v2,v3⟩:=X50 hb (p:=fun t=>(C75 es cl rest).1.testBit t=true) (T:=T) (by
   simp_all)
  have U:(T.filter fun t=>decide (t≠v)).length<T.length:=fG.2 ⟨v,v1,O2⟩;have hd:(C82 es cl rest).1<=c+1:=by
   have:=Y68 (cl:=cl) (rest:=rest) (T:=T) es (0,0) O (Nat.zero_le _);exact bK this (bK List.countP_le_length hl)
  rw[aG,aG,dY,decide_eq_true_eq,decide_eq_true_eq];refine⟨⟨fun h=>(by grind),hd⟩,v,cW.2 (R7 hr (hT v v1)),?_⟩;rw[aG];refine⟨v2,X30 c _ _ (T.filter fun t=>decide (t≠v)) (W37 (D85 hr _)) O0 (fun t ht => ?_) (fun a ha b J=>hp a (dA.1 ha).1 b (dA.1 J).1) (E60 hb v1 hu)⟩
  grind[X46]
end
theorem Q52{P:Nat->Bool}:∀(k L:Nat),(∀ x,P x=false)->B86 P k L=L+k
 | 0,L,_=>rfl
 | k+1,L,h=>by rw[B86,if_neg (by rw[h];simp),Q52 k (L+1) h];omega
theorem E51{P:Nat->Bool}:∀(k L c:Nat),L<=c->c<L+k->P c=true->B86 P k L<=c/\P (B86 P k L)=true
 | 0,L,c,h1,h2,_=>O0
 | k+1,L,c,h1,h2,h=>by
  rw[B86]
  split
  .simp_all
  .rename_i h3
   by_cases e:L=c
   .subst e;exact absurd h h3
   .exact E51 k (L+1) c O0 O0 h
section
variable {es aL:List Nat} {N:Nat} (hb:∀ u w,(aL.getD u 0).testBit w=true<->N10 es u w) (hsm:∀ e ∈ es,e<2^N) (hor:∀ v,(Z7 es).testBit v=true<->Q21 es v)
include hb hsm hor
theorem B38{L v:Nat}:∀ k,(W76 es aL N L (Z7 es) k).1=[]->(W76 es aL N L (Z7 es) k).2.1=0/\∀ x,(W76 es aL N L (Z7 es) k).2.2.testBit x=true<->(Z7 es).testBit x=true/\k<=x
 | 0,_=>⟨rfl,fun x=>by simp[W76]⟩
 | k+1,h=>by
  rw[W76] at h ⊢;unfold W99 at h ⊢
  split at h
  .rename_i h1
   rw[if_pos h1]
   split at h
   .simp at h
   .rename_i h2
    rw[if_neg h2];obtain⟨i1,i2⟩:=B38 (v:=v) k h
    grind[Z2]
  .rename_i h1
   rw[if_neg h1];obtain⟨i1,i2⟩:=B38 (v:=v) k h
   grind
theorem C45{L:Nat}:∀ k d,(W76 es aL N L (Z7 es) k).1≠[]->(W76 es aL N L (Z7 es) (k+d)).1≠[]
 | k,0,h=>h
 | k,d+1,h=>by
  have ih:=C45 k d h;show(W76 es aL N L (Z7 es) (k+d+1)).1≠[];rw[W76];unfold W99
  split
  .split
   .simp
   .exact ih
  .exact ih
theorem K74:D83 es aL N N=[]<->Cf es:=by
 have a0:Z7 es<2^N:=Nat.lt_pow_two_of_testBit _ fun w hw=>bN.2 fun h=>by
  obtain⟨e,h1,h2⟩:=(hor w).1 h;have:=R7 (hsm e h1) h2;omega
 have O:∀ T:List Nat,Z7 es≠0->Unc es 0 T->T≠[]:=fun T h0 hu hT=>by
  subst hT
  cases he:es with
  | nil=>
   refine h0 (bZ fun i => ?_);rw[jQ];refine bN.2 fun h => ?_
   obtain⟨e,h1,_⟩:=(hor i).1 h;rw[he] at h1;simp at h1
  | cons x r=>exact hu ⟨x,by rw[he];simp,N28.2 (fun q hq=>by simp_all),O2⟩
 constructor
 .intro J Q hx hc ha
  refine aI fun hn => ?_
  have a5:∀ q,Q q->q<N:=fun q hq=>by
   obtain⟨e,h1,h2⟩:=hc q hq;exact R7 (hsm e h1) h2
  obtain⟨T,hT⟩:∃ T:List Nat,T=(aY N).filter fun q=>@decide (Q q) (fJ _):=⟨_,rfl⟩
  have hm:∀ q,q ∈ T<->Q q:=fun q=>by
   simp_all
  have hl:T.length<=N:=by grind
  clear hT;have hu:∀ cl,cl=0->Unc es cl T:=fun cl a9 ⟨e,h1,_,h3⟩=>hn ⟨e,h1,fun q hq=>h3 q ((hm q).2 hq)⟩
  have h3:3<=T.length:=by
   refine aI fun h3 => ?_
   match T,hm,h3 with
   | [],hm,_=>simp_all
   | [a],hm,_=>
    obtain⟨e,h1,h2⟩:=hc a ((hm a).1 O2)
    grind
   | [a,b],hm,_=>
    by_cases e:a=b
    .obtain⟨e',h1,h2⟩:=hc a ((hm a).1 O2)
     grind
    .obtain⟨_,e',h1,h2,a6⟩:=ha a b ((hm a).1 O2) ((hm b).1 O2) e
     grind
   | _ :: _ :: _ :: _,_,h3=>simp at h3
  have Z:W51 es aL N T.length 0 (Z7 es)=true:=X30 hb T.length 0 (Z7 es) T a0 (aD _) (fun t ht=>(hor t).2 (hc t ((hm t).1 ht))) (fun a W b E=>ha a b ((hm a).1 W) ((hm b).1 E)) (hu 0 rfl);obtain⟨k1,k2⟩:=E51 (P:=fun L=>W51 es aL N L 0 (Z7 es)) (N-2) 3 T.length h3 O0 Z;have h0:Z7 es≠0:=fun h=>by
   simp_all
  unfold D83 at J;rw[if_neg (fun h=>by rcases h with h | h<;>omega)] at J;generalize B86 (fun L=>W51 es aL N L 0 (Z7 es)) (N-2) 3=L at *
  obtain⟨T0,t1,t2,t3,t4⟩:=E38 hb L 0 (Z7 es) k2;obtain⟨v,v1,_,v3⟩:=X50 hb (p:=fun _=>True) (T:=T0) (by
   cases a8:T0 with
   | nil=>grind
   | cons x r=>simp_all)
  have a4:=R7 a0 (t2 v v1);have a7:(T0.filter fun t=>decide (t≠v)).length<T0.length:=fG.2 ⟨v,v1,O2⟩;have U:(W76 es aL N L (Z7 es) (v+1)).1≠[]:=by
   by_cases he:(W76 es aL N L (Z7 es) v).1=[]
   .obtain⟨i1,i2⟩:=B38 hb hsm hor (v:=v) v he
    rw[W76];unfold W99;rw[if_pos ((i2 v).2 ⟨t2 v v1,aD _⟩),if_pos]
    .simp
    rw[he,i1];refine⟨by simp;omega,X30 hb _ _ _ (T0.filter fun t=>decide (t≠v)) (W37 (Z6 ?_)) (by grind) (fun t ht => ?_) (fun a W b E V => ?_) (E60 hb v1 t4)⟩
    .exact Nat.lt_pow_two_of_testBit _ fun w hw=>bN.2 fun h=>by
      grind[R7]
    .obtain⟨a1,a2⟩:=dA.1 ht
     have a2:t≠v:=of_decide_eq_true a2;rw[bI,aG,hb,N1,aG,i2,aR,cJ,decide_eq_false_iff_not];refine⟨⟨⟨t2 t a1,v3 t a1 trivial⟩,fun e=>a2 e.symm⟩,?_⟩;rcases t3 v v1 t a1 (eT a2) with g | g
     .exact g
     .exact g.symm
    .rcases t3 a (dA.1 W).1 b (dA.1 E).1 V with g | g
     .exact g
     .exact g.symm
   .exact C45 hb hsm hor v 1 he
  have:=C45 hb hsm hor (v+1) (N-(v+1)) U;rw[show v+1+(N-(v+1))=N by omega] at this;exact this J
 .intro hC
  unfold D83
  by_cases h0:Z7 es=0
  .rw[if_pos (.inl h0)]
  rw[if_pos];right;rw[Q52 (P:=fun L=>W51 es aL N L 0 (Z7 es)) (N-2) 3 fun L=>bN.2 fun hp => ?_]
  .omega
  obtain⟨T,t1,t2,t3,t4⟩:=E38 hb L 0 (Z7 es) hp;have V:=O T h0 t4;obtain⟨e,h1,h2⟩:=hC (fun q=>q ∈ T) (by
   cases hT:T with
   | nil=>exact absurd hT V
   | cons x r=>exact⟨x,O2⟩) (fun q hq=>(hor q).1 (t2 q hq)) (fun a b ha E a3=>by
   rcases t3 a ha b E a3 with g | g
   .exact g
   .exact g.symm)
  exact t4 ⟨e,h1,N28.2 (fun q hq=>by simp_all),h2⟩
end
theorem R68{cy cq:List Nat}:X90 cy cq=[]<->cy=[]/\cq=[]:=by
 grind[X90,absurd]
end Go.Clo
namespace Go.Proofs.YtoiioigihocgbaaGreatDoor
open Go.Clo
theorem J73{es:List Nat}{N:Nat}(hN:N<=6)(hsm:∀ e ∈ es,e<2^N)(hor:∀ v,(Z7 es).testBit v=true<->Q21 es v):Z74 es (B2 es N) N=[]<->PE es:=by
 have E:∀ u w,N10 es u w->u<N/\w<N:=fun u w h=>by
  obtain⟨_,e,h1,h2,h3⟩:=h;exact⟨R7 (hsm e h1) h2,R7 (hsm e h1) h3⟩
 have hb:∀ u w,((B2 es N).getD u 0).testBit w=true<->N10 es u w:=fun u w=>by
  rw[B17 hN (Nat.zero_le N) u w]
  grind
 rw[V78 (n:=N) fun v ⟨e,h1,h2⟩=>R7 (hsm e h1) h2,<- Q74 hN hb E (fun a b h=>h.symm) (fun a h=>h.1 rfl),<- K74 hb hsm hor];unfold Z74
 grind[R68]
end Go.Proofs.YtoiioigihocgbaaGreatDoor
namespace Go.Clo
theorem J117{P:Nat->Bool}:∀(k L:Nat),B86 P k L<L+k->P (B86 P k L)=true
 | 0,L,h=>by rw[B86] at h;omega
 | k+1,L,h=>by
  rw[B86] at h ⊢
  split
  .rename_i h2;exact h2
  .rename_i h2
   rw[if_neg h2] at h;exact J117 k (L+1) O0
structure BadQ (es:List Nat) (N:Nat) (l:List Nat):Prop where
 nd:l.Nodup
 lt:∀ x ∈ l,x<N
 len:3<=l.length
 adj:∀ a ∈ l,∀ b ∈ l,a≠b->N10 es a b
 unc:∀ e ∈ es,∃ q ∈ l,e.testBit q=false
structure LstI (es aL:List Nat) (N L v:Nat) (s:List Nat × Nat × Nat):Prop where
 cl:∀ x,s.2.1.testBit x=true<->x ∈ s.1
 nd:s.1.Nodup
 lt:∀ x ∈ s.1,x<v
 cov:∀ x ∈ s.1,Q21 es x
 adj:∀ a ∈ s.1,∀ b ∈ s.1,a≠b->N10 es a b
 len:s.1.length<=L
 rst:∀ x,s.2.2.testBit x=true->v<=x/\Q21 es x/\∀ a ∈ s.1,N10 es a x
 rlt:s.2.2<2^N
 pos:W51 es aL N (L-s.1.length) s.2.1 s.2.2=true
section
variable {es aL:List Nat} {N:Nat} (hb:∀ u w,(aL.getD u 0).testBit w=true<->N10 es u w) (hsm:∀ e ∈ es,e<2^N) (hor:∀ v,(Z7 es).testBit v=true<->Q21 es v)
include hb hsm hor
theorem N120{L v:Nat}{s:List Nat × Nat × Nat}(h:LstI es aL N L v s)(hv:v<N):LstI es aL N L (v+1) (W99 es aL N L v s):=by
 have pv:2^v<2^N:=Nat.pow_lt_pow_right O0 hv;unfold W99
 by_cases hr:s.2.2.testBit v=true
 .rw[if_pos hr]
  obtain⟨r1,r2,r3⟩:=h.rst v hr
  by_cases hc:s.1.length<L/\W51 es aL N (L-s.1.length-1) (s.2.1 ||| 2^v) (Z2 s.2.2 (2^v) &&& aL.getD v 0)=true
  .rw[if_pos hc]
   have W:v ∉ s.1:=fun hm=>by have:=h.lt v hm;omega
   refine⟨fun x => ?_,?_,fun x hx => ?_,fun x hx => ?_,fun a ha b E J => ?_,by simp;omega,fun x hx => ?_,W37 (Z6 h.rlt),?_⟩
   .rw[aV,cO,h.cl,aR,decide_eq_true_eq,dN,dJ]
    grind
   .rw[gT]
    exact⟨h.nd,O2,fun a ha b E e=>by simp_all⟩
   .rcases dN.1 hx with hx | hx
    .have:=h.lt x hx;omega
    .simp at hx;omega
   .rcases dN.1 hx with hx | hx
    .exact h.cov x hx
    simp_all
   .rcases dN.1 ha with h1 | h1
    .rcases dN.1 E with h2 | h2
     .exact h.adj a h1 b h2 J
     simp_all
    .rw[dJ.1 h1] at J ⊢
     rcases dN.1 E with h2 | h2
     .exact(r3 b h2).symm
     simp_all
   .have hx:(Z2 s.2.2 (2^v) &&& aL.getD v 0).testBit x=true:=hx
    rw[bI,aG,hb,N1,aG,aR,cJ,decide_eq_false_iff_not] at hx;obtain⟨g1,g2,g3⟩:=h.rst x hx.1.1
    grind
   grind
  .rw[if_neg hc]
   have hx:∀ x,(Z2 s.2.2 (2^v)).testBit x=true<->s.2.2.testBit x=true/\x≠v:=fun x=>by
    grind[N1]
   refine⟨h.cl,h.nd,fun x hx=>by have:=h.lt x hx;omega,h.cov,h.adj,h.len,fun x U => ?_,Z6 h.rlt,?_⟩
   .obtain⟨g1,g2⟩:=(hx x).1 U
    obtain⟨g3,g4⟩:=h.rst x g1;exact⟨O0,g4⟩
   .obtain⟨T,t1,t2,t3,t4⟩:=E38 hb _ _ _ h.pos
    have Q:∀ a ∈ T,∀ b ∈ T,a≠b->N10 es a b:=fun a ha b E J=>by
     rcases t3 a ha b E J with g | g
     .exact g
     .exact g.symm
    have O:v ∉ T:=fun O=>hc <| by
     have V:(T.filter fun t=>decide (t≠v)).length<T.length:=fG.2 ⟨v,O,O2⟩;refine⟨O0,X30 hb _ _ _ (T.filter fun t=>decide (t≠v)) (W37 (Z6 h.rlt)) O0 (fun t ht => ?_) (fun a ha b E=>Q a (dA.1 ha).1 b (dA.1 E).1) (E60 hb O t4)⟩
     grind
    exact X30 hb _ _ _ T (Z6 h.rlt) t1 (fun t ht=>(hx t).2 ⟨t2 t ht,fun e=>O (by rw[<- e];exact ht)⟩) Q t4
 .rw[if_neg hr]
  refine⟨h.cl,h.nd,fun x hx=>by have:=h.lt x hx;omega,h.cov,h.adj,h.len,fun x hx => ?_,h.rlt,h.pos⟩;obtain⟨g1,g2⟩:=h.rst x hx
  grind
theorem M118{L:Nat}(hp:W51 es aL N L 0 (Z7 es)=true)(E:Z7 es<2^N):∀ v,v<=N->LstI es aL N L v (W76 es aL N L (Z7 es) v)
 | 0,_=>⟨fun x=>by simp[W76],List.nodup_nil,by simp[W76],by simp[W76],by simp[W76],by simp[W76],fun x hx=>⟨Nat.zero_le _,(hor x).1 hx,by simp[W76]⟩,E,hp⟩
 | v+1,hv=>N120 hb hsm hor (M118 hp E v O0) hv
theorem U123{most:Nat}(h:D83 es aL N most≠[]):BadQ es N (D83 es aL N most):=by
 have V:Z7 es<2^N:=Nat.lt_pow_two_of_testBit _ fun w hw=>bN.2 fun h=>by
  obtain⟨e,h1,h2⟩:=(hor w).1 h;have:=R7 (hsm e h1) h2;omega
 unfold D83 at h ⊢
 by_cases hc:Z7 es=0\/most<B86 (fun L=>W51 es aL N L 0 (Z7 es)) (most-2) 3
 .simp_all
 rw[if_neg hc];have E:Z7 es≠0:=fun e=>hc (.inl e)
 have hm:B86 (fun L=>W51 es aL N L 0 (Z7 es)) (most-2) 3<=most:=Nat.le_of_not_lt fun e=>hc (.inr e)
 have J:∀(k L:Nat),L<=B86 (fun L=>W51 es aL N L 0 (Z7 es)) k L:=fun k=>by
  induction k with
  | zero=>intro L;exact aD _
  | succ k ih=>grind[B86]
 have J:=J (most-2) 3;have hp:=J117 (P:=fun L=>W51 es aL N L 0 (Z7 es)) (most-2) 3 O0;generalize B86 (fun L=>W51 es aL N L 0 (Z7 es)) (most-2) 3=L at *
 have hI:=M118 hb hsm hor hp V N (aD _);generalize W76 es aL N L (Z7 es) N=s at *
 obtain⟨T,t1,t2,t3,t4⟩:=E38 hb _ _ _ hI.pos;have hT:T=[]:=by
  cases hT:T with
  | nil=>rfl
  | cons x r=>
   have h1:=t2 x (by rw[hT];simp);have h2:=(hI.rst x h1).1;have:=R7 hI.rlt h1;omega
 subst hT;have O:∀ e ∈ es,∃ q ∈ s.1,e.testBit q=false:=fun e he=>aI fun hn=>t4 ⟨e,he,N28.2 fun q hq=>by
  cases Q:e.testBit q with
  | true=>rfl
  | false=>exact absurd ⟨q,(hI.cl q).1 hq,Q⟩ hn,O2⟩
 refine⟨hI.nd,hI.lt,?_,hI.adj,O⟩;obtain⟨x0,U⟩:∃ x0,Q21 es x0:=aI fun hn=>E (bZ fun i=>by
  simp_all)
 obtain⟨e0,W,_⟩:=U;refine aI fun h3 => ?_
 match hs:s.1,h3 with
 | [],_=>simp_all
 | [a],_=>
  obtain⟨e,h1,h2⟩:=hI.cov a (by rw[hs];simp)
  simp_all
 | [a,b],_=>
  have E:a≠b:=fun e=>by have:=hI.nd;simp_all
  obtain⟨_,e,h1,h2,Z⟩:=hI.adj a (by rw[hs];simp) b (by rw[hs];simp) E
  grind
 | _ :: _ :: _ :: _,h3=>simp at h3
end
structure BadC (A:Nat->Nat->Prop) (N:Nat) (l:List Nat):Prop where
 nd:l.Nodup
 lt:∀ x ∈ l,x<N
 len:4<=l.length
 adj:∀(i j x y:Nat),i<j->l[i]? = some x->l[j]? = some y->(A x y<->j=i+1\/(i=0/\j+1=l.length))
structure ExI (A:Nat->Nat->Prop) (N start k last:Nat) (p:List Nat) (blk:Nat):Prop where
 two:2<=p.length
 st:p[0]? = some start
 la:p[p.length-1]? = some last
 nd:p.Nodup
 lt:∀ x ∈ p,x<N
 adj:∀(i j x y:Nat),i<j->p[i]? = some x->p[j]? = some y->(A x y<->j=i+1\/(i=0/\k=0/\j+1=p.length))
 big:∀(i x:Nat),0<i->p[i]? = some x->start<x
 blk:∀(i x:Nat),0<i->i+1<p.length->p[i]? = some x->blk.testBit x=true/\∀ y,A x y->blk.testBit y=true
section
variable {A:Nat->Nat->Prop} {aL:List Nat} {N:Nat} (hN:N<=6) (hb:∀ u w,(aL.getD u 0).testBit w=true<->A u w) (hAN:∀ u w,A u w->u<N/\w<N) (hA:∀ a b,A a b->A b a) (hI:∀ a,¬ A a a)
include hN hb hAN hA hI
theorem G121{start:Nat}(hs:start<N):∀(k last:Nat) (p:List Nat) (blk:Nat),0<k+(if p.length=2 then 0 else 1)->ExI A N start k last p blk->exF aL N start k last p blk≠[]->4<=p.length+k->BadC A N (exF aL N start k last p blk)/\(exF aL N start k last p blk).length=p.length+k
 | 0,last,p,blk,_,h,_,h4=>⟨⟨h.nd,h.lt,by rw[exF];omega,fun i j x y E hx hy=>by
   rw[exF] at hx hy ⊢;rw[h.adj i j x y E hx hy];omega⟩,by rw[exF,eM]⟩
 | k+1,last,p,blk,_,h,hne,h4=>by
  rw[exF] at hne ⊢
  cases hf:(aY N).find? (Z91 aL N (k+1) blk start last) with
  | none=>simp_all
  | some v=>
   rw[hf] at hne;dsimp only at hne ⊢;have O:v<N:=by simp_all
   have hv:=List.find?_some hf;obtain⟨⟨a1,a2,a3⟩,a4⟩:=(U45 hN hb hAN hs).1 hv;have Q:last<N:=h.lt last (aH h.la);have W:=h.two;have hd:=D36 hb hAN (u:=v) (to:=start) (within:=(Z2 (Q90 start) (W87 aL blk last) ||| 2^v) ||| 2^start) O O0;have a6:A v start<->k=0:=by
    have hW:((Z2 (Q90 start) (W87 aL blk last) ||| 2^v) ||| 2^start).testBit start=true:=(U50 hN hb hAN hs).2 (.inr (.inr rfl));have U:Wf A (fun x=>((Z2 (Q90 start) (W87 aL blk last) ||| 2^v) ||| 2^start).testBit x=true) 1 v start<->A v start:=by
     grind[Wf.snoc,Wf.zero]
    grind
   have a5:∀(i x:Nat),p[i]? = some x->0<i->i+1<p.length->x≠v/\¬ A x v:=fun i x hx h0 h1=>by
    obtain⟨b1,b2⟩:=h.blk i x h0 h1 hx
    grind
   have Z:∀(i x:Nat),p[i]? = some x->x≠v/\(A x v<->i+1=p.length\/(i=0/\k=0)):=fun i x hx=>by
    have J:=(aJ.1 hx).1
    by_cases h0:i=0
    .subst h0
     have:=h.st
     grind
    by_cases h1:i+1=p.length
    .have:=h.la
     rw[show p.length-1=i by omega,hx] at this;grind
    grind
   have a0:v ∉ p:=fun hm=>by
    grind[cH]
   have get:∀(i x:Nat),(p++[v])[i]? = some x->(i<p.length/\p[i]? = some x)\/(i=p.length/\x=v):=fun i x hx=>by
    have J:=(aJ.1 hx).1;rw[bH,gU] at J
    grind
   have hE:ExI A N start k v (p++[v]) (W87 aL blk last):=by
    refine⟨by simp;omega,by rw[bQ O0];exact h.st,O2,?_,fun x hx => ?_,fun i j x y E hx hy => ?_,fun i x h0 hx => ?_,fun i x h0 h1 hx => ?_⟩
    .rw[gT]
     exact⟨h.nd,O2,fun a ha b V e=>by simp_all⟩
    .rcases dN.1 hx with hx | hx
     .exact h.lt x hx
     simp_all
    .rw[bH,gU]
     rcases get j y hy with ⟨hj,hy⟩ | ⟨rfl,rfl⟩
     .rcases get i x hx with ⟨hi,hx⟩ | ⟨rfl,_⟩
      .rw[h.adj i j x y E hx hy]
       omega
      .omega
     grind
    .rcases get i x hx with ⟨hi,hx⟩ | ⟨rfl,rfl⟩
     .exact h.big i x h0 hx
     .exact a2
    .rw[bH,gU] at h1
     rcases get i x hx with ⟨hi,hx⟩ | ⟨rfl,rfl⟩
     .have e:∀ y,(W87 aL blk last).testBit y=true<->blk.testBit y=true\/A last y\/y=last:=fun y=>J38 hN hb hAN
      by_cases hl:i+1=p.length
      .have:=h.la
       rw[show p.length-1=i by omega,hx] at this;simp_all
      .obtain⟨b1,b2⟩:=h.blk i x h0 O0 hx
       simp_all
     .omega
   obtain⟨r1,r2⟩:=G121 hs k v (p++[v]) (W87 aL blk last) (by grind) hE hne (by grind)
   grind
theorem V120{L s:Nat}(hL:4<=L)(hs:s<N):∀ j,j<=N->scW aL N L s j≠[]->BadC A N (scW aL N L s j)
 | 0,_,h=>absurd rfl h
 | j+1,hj,h=>by
  rw[scW] at h ⊢
  split
  .rename_i hc
   rw[if_pos hc] at h;obtain⟨_,h1,h2⟩:=hc;have O:A s j:=(hb _ _).1 h2;refine(G121 hN hb hAN hA hI hs (L-2) j [s,j] 0 O5 ⟨O2,rfl,rfl,by simp;omega,fun x hx => ?_,fun i q x y J hx hy => ?_,fun i x h0 hx => ?_,fun i x h0 E hx => ?_⟩ h O5).1
   .grind
   .grind
   .grind
   .simp at E;omega
  .rename_i hc
   rw[if_neg hc] at h;exact V120 hL hs j O0 h
theorem Y120{L:Nat}(hL:4<=L):∀ s,s<=N->scV aL N L s≠[]->BadC A N (scV aL N L s)
 | 0,_,h=>absurd rfl h
 | s+1,hs,h=>by
  rw[scV] at h ⊢
  split
  .grind[V120]
  .rename_i hc
   rw[if_neg hc] at h;exact Y120 hL s O0 h
theorem W123(h:scF aL N≠[]):BadC A N (scF aL N):=by
 unfold scF at h ⊢
 split
 .simp_all
 .rename_i hc
  rw[if_neg hc] at h;exact Y120 hN hb hAN hA hI (K68 hN hb hAN hA hI O0).1 N (aD _) h
end
theorem N118{aL:List Nat}{inn far a0 b0:Nat}(V:∀ u,inn.testBit u=true->u<32):∀(k E b st:Nat) (r:Nat × Nat),2<=st->(∀ u,b.testBit u=true->inn.testBit u=true)->(∀ u,E.testBit u=true->∀ z,far.testBit z=true->(aL.getD u 0).testBit z=false) ->
  (∀ u,E.testBit u=true->∀ z,inn.testBit z=true->(aL.getD u 0).testBit z=true->E.testBit z=true\/b.testBit z=true) ->
  (∀ j,j+2<st->∀ u,(lev aL inn b0 j).testBit u=true->E.testBit u=true)->(∀ j,j+2=st->∀ u,(lev aL inn b0 j).testBit u=true->E.testBit u=true\/b.testBit u=true) ->
  shG aL inn far a0 k E b st=some r->∀ j,j+2<r.1->∀ u,(lev aL inn b0 j).testBit u=true->∀ z,far.testBit z=true->(aL.getD u 0).testBit z=false
 | 0,E,b,st,r,_,_,_,_,_,_,h=>by cases h
 | k+1,E,b,st,r,hst,hbi,h1,h2,h3,h4,h=>by
  unfold shG at h
  split at h
  .cases h
  .split at h
   .cases h
    intro j hj u hu;exact h1 u (h3 j hj u hu)
   .rename_i U
    have U:Q4 aL b 32 &&& far=0:=Classical.not_not.1 U;have W:∀ u,b.testBit u=true->∀ z,far.testBit z=true->(aL.getD u 0).testBit z=false:=fun u hu z hz=>by
     rw[bN];intro g;have:(Q4 aL b 32 &&& far).testBit z=true:=by rw[bI,Y7.2 ⟨u,V u (hbi u hu),hu,g⟩,hz];rfl
     rw[U,jQ] at this;cases this
    have J:∀ u,(E ||| b).testBit u=true<->E.testBit u=true\/b.testBit u=true:=fun u=>by rw[aV,cO]
    have Z:∀ u,(Q4 aL b 32 &&& inn).testBit u=true->(E ||| b).testBit u=true\/(Z2 (Q4 aL b 32 &&& inn) (E ||| b)).testBit u=true:=fun u hu=>by
     cases hs:(E ||| b).testBit u with
     | true=>exact .inl rfl
     | false=>right;rw[N1,hu,hs];rfl
    have O:∀ u,b.testBit u=true->∀ z,inn.testBit z=true->(aL.getD u 0).testBit z=true->(E ||| b).testBit z=true\/(Z2 (Q4 aL b 32 &&& inn) (E ||| b)).testBit z=true:=fun u hu z hz Q=>
     Z z (by rw[bI,Y7.2 ⟨u,V u (hbi u hu),hu,Q⟩,hz];rfl)
    refine N118 V k _ _ (st+1) r O0 (fun u hu => ?_) (fun u hu z hz => ?_) (fun u hu z hz Q => ?_) (fun j hj u hu => ?_) (fun j hj u hu => ?_) h
    .rw[N1,bI,aG,aG] at hu
     exact hu.1.2
    .rcases (J u).1 hu with hu | hu
     .exact h1 u hu z hz
     .exact W u hu z hz
    .rcases (J u).1 hu with hu | hu
     .exact .inl ((J z).2 (h2 u hu z hz Q))
     .exact O u hu z hz Q
    .by_cases e:j+2=st
     .exact(J u).2 (h4 j e u hu)
     .exact(J u).2 (.inl (h3 j O0 u hu))
    .obtain⟨i,rfl⟩:∃ i,j=i+1:=⟨j-1,O0⟩
     rw[lev,bI,aG] at hu;obtain⟨v,v1,v2,v3⟩:=Y7.1 hu.1;rcases h4 i O0 v v2 with g | g
     .exact .inl ((J u).2 (h2 v g u hu.2 v3))
     .exact O v g u hu.2 v3
theorem N119{A:Nat->Nat->Prop}{inn:Nat->Prop}{far:Nat->Prop}{lv:Nat->Nat->Prop}{N f d:Nat}{g:Nat->Nat}(hd:2<=d)(hA:∀ a b,A a b->A b a)(hg:∀ m,m<d->A (g m) (g (m+1)))(O:∀ m,0<m->m<d->inn (g m))(E:far (g d))(hx:∀ z,far z->z≠g 0/\¬ A (g 0) z)(Z:∀ v,inn v->f<=v)(a4:∀ z,far z->z<f)(h0:g 0<f)(a9:∀ m,m<=d->g m<N)(a2:∀ v,inn v->A (g 0) v->lv 0 v)(a0:∀ k u v,lv k u->inn v->A u v->lv (k+1) v)(U:∀ j,j+2<d->∀ u,lv j u->∀ z,far z->¬ A u z):D48 A N f ((aY (d+1)).map g):=by
 have a3:∀(q i j:Nat),j+q+1=d->i<j->lv i (g j)->lv (i+q) (g (j+q)):=by
  intro q
  induction q with
  | zero=>intro i j _ _ h;exact h
  | succ q ih=>
   intro i j hj J h;have a6:=a0 i (g j) (g (j+1)) h (O _ O0 O0) (hg j O0);have:=ih (i+1) (j+1) O0 O0 a6;rw[show i+1+q=i+(q+1) by omega,show j+1+q=j+(q+1) by omega] at this;exact this
 have bad:∀ i j,i<j->j<d->i+1<j+0+1->¬ (lv i (g j)/\i+1<j):=fun i j J hj _ ⟨h,h2⟩=>by
  have h3:=a3 (d-1-j) i j O0 J h;rw[show j+(d-1-j)=d-1 by omega] at h3;refine U (i+(d-1-j)) O0 _ h3 (g d) E ?_;have:=hg (d-1) O0;rwa [show d-1+1=d by omega] at this
 have a1:∀ m,0<m->m<d->lv (m-1) (g m):=by
  intro m
  induction m with
  | zero=>intro h;omega
  | succ m ih=>
   intro _ hm;rcases cI m with rfl | h
   .exact a2 _ (O 1 O0 hm) (hg 0 O0)
   .have:=a0 (m-1) (g m) (g (m+1)) (ih h O0) (O _ O0 hm) (hg m O0)
    rwa [show m-1+1=m+1-1 by omega] at this
 have V:∀ i j,i<j->j<=d->g i≠g j/\(A (g i) (g j)->j=i+1):=fun i j J hj=>by
  by_cases a5:j=d
  .subst a5
   by_cases Q:i=0
   .subst Q
    have:=hx _ E;exact⟨fun e=>this.1 e.symm,fun a=>absurd a this.2⟩
   .have hi:=Z _ (O i O0 J)
    have hz:=a4 _ E;refine⟨fun e=>O0,fun a=>aI fun hn => ?_⟩;exact U (i-1) O0 _ (a1 i O0 J) _ E a
  .have W:=O j O0 O0
   by_cases Q:i=0
   .subst Q
    have:=Z _ W;refine⟨fun e=>O0,fun a=>aI fun hn => ?_⟩;exact bad 0 j O0 O0 O0 ⟨a2 _ W a,O0⟩
   .refine⟨fun e => ?_,fun a=>aI fun hn => ?_⟩
    .have h1:=a1 i O0 O0
     rw[e] at h1;exact bad (i-1) j O0 O0 O0 ⟨h1,O0⟩
    .have h1:=a0 (i-1) (g i) (g j) (a1 i O0 O0) W a
     rw[show i-1+1=i by omega] at h1;exact bad i j J O0 O0 ⟨h1,O0⟩
 have get:∀(i x:Nat),((aY (d+1)).map g)[i]? = some x->i<=d/\g i=x:=fun i x h=>by
  rw[cP,bU] at h;obtain⟨y,h1,h2⟩:=h;have hi:=(aJ.1 h1).1;rw[List.length_range] at hi;rw[List.getElem?_range hi] at h1
  cases h1
  exact⟨O0,h2⟩
 refine⟨by simp;omega,fun i j x y J a8 hy => ?_,fun i x h => ?_,fun i x h => ?_⟩
 .obtain⟨hi,rfl⟩:=get i x a8
  obtain⟨hj,rfl⟩:=get j y hy;obtain⟨c1,c2⟩:=V i j J hj;exact⟨c1,fun a=>(c2 a).symm,fun e=>by subst e;exact hg i O0⟩
 .obtain⟨hi,rfl⟩:=get i x h
  exact a9 i hi
 .obtain⟨hi,rfl⟩:=get i x h
  rw[gM,List.length_range]
  by_cases Q:i=0
  .subst Q;exact⟨fun _ => .inl rfl,fun _=>h0⟩
  by_cases a7:i=d
  .subst a7;exact⟨fun _ => .inr rfl,fun _=>a4 _ E⟩
  .have:=Z _ (O i O0 O0)
   exact⟨fun h=>O0,fun h=>O0⟩
end Go.Clo
namespace Go.Proofs.YtoiioigihocgbaaGreatDoor
open Go.Clo
theorem R115 {es : List Nat} {N f : Nat} (hN : N <= 6) (hf : f <= N) {w : List Nat} (h : K24 (B2 es N) N f = some w) : D48 (N10 es) N f w := by
  unfold K24 at h
  split at h
  · cases h
  rename_i x hx
  cases h
  have hxf : x < f := by simpa using List.mem_of_find?_eq_some hx
  have hne : (J4 (B2 es N) N (K10 N f) f f).2 x ≠ 0 := by simpa using List.find?_some hx
  obtain ⟨_, lim, hs⟩ := E47 f x hne
  generalize (J4 (B2 es N) N (K10 N f) f f).1 = d at *
  generalize (J4 (B2 es N) N (K10 N f) f f).2 x = last at *
  have hinn : ∀ u, (K10 N f).testBit u = true <-> f <= u /\ u < N := X38 hN hf
  have hnb : ∀ u v, ((B2 es N).getD u 0).testBit v = true <-> u < N /\ v < N /\ N10 es u v := B17 hN hf
  have hsym : ∀ u v, ((B2 es N).getD u 0).testBit v = true -> ((B2 es N).getD v 0).testBit u = true := fun u v h => by
    obtain ⟨a, b, c⟩ := (hnb u v).1 h
    exact (hnb v u).2 ⟨b, a, c.symm⟩
  have h32 : ∀ u v, ((B2 es N).getD u 0).testBit v = true -> v < 32 := fun u v h => by have := ((hnb u v).1 h).2.1; omega
  obtain ⟨l1, _, l3, l4, _⟩ := K15 (b0 := (B2 es N).getD x 0 &&& K10 N f) N 0 _ 2 (fun w hw => hw) (Nat.le_refl _) hs
  dsimp only at l1 l3 l4
  have hmin := N118 (b0 := (B2 es N).getD x 0 &&& K10 N f) (fun u hu => by have := (hinn u).1 hu; omega) N 0 _ 2 _ (Nat.le_refl _) (fun u hu => by rw [Nat.testBit_and, Bool.and_eq_true] at hu; exact hu.2) (fun u hu => by rw [Nat.zero_testBit] at hu; cases hu) (fun u hu => by rw [Nat.zero_testBit] at hu; cases hu)
    (fun j hj => by omega) (fun j hj u hu => by obtain rfl : j = 0 := by omega
                                                exact .inr hu) hs
  dsimp only at hmin
  have hst := G55 (st := 0) hsym h32 hs
  dsimp only at hst
  have hi2 := M73 hN hf
  have hfar : ∀ z, (N14 (B2 es N) f x).testBit z = true <-> z < f /\ z ≠ x /\ ¬ (x < N /\ N10 es x z) := fun z => V57 hN hf z
  have hla : last < 2 ^ N := Nat.lt_pow_two_of_testBit _ fun w hw => Bool.eq_false_iff.2 fun g => by
    have := ((hfar w).1 (l4 w g)).1
    omega
  have hp64 : 2 ^ N <= 64 := Nat.pow_le_pow_right (n := 2) (by omega) hN
  have hcur := J58 (aL := B2 es N) (inn := K10 N f) (last := last) (first := x) (len := d) hN N30 hsym hi2 hla (by omega) (by rw [Nat.and_comm]; exact hst)
  have hnext : ∀ m, m < d -> (U5 (B2 es N) (K10 N f) last (d - 1 - m)).testBit (Q7 (B2 es N) (K10 N f) last d x (m + 1)) = true /\ ((B2 es N).getD (Q7 (B2 es N) (K10 N f) last d x m) 0).testBit (Q7 (B2 es N) (K10 N f) last d x (m + 1)) = true := fun m hm => by
    obtain ⟨c1, c2⟩ := hcur m hm
    have hx2 : U5 (B2 es N) (K10 N f) last (d - 1 - m) &&& (B2 es N).getD (Q7 (B2 es N) (K10 N f) last d x m) 0 < 2 ^ N := Nat.lt_of_le_of_lt Nat.and_le_left (R42 hi2 hla _)
    have hb := V33 (x := U5 (B2 es N) (K10 N f) last (d - 1 - m) &&& (B2 es N).getD (Q7 (B2 es N) (K10 N f) last d x m) 0) (by omega) (by omega)
    rw [Nat.testBit_and, Bool.and_eq_true] at hb
    exact hb
  have hin : ∀ m, 0 < m -> m < d -> (K10 N f).testBit (Q7 (B2 es N) (K10 N f) last d x m) = true := fun m h0 hm => by
    obtain ⟨q, rfl⟩ : ∃ q, m = q + 1 := ⟨m - 1, by omega⟩
    have := (hnext q (by omega)).1
    rw [show d - 1 - q = (d - 1 - (q + 1)) + 1 by omega, U5, Nat.testBit_and, Bool.and_eq_true] at this
    exact this.2
  have hld : last.testBit (Q7 (B2 es N) (K10 N f) last d x d) = true := by
    have := (hnext (d - 1) (by omega)).1
    rw [show d - 1 - (d - 1) = 0 by omega, show d - 1 + 1 = d by omega] at this
    exact this
  refine N119 (inn := fun v => (K10 N f).testBit v = true) (far := fun z => (N14 (B2 es N) f x).testBit z = true) (lv := fun k u => (lev (B2 es N) (K10 N f) ((B2 es N).getD x 0 &&& K10 N f) k).testBit u = true) (N := N) (f := f) (d := d)
    (g := Q7 (B2 es N) (K10 N f) last d x) l1 (fun a b h => h.symm) (fun m hm => ((hnb _ _).1 (hnext m hm).2).2.2) hin (l4 _ hld) (fun z hz => ?_) (fun v hv => ((hinn v).1 hv).1) (fun z hz => ((hfar z).1 hz).1) hxf (fun m hm => ?_) (fun v hv ha => ?_) (fun k u v hu hv ha => ?_) (fun j hj u hu z hz ha => ?_)
  · have := (hfar z).1 hz
    exact ⟨this.2.1, fun a => this.2.2 ⟨by omega, a⟩⟩
  · by_cases e : m < d
    · exact (hcur m e).1
    · obtain rfl : m = d := by omega
      have := ((hfar _).1 (l4 _ hld)).1
      omega
  · have := ((hinn v).1 hv).2
    show ((B2 es N).getD x 0 &&& K10 N f).testBit v = true
    rw [Nat.testBit_and, (hnb x v).2 ⟨by omega, this, ha⟩, hv]; rfl
  · show (Q4 (B2 es N) _ 32 &&& K10 N f).testBit v = true
    have hu2 := R50 (aL := B2 es N) (inn := K10 N f) (b := (B2 es N).getD x 0 &&& K10 N f) (fun w hw => by rw [Nat.testBit_and, Bool.and_eq_true] at hw; exact hw.2) k u hu
    have hu3 := ((hinn u).1 hu2).2
    have hv3 := ((hinn v).1 hv).2
    rw [Nat.testBit_and, Y7.2 ⟨u, by omega, hu, (hnb u v).2 ⟨hu3, hv3, ha⟩⟩, hv]; rfl
  · have hu2 := R50 (aL := B2 es N) (inn := K10 N f) (b := (B2 es N).getD x 0 &&& K10 N f) (fun w hw => by rw [Nat.testBit_and, Bool.and_eq_true] at hw; exact hw.2) j u hu
    have hu3 := ((hinn u).1 hu2).2
    have hz3 := ((hfar z).1 hz).1
    have := hmin j hj u hu z hz
    rw [(hnb u z).2 ⟨hu3, by omega, ha⟩] at this
    cases this
section
variable (a0 a1 a2 a3 a4 a5 a6 a7 a8:Value) (H:Y0) (nx:Nat) (k:EP)
def F89:Prop:=
 D24 0 1 [.int .i64 0] [] H nx fun b c d=>
 B5 b a3 1 8 c d fun b c d=>
 D10 .sub a2 i1 fun e=>
 G3 (fun b c d e=>
 D10 .geq c.b i0 fun f=>
 K2 f (
 D24 1 1 [.int .i64 0] [(0,c.b)] d e fun d e f=>
 B5 c.a d 1 8 e f fun d e f=>
 D10 .sub c.b i1 fun c=>
 b [d,c] e f) (
 Y2 gQ 105 [a0,a1] d e fun b d e=>
 W8 .u64 a1 fun f=>
 D10 .shl u1 f fun f=>
 D10 .sub f u1 fun f=>
 G3 (fun d e f g=>
 R4 c.a 0 f fun h=>
 D10 .lss e.b h fun h=>
 K2 h (
 U6 c.a e.b f fun _ c=>
 W8 .u64 c fun h=>
 D10 .shl u1 h fun h=>
 D10 .andNot e.a h fun h=>
 U6 b c f fun _ i=>
 D10 .and i h fun i=>
 W8 .u64 c fun c=>
 D10 .shl u1 c fun c=>
 D10 .or i c fun c=>
 Y2 gQ 62 [a0,c] f g fun c f g=>
 wUn .not c fun c=>
 K2 c (
 Rt bF f g k) (
 G3 (fun c f g j=>
 D10 .lss f.a a1 fun l=>
 K2 l (
 V4 (fun c=>
 Y2 gQ 55 [i,f.a] g j fun d e g=>
 K2 d (
 U6 b f.a e fun _ d=>
 D10 .or d i fun d=>
 W8 .u64 f.a fun h=>
 D10 .shl u1 h fun h=>
 D10 .andNot d h fun d=>
 M3 b f.a none 1 fun b=>
 D5 b d 1 e fun b=>
 c [] b g) (
 c [] e g)) (fun _ b d=>
 D10 .add f.a i1 fun e=>
 c [e] b d)) (
 D10 .add e.b i1 fun b=>
 d [h,b] g j)) [i0] f g)) (
 Rt bT f g k)) [f,i0] d e)) [b,e] c d
def F56:Prop:=
 R4 a3 0 H fun b=>
 D10 .sub a1 a2 fun c=>
 D10 .eql b c fun b=>
 K2 b (
 Y2 gQ 89 [a0,a1,a2,a3] H nx fun b c d=>
 Rt b c d k) (
 G3 (fun b c d e=>
 D10 .lss c.a a1 fun f=>
 K2 f (
 G3 (fun d e f g=>
 R4 a3 0 f fun h=>
 D10 .lss e.b h fun h=>
 K2 h (
 V4 (fun b=>
 K3 false e.a (
 U6 a3 e.b f fun _ d=>
 D10 .eql d c.a fun c=>
 b [c] f g) (
 b [bT] f g)) (fun b c f=>
 D10 .add e.b i1 fun e=>
 d [b.a,e] c f)) (
 V4 (fun b=>
 wUn .not e.a fun d=>
 K3 true d (
 D24 0 1 [.int .i64 0] [] f g fun d e f=>
 B5 d a3 1 8 e f fun d e f=>
 D24 1 1 [.int .i64 0] [(0,c.a)] e f fun c e f=>
 B5 d c 1 8 e f fun c d e=>
 Y2 gQ 56 [a0,a1,a2,c] d e fun c d e=>
 b [c] d e) (
 b [bF] f g)) (fun d e f=>
 K2 d.a (
 Rt bT e f k) (
 D10 .add c.a i1 fun c=>
 b [c] e f)))) [bF,i0] d e) (
 Rt bF d e k)) [a2] H nx)
def F23:Prop:=
 Y2 gQ 56 [a0,a1,a2,(.slice none 0 0)] H nx fun b c d=>
 Rt b c d k
variable {a0 a1 a2 a3 a4 a5 a6 a7 a8 H nx k}
theorem spec89:F89 a0 a1 a2 a3 H nx k->Q2 gQ 89 [a0,a1,a2,a3] H nx k:=Q12 [(23,[])] [[9,10],[12,13],[16]] []
theorem spec56:F56 a0 a1 a2 a3 H nx k->Q2 gQ 56 [a0,a1,a2,a3] H nx k:=Q12 [(14,[10]),(15,[57])] [[9],[10,11]] [.one (.tst (.one .nil) (.one .nil)),.one (.tst (.one .nil) (.one .nil))]
theorem spec23:F23 a0 a1 a2 H nx k->Q2 gQ 23 [a0,a1,a2] H nx k:=Q12 [] [] []
end
section
variable {N:Nb} {n v w:Nat} {rest:List Nat}
def Q98(v m e:Nat):Nat:=if e.testBit v then m ||| e else m
def X47(es:List Nat)(v:Nat):Nat:=es.foldl (Q98 v) 0
theorem U116{es:List Nat}{i e:Nat}(h:es[i]? = some e):X47 (es.take (i+1)) v=Q98 v (X47 (es.take i) v) e:=by
 unfold X47;rw[C7 h,List.foldl_append];rfl
theorem G116(v w:Nat):∀(es:List Nat) (m:Nat),(es.foldl (Q98 v) m).testBit w=(m.testBit w || es.any fun e=>e.testBit v&&e.testBit w)
 | [],m=>O2
 | e :: es,m=>by
  rw[dF,G116 v w es,List.any_cons,<- Bool.or_assoc];congr 1;unfold Q98
  split
  .rename_i h;rw[aV,h,iA]
  .rename_i h;simp at h;simp[h]
theorem D117(v:Nat):∀(es:List Nat) (m:Nat),m<4294967296->U14 es->es.foldl (Q98 v) m<4294967296
 | [],m,hm,_=>hm
 | e :: es,m,hm,h=>by
  rw[dF];refine D117 v es _ ?_ fun x hx=>h x (eJ _ hx)
  unfold Q98
  split
  .exact M54 hm (h e List.mem_cons_self)
  .exact hm
theorem Z122{es:List Nat}(h:U14 es)(v:Nat):X47 es v<4294967296:=D117 v es 0 O0 h
theorem G122{es:List Nat}{n:Nat}(h:∀ e ∈ es,e<2^n)(v:Nat):Z2 (X47 es v) (2^v)=Q1 (adj es v) n:=by
 rw[<- E36 h v];apply bZ;intro w;rw[N1,E44];unfold X47;rw[G116,jQ,Bool.false_or,aR];unfold adj
 by_cases hv:v=w
 .subst hv;simp
 .simp[hv]
def V58(N:Nb)(n:Nat):List Nat:=(aY n).map fun v=>Q1 (N v) n
theorem B110(N:Nb)(n:Nat):(V58 N n).length=n:=by simp[V58]
theorem Z73(N:Nb)(hv:v<n):(V58 N n)[v]? = some (Q1 (N v) n):=by simp[V58,hv]
theorem Y123{n:Nat}(hn:n<=32)(A:Option Addr)(es:List Nat)(cap:Nat)(H:Y0)(nx:Nat)(hS:Sl H nx A (K12 es))(ab:∀ e ∈ es,e<2^n)(al:es.length<=64):
  Q2 gQ 105 [.slice A es.length cap,O8 (n:Int)] H nx fun r H' nx'=>∃ q,nx<=q/\q<nx'/\r = .slice (some ⟨q,0,none⟩) n n/\J0 H' q=O7 (K12 (V58 (adj es) n))/\D0 H nx H' nx':=by
 have Q:U14 es:=fun e he=>aO (ab e he) (bK (aK O0 hn) (by decide))
 refine spec105 ?_;unfold F105;simp only[W1];rw[M27 O0,C23];have ai:D0 H nx (hs H nx (O7 (K12 (aF n 0)))) (nx+1):=(D0.refl H nx).nw _;simp(disch:=try exact O3)only[W0,Q0.val];refine B1 (m:=n) (fun m L H' nx'=>∃(i:Nat) (l:List Nat),m+i=n/\L=[O8 (i:Int)]/\l.length=n/\(∀ v,v<n->l[v]? = some (if v<i then Q1 (adj es v) n else 0))/\J0 H' nx=O7 (K12 l)/\D0 H nx H' nx'/\nx<nx') ?_ ⟨0,aF n 0,rfl,rfl,O2,fun v hv=>by rw[List.getElem?_replicate,if_pos hv];simp,Z11 _ _ _,ai,O0⟩;rintro m ih L H2 nx2 ⟨i,l,hm,rfl,hl,a2,hg,ac,a3⟩ ah;simp(disch:=try exact O3)only[W0]
 by_cases hi:i<n
 case neg=>
  have a6:¬ (i:Int)<(n:Int):=O0;have ag:l=V58 (adj es) n:=by
   apply dH;intro v
   by_cases hv:v<n
   .rw[a2 v hv,Z73 _ hv,if_pos O0]
   .rw[aT O0,aT (by rw[B110];omega)]
  subst ag;simp(disch:=try exact O3)only[W0,a6];exact⟨nx,aD _,a3,rfl,hg,ac⟩
 have a6:(i:Int)<(n:Int):=O0;simp(disch:=try exact O3)only[W0,a6];refine B1 (m:=es.length) (fun m L H' nx'=>∃(j:Nat) (l:List Nat),m+j=es.length/\L=[O8 (j:Int)]/\l.length=n/\(∀ v,v<n->l[v]? = some (if v<i then Q1 (adj es v) n else if v=i then X47 (es.take j) i else 0))/\J0 H' nx=O7 (K12 l)/\D0 H nx H' nx'/\nx<nx') ?_
  ⟨0,l,rfl,rfl,hl,fun v hv=>by rw[a2 v hv];simp[X47],hg,ac,a3⟩
 rintro m3 ap L3 H3 aj ⟨j,l3,ao,rfl,V,J,a8,U,a5⟩ a1;have W:l3[i]? = some (X47 (es.take j) i):=by rw[J i hi,if_neg O0,if_pos rfl]
 have O:(K12 l3).length=n:=by rw[E1];exact V
 have ae:=Z122 (X33 Q j) i;have gc:=Q3 W;have aa:i<l3.length:=O0;have a4:∀ x (y:Nat->Nat),(∀ v,v<n->v≠i->(if v<i then Q1 (adj es v) n else if v=i then X47 (es.take j) i else 0)=y v)->x=y i->∀ v,v<n->(l3.set i x)[v]? = some (y v):=by
  intro x y h1 h2 v hv;rw[cQ]
  by_cases E:i=v
  .subst E;rw[if_pos rfl,if_pos O0,h2]
  .rw[if_neg E,J v hv,h1 v hv (fun h=>E h.symm)]
 simp(disch:=try exact O3)only[W0]
 by_cases hj:j<es.length
 case neg=>
  have a7:¬ (j:Int)<(es.length:Int):=O0;have hp:2^i<4294967296:=Y18 O0;rw[D23 hj] at gc W ae;simp(disch:=try exact O3)only[W0,a7,a8,gc,Z10,V10 aa,O];refine⟨O0,ah (m-1) _ _ _ O0 ⟨i+1,l3.set i (Z2 (X47 es i) (2^i)),O0,O2,by rw[dO];exact V,?_,by rw[Z11],U.h0,a5⟩⟩;refine a4 _ (fun v=>if v<i+1 then Q1 (adj es v) n else 0) (fun v hv E => ?_) ?_
  .by_cases h1:v<i
   .rw[if_pos h1,if_pos O0]
   .rw[if_neg h1,if_neg E,if_neg O0]
  .rw[if_pos O0,G122 ab]
 have a7:(j:Int)<(es.length:Int):=O0;obtain⟨e,he⟩:∃ e,es[j]? = some e:=⟨_,aE hj⟩
 obtain⟨b,o,row,rfl,hb,a0,a9⟩:=(hS.ext U).open (i:=j) (by rw[E1];omega);have ad:=Q.get he;have g0:=a9 _ _ (Q3 he);have an:b≠nx:=by
  obtain⟨b',o',row',e1,ak,_⟩:=hS.open (i:=j) (by rw[E1];omega)
  cases e1
  omega
 simp(disch:=try exact O3)only[W0,a7,X3 a0,g0,N13];refine R0 (W53 ad O0 _ _) ?_;rintro _ _ _ ⟨rfl,rfl,rfl⟩
 cases Z:e.testBit i with
 | false=>
  simp(disch:=try exact O3)only[W0];refine a1 (m3-1) _ _ _ O0 ⟨j+1,l3,O0,O2,V,fun v hv => ?_,a8,U,a5⟩;rw[J v hv]
  by_cases h1:v=i
  .subst h1;rw[if_neg O0,if_pos rfl,if_neg O0,if_pos rfl,U116 he,Q98,if_neg (by simp[Z])]
  .rw[if_neg h1,if_neg h1]
 | true=>
  simp(disch:=try exact O3)only[W0,a8,gc,X3 a0,g0,V10 aa,O];refine⟨O0,a1 (m3-1) _ _ _ O0 ⟨j+1,l3.set i (X47 (es.take j) i ||| e),O0,O2,by rw[dO];exact V,?_,by rw[Z11],(U.h0).more O0,O0⟩⟩;refine a4 _ (fun v=>if v<i then Q1 (adj es v) n else if v=i then X47 (es.take (j+1)) i else 0) (fun v hv E => ?_) ?_
  .rw[if_neg E,if_neg E]
  .rw[if_neg O0,if_pos rfl,U116 he,Q98,if_pos Z]
theorem J118{a:Nat}(h:1<=a)(ha:a<4294967296)(k:VP):D10 .sub (O9 (a:Int)) (O9 1) k=k (O9 ((a-1:Nat):Int)):=by
 rw[R11];have e:(a:Int)-1=((a-1:Nat):Int):=O0;rw[e,D15 O0]
def V35(es:List Nat)(n:Nat):Nb->List Nat->Bool
 | _,[]=>true
 | N,v :: rest=>R10 es (Q1 (K9 N v rest) n ||| 2^v)&&V35 es n (U9 N v rest) rest
theorem B115(n:Nat):∀(E:List Nat) (out:List Bag) (N:Nb) (w:Nat),w ∉ E->(Y72 n out N E)[w]? = out[w]?
 | [],out,N,w,_=>rfl
 | v :: rest,out,N,w,h=>by
  simp only[aU,not_or] at h;unfold Y72;rw[B115 n rest _ _ w h.2,cQ,if_neg (fun e=>h.1 e.symm)]
theorem J119(hv:v<32):Y34 (J82 n N v rest)=Q1 (K9 N v rest) n ||| 2^v:=by
 unfold Y34 J82;dsimp only;rw[if_neg O0];rfl
theorem Y118(es:List Nat)(n:Nat):∀(E:List Nat) (out:List Bag) (N:Nb),E.Nodup->(∀ w ∈ E,w<out.length/\w<32) ->
  ((∀ w ∈ E,∀ b,(Y72 n out N E)[w]? = some b->R10 es (Y34 b)=true)<->V35 es n N E=true)
 | [],out,N,_,_=>by simp[V35]
 | v :: rest,out,N,hnd,hlt=>by
  rw[hO] at hnd;have hv:=hlt v List.mem_cons_self;have ih:=Y118 es n rest (out.set v (J82 n N v rest)) (U9 N v rest) hnd.2 fun w hw=>by rw[dO];exact hlt w (eJ _ hw)
  have J:(Y72 n out N (v :: rest))[v]? = some (J82 n N v rest):=by
   unfold Y72;rw[B115 n rest _ _ v hnd.1,cQ,if_pos rfl,if_pos hv.1]
  unfold V35;rw[aG,<- ih,<- J119 hv.2]
  constructor
  .intro h
   exact⟨h v List.mem_cons_self _ J,fun w hw b hb=>h w (eJ _ hw) b hb⟩
  .rintro⟨h1,h2⟩ w hw b hb
   rcases aU.1 hw with rfl | hw
   .rw[J] at hb;cases hb;exact h1
   .exact h2 w hw b hb
theorem Z121(p q:Nat->Bool)(n:Nat):Q1 p n &&& Q1 q n=Q1 (fun w=>p w&&q w) n:=by
 apply bZ;intro w;rw[bI,E26,E26,E26]
 cases decide (w<n)<;>simp
theorem Q119{v:Nat}(hv:v ∉ rest):Z2 (Q1 (fun w=>decide (w ∈ v :: rest)) n) (2^v)=Q1 (fun w=>decide (w ∈ rest)) n:=by
 apply bZ;intro w;rw[N1,E26,E26,aR]
 by_cases h:v=w
 .subst h;simp[hv]
 .have h':¬ w=v:=fun e=>h e.symm
  simp[h,h']
theorem W121{E:List Nat}(J:∀ w,w<n->w ∈ E):2^n-1=Q1 (fun w=>decide (w ∈ E)) n:=by
 apply bZ;intro w;rw[dC,E26]
 by_cases h:w<n
 .simp[h,J w h]
 .simp[h]
theorem R119(hN:Z44 N)(hk:K9 N v rest w=true):Z2 (Q1 (N w) n ||| Q1 (K9 N v rest) n) (2^w)=Q1 (U9 N v rest w) n:=by
 apply bZ;intro x;rw[N1,aV,E26,E26,E26,aR];unfold U9
 by_cases h:w=x
 .subst h;simp[hN.irr]
 .have h':decide (w≠x)=true:=by simp[h]
  rw[h',hk]
  cases decide (x<n)<;>simp[h]
theorem U119(hk:K9 N v rest w=false):U9 N v rest w=N w:=by
 funext x;simp[U9,hk]
theorem Q120{n f:Nat}(hn:n<32)(hf:f<=n)(A:Option Addr)(es:List Nat)(cap:Nat)(P:Option Addr)(l:List Int)(av:Nat)(E:List Nat)(H:Y0)(nx:Nat)(hS:Sl H nx A (K12 es))(an:∀ e ∈ es,e<2^n)(aj:es.length<=64)(hP:Sl H nx P (U4 l))(ax:Has H nx P)(hl:l.length<=40)(ho:l++R6 f f=E.map fun(w:Nat)=>(w:Int))(ai:E.Nodup)(ak:∀ w ∈ E,w<n)(a4:E.length=n):
  Q2 gQ 89 [.slice A es.length cap,O8 (n:Int),O8 (f:Int),.slice P l.length av] H nx fun r H' nx'=>r = .bool (V35 es n (adj es) E)/\D0 H nx H' nx':=by
 have aa:U14 es:=fun e he=>aO (an e he) (bK (aK O0 (show n<=32 by omega)) (by decide))
 refine spec89 ?_;unfold F89;simp(disch:=try exact O3)only[W0,Q0.val,U21];have hX:D0 H nx (hs H nx (O7 [])) (nx+1):=(D0.refl H nx).nw _;refine R20 (lo:=nx) (H0:=H) (Z11 _ _ _) (aD _) O0 (C27 (hP.ext hX) (ax.ext hX) (by rw[X9];omega) O0) (K13 l) O0 O0 hX ?_;intro v1 H1 cc _ bu bc;refine B1 (m:=f) (fun m L H' nx'=>∃(i:Nat) (u:Value),m+i=f/\L=[u,O8 ((f:Int)-1-i)]/\E23 nx H' nx' u (U4 (l++R6 f i))/\D0 H nx H' nx') ?_ ⟨0,v1,rfl,O2,by simpa [R6] using bu,bc⟩;rintro m ih L H2 nx2 ⟨i,u,hm,rfl,ac,Q⟩ b5;have bv:=Q.le;simp(disch:=try exact O3)only[W0]
 by_cases hi:i<f
 .have a6:(f:Int)-1-i ≥ 0:=O0
  have bk:∀(x:Int) k,K6 1 1 [O8 0] [(0,O8 x)] k=k [O8 x]:=fun x k=>rfl
  simp(disch:=try exact O3)only[W0,a6,bk];have a0:D0 H2 nx2 (hs H2 nx2 (O7 [O8 ((f:Int)-1-i)])) (nx2+1):=(D0.refl _ _).nw _;have bz:=Y17 f i;refine K38 (H0:=H) (lo:=nx) (y:=O8 ((f:Int)-1-i)) (ac.ext a0) (J9 (Z11 _ _ _) rfl O0) rfl O0 (by rw[X9,bH];omega) (Q.trans a0) O0 ?_;intro v' H' az ba _;refine b5 (m-1) _ _ _ O0 ⟨i+1,v',O0,by simp;omega,?_,ba⟩;have e:U4 (l++R6 f (i+1))=U4 (l++R6 f i)++[O8 ((f:Int)-1-i)]:=by simp[R6,U4]
  rw[e];exact az
 have a6:¬ (f:Int)-1-i ≥ 0:=O0;have:i=f:=O0;subst this;rw[ho] at ac;obtain⟨B,rfl,bd,_⟩:=ac.sl;have au:(U4 (E.map fun(w:Nat)=>(w:Int))).length=n:=by simp[U4,a4]
 rw[au];have hp:=Nat.pow_lt_pow_right (a:=2) O0 hn;have c8:1<=2^n:=Nat.pow_pos O0;simp(disch:=try exact O3)only[W0,a6];refine R0 (Y123 (n:=n) O0 A es cap H2 nx2 (hS.ext Q) an aj) ?_;rintro _ H3 bw ⟨q,c4,bo,rfl,b4,a0⟩;have ap:∀ w,w<n->w ∈ E:=fun w hw=>Q58 ai ak a4 hw
 simp(disch:=try exact O3)only[W0,Z10,J118,W121 ap];refine B1 (m:=n) (fun m L H' nx'=>∃(i:Nat) (N:Nb),m+i=n/\L=[O9 ((Q1 (fun w=>decide (w ∈ E.drop i)) n:Nat):Int),O8 (i:Int)]/\Z44 N/\V35 es n (adj es) E=V35 es n N (E.drop i) /\
   J0 H' q=O7 (K12 (V58 N n))/\D0 H2 nx2 H' nx'/\q<nx') ?_ ⟨0,adj es,rfl,O2,Y70 es,O2,b4,a0,bo⟩
 rintro m3 cf L3 H4 ce ⟨i,N,ca,rfl,hN,J,ao,U,ah⟩ aq;simp(disch:=try exact O3)only[W0]
 by_cases c9:i<n
 case neg=>
  have W:¬ (i:Int)<(n:Int):=O0;simp(disch:=try exact O3)only[W0,W];rw[J,List.drop_eq_nil_of_le O0];exact⟨rfl,Q.trans U⟩
 have W:(i:Int)<(n:Int):=O0;obtain⟨v,hv⟩:∃ v,E[i]? = some v:=⟨_,aE O0⟩
 have bh:v<n:=ak v (aH hv);have b3:(v:Int)<(n:Int):=O0;have V:=Z19 hv;have ag:=Q44 ai hv;obtain⟨b,o,row,rfl,hb,al,ae⟩:=(bd.ext U).open (i:=i) (by rw[au];omega);have g0:=ae i (O8 (v:Int)) (Z9 (by rw[cP,hv];rfl));rw[V] at J;rw[V];generalize E.drop (i+1)=rest at V ag J
 replace J:V35 es n (adj es) E=(R10 es (Q1 (K9 N v rest) n ||| 2^v)&&V35 es n (U9 N v rest) rest):=J
 have gv:=Q3 (Z73 N bh);have b8:2^v<4294967296:=Y18 O0;have k1:=R19 (n:=n) O0 (fun w=>decide (w ∈ v :: rest));have k2:=R19 (n:=n) O0 (fun w=>decide (w ∈ rest));have k3:=R19 (n:=n) O0 (N v);have k4:=R19 (n:=n) O0 (K9 N v rest);have aw:Q1 (N v) n &&& Q1 (fun w=>decide (w ∈ rest)) n=Q1 (K9 N v rest) n:=Z121 _ _ _;simp(disch:=try exact O3)only[W0,W,X3 al,g0,Z10,Q119 ag,ao,gv,aw];refine R0 (B45 (M54 k4 b8) A es cap _ _ (hS.ext (Q.trans U)) aa aj) ?_;rintro _ _ _ ⟨rfl,rfl,rfl⟩;have bt:decide (Q1 (K9 N v rest) n ||| 2^v=0)=false:=by
  rw[decide_eq_false_iff_not];intro h;have:=congrArg (fun x=>x.testBit v) h;simp at this
 rw[bt,Bool.or_false]
 cases a5:R10 es (Q1 (K9 N v rest) n ||| 2^v) with
 | false=>
  rw[a5,Bool.false_and] at J;simp(disch:=try exact O3)only[W0];rw[J];exact⟨rfl,Q.trans U⟩
 | true=>
  rw[a5,iA] at J;simp(disch:=try exact O3)only[W0];refine B1 (m:=n) (fun m L H' nx'=>∃(w:Nat) (l3:List Nat),m+w=n/\L=[O8 (w:Int)]/\l3.length=n/\(∀ x,x<n->l3[x]? = some (if x<w then Q1 (U9 N v rest x) n else Q1 (N x) n)) /\
    J0 H' q=O7 (K12 l3)/\D0 H2 nx2 H' nx'/\q<nx') ?_ ⟨0,V58 N n,rfl,rfl,B110 _ _,fun x hx=>by rw[Z73 _ hx];simp,ao,U,ah⟩
  rintro m5 bx L5 H5 cd ⟨w,l3,c6,rfl,a9,O,a7,ab,Z⟩ a3;have a8:(K12 l3).length=n:=by rw[E1];exact a9
  simp(disch:=try exact O3)only[W0]
  by_cases hw:w<n
  case neg=>
   have a2:¬ (w:Int)<(n:Int):=O0;have ay:l3=V58 (U9 N v rest) n:=by
    apply dH;intro x
    by_cases hx:x<n
    .rw[O x hx,Z73 _ hx,if_pos O0]
    .rw[aT O0,aT (by rw[B110];omega)]
   subst ay;simp(disch:=try exact O3)only[W0,a2];refine aq (m3-1) _ _ _ O0 ⟨i+1,U9 N v rest,O0,?_,Y66 hN v rest,?_,a7,ab,Z⟩
   .have e:=Z19 hv
    rw[V] at e;injection e with _ e;rw[<- e];simp
   .have e:=Z19 hv
    rw[V] at e;injection e with _ e;rw[J,<- e]
  have a2:(w:Int)<(n:Int):=O0;have ad:l3[w]? = some (Q1 (N w) n):=by rw[O w hw,if_neg O0]
  have gc:=Q3 ad;have bg:w<l3.length:=O0;have k5:=R19 (n:=n) O0 (N w);have c7:2^w<4294967296:=Y18 O0;simp(disch:=try exact O3)only[W0,a2,N13];refine R0 (W53 k4 O0 _ _) ?_;rintro _ _ _ ⟨rfl,rfl,rfl⟩;have bf:(Q1 (K9 N v rest) n).testBit w=K9 N v rest w:=by rw[E26];simp[hw]
  rw[bf]
  cases hk:K9 N v rest w with
  | false=>
   simp(disch:=try exact O3)only[W0];refine a3 (m5-1) _ _ _ O0 ⟨w+1,l3,O0,O2,a9,fun x hx => ?_,a7,ab,Z⟩;rw[O x hx]
   by_cases a1:x=w
   .subst a1;rw[if_neg O0,if_pos O0,U119 hk]
   .by_cases h1:x<w
    .rw[if_pos h1,if_pos O0]
    .rw[if_neg h1,if_neg O0]
  | true=>
   have c3:=M54 k5 k4;simp(disch:=try exact O3)only[W0,a7,gc,Z10,R119 hN hk,V10 bg,a8];refine⟨O0,a3 (m5-1) _ _ _ O0 ⟨w+1,l3.set w (Q1 (U9 N v rest w) n),O0,O2,by rw[dO];exact a9,fun x hx => ?_,by rw[Z11],ab.h0,Z⟩⟩;rw[cQ]
   by_cases a1:w=x
   .subst a1;rw[if_pos rfl,if_pos O0,if_pos O0]
   .rw[if_neg a1,O x hx]
    by_cases h1:x<w
    .rw[if_pos h1,if_pos O0]
    .rw[if_neg h1,if_neg O0]
end
section
variable {i n:Nat}
def lOK(l:List Int)(n:Nat):Prop:=(∀ x ∈ l,0<=x/\x<(n:Int))/\l.Nodup
def B36(l:List Int)(n:Nat):Nat:=Q1 (fun w=>decide ((w:Int) ∈ l)) n
theorem X119(l:List Int)(hn:n<=32):B36 l n<4294967296:=aO (G11 _ n) (bK (aK O0 hn) (by decide))
theorem K120{l:List Int}{w:Nat}(h:l[i]? = some (w:Int))(hw:w<n):B36 (l.take i) n ||| 2^w=B36 (l.take (i+1)) n:=by
 apply bZ;intro b;unfold B36;rw[aV,E26,E26,aR,C7 h]
 by_cases hb:w=b
 .subst hb;simp[hw]
 .have h1:¬ (b:Int)=(w:Int):=O0
  simp[hb,h1]
theorem Q116{n g:Nat}(hn:n<=32){A:Option Addr}{cap:Nat}{l:List Int}(hl:l.length<=1000){ev:Value}{H:Y0}{nx:Nat}(hS:Sl H nx A (U4 l))(hg:J0 H g=some (.cells [.int .i64 (n:Int),ev] 0)){k:EP}{rest:List Value->Y0->Nat->Prop}(U:¬ lOK l n->k (.bool false) H nx)(ap:lOK l n->rest [.int .u32 ((B36 l n:Nat):Int),.int .i64 (l.length:Int)] H nx):
  G3 (fun ad J H3 V=>
   D10 .lss (J.getD 1 undef) (.int .i64 (l.length:Int)) fun a7=>
   K2 a7 (
    M3 (.slice A l.length cap) (J.getD 1 undef) none 1 fun a4=>
    J1 a4 none H3 fun E=>
    V4 (fun O=>
     D10 .lss E (.int .i64 0) fun W=>
     K3 false W (
      B4 (.pointer (some ⟨g,0,none⟩)) 0 fun a3=>
      J1 a3 none H3 fun Z=>
      D10 .geq E Z fun a5=>
      K3 false a5 (
       D10 .shr (J.getD 0 undef) E fun a1=>
       D10 .and a1 (.int .u32 1) fun a6=>
       D10 .eql a6 (.int .u32 1) fun a9=>
       O [a9] H3 V) (
       O [(.bool true)] H3 V)) (
       O [(.bool true)] H3 V)) (fun ae H4 aj=>
     K2 (ae.getD 0 undef) (
      M0 (.bool false) fun ag=>k ag H4 aj) (
      D10 .shl (.int .u32 1) E fun a2=>
      D10 .or (J.getD 0 undef) a2 fun a8=>
      D10 .add (J.getD 1 undef) (.int .i64 1) fun a0=>
      ad [a8,a0] H4 aj))) (rest J H3 V)) [.int .u32 0,.int .i64 0] H nx:=by
 refine B1 (m:=l.length) (fun m L H' nx'=>∃ i:Nat,m+i=l.length/\L=[.int .u32 ((B36 (l.take i) n:Nat):Int),.int .i64 (i:Int)]/\(∀ x ∈ l.take i,0<=x/\x<(n:Int))/\(l.take i).Nodup/\H=H'/\nx=nx') ?_
  ⟨0,rfl,by
   have:B36 (l.take 0) n=0:=by
    apply bZ;intro b;unfold B36;rw[E26];simp
   rw[this];rfl,O2,O2,rfl,rfl⟩
 rintro m ih L _ _ ⟨i,hm,rfl,ah,ac,rfl,rfl⟩ aq;simp(disch:=try exact O4)only[W0]
 by_cases hi:i<l.length
 case neg=>
  have aa:¬ (i:Int)<(l.length:Int):=O0;have e:l.take i=l:=gJ O0;rw[e] at ah ac;have e2:i=l.length:=O0;simp(disch:=try exact O4)only[W0,aa,e];rw[e2];exact ap ⟨ah,ac⟩
 have aa:(i:Int)<(l.length:Int):=O0;obtain⟨x,hx⟩:∃ x,l[i]? = some x:=⟨_,aE hi⟩
 obtain⟨B,o,row,rfl,av,al,ai⟩:=hS.open (i:=i) (by rw[X9];omega);have g0:=ai _ _ (Z9 hx);have ak:=aH hx;simp(disch:=try exact O4)only[W0,aa,N13,X3 al,g0,hg]
 by_cases h1:x<0
 .simp(disch:=try exact O4)only[W0,h1]
  exact U fun h=>by have:=h.1 x ak;omega
 by_cases h2:x ≥ (n:Int)
 .simp(disch:=try exact O4)only[W0,h1,h2]
  exact U fun h=>by have:=h.1 x ak;omega
 obtain⟨w,rfl⟩:∃ w:Nat,x=w:=⟨x.toNat,O0⟩
 have hw:w<n:=O0;have au:=X119 (l.take i) hn;have hb:(B36 (l.take i) n).testBit w=decide ((w:Int) ∈ l.take i):=by unfold B36;rw[E26];simp[hw]
 by_cases Q:(w:Int) ∈ l.take i
 .have ab:(B36 (l.take i) n).testBit w=true:=by rw[hb];simp[Q]
  simp(disch:=try exact O4)only[W0,h1,h2,ab];refine U fun h => ?_
  obtain⟨j,hj,an⟩:=gL Q;have ao:l[j]? = some (w:Int):=by
   rw[cK] at hj;rw[List.getElem_take] at an;rw[aE O0,an]
  have:=G63 h.2 ao hx;rw[cK] at hj;omega
 .have ab:(B36 (l.take i) n).testBit w=false:=by rw[hb];simp[Q]
  have hp:2^w<4294967296:=Y18 O0;simp(disch:=try exact O4)only[W0,h1,h2,ab,K120 hx hw];refine aq (m-1) _ _ _ O0 ⟨i+1,O0,O2,?_,?_,rfl,rfl⟩
  .rw[C7 hx]
   intro z hz;rcases dN.1 hz with hz | hz
   .exact ah z hz
   .rw[dJ.1 hz];omega
  .rw[C7 hx]
   exact V89 ac Q
theorem Q72(Q:Nat->Bool)(i:Nat):(aY (i+1)).all Q=((aY i).all Q&&Q i):=by
 rw[List.range_succ,List.all_append];simp
theorem J120{Q:Nat->Bool}(hi:i<n)(h:Q i=false):(aY n).all Q=false:=by
 rw[List.all_eq_false];exact⟨i,cW.2 hi,by simp[h]⟩
def K17(P:Nat->Nat->Bool)(i:Nat):Bool:=(aY i).all fun a=>(aY a).all fun b=>P a b
theorem E115(P:Nat->Nat->Bool)(i:Nat):K17 P (i+1)=(K17 P i&&(aY i).all (P i)):=Q72 _ _
def vAt(l:List Int)(i:Nat):Nat:=(l.getD i 0).toNat
theorem N87{l:List Int}{w:Nat}(h:l[i]? = some (w:Int)):vAt l i=w:=by
 unfold vAt;rw[aP,h];rfl
theorem lOK.get{l:List Int}(h:lOK l n)(hi:i<l.length):∃ w:Nat,l[i]? = some (w:Int)/\w<n:=by
 have:=h.1 l[i] (List.getElem_mem hi);exact⟨l[i].toNat,by rw[aE hi];congr 1;omega,O0⟩
def G12(es:List Nat)(l:List Int)(i j:Nat):Bool:=adj es (vAt l i) (vAt l j)
def N18(len i j:Nat):Bool:=decide (j+1=i) || (decide (j=0)&&decide (i+1=len))
open Classical in
def obR(es:List Nat)(n:Nat)(l:List Int):Bool:=
 if lOK l n then
  (if (decide (3<=l.length)&&K17 (G12 es l) l.length)=true then !R10 es (B36 l n)
   else decide (4<=l.length)&&K17 (fun i j=>G12 es l i j==N18 l.length i j) l.length)
 else false
theorem Z117{n:Nat}(hn:n<=32)(A:Option Addr)(es:List Nat)(cap:Nat)(P:Option Addr)(l:List Int)(ae:Nat)(H:Y0)(nx:Nat)(hS:Sl H nx A (K12 es))(ad:∀ e ∈ es,e<2^n)(aa:es.length<=64)(ag:N3 n es=0)(hP:Sl H nx P (U4 l))(hl:l.length<=40):
  Q2 gQ 58 [gv n A es.length cap,.slice P l.length ae] H nx fun r H' nx'=>r = .bool (obR es n l)/\D0 H nx H' nx':=by
 have W:U14 es:=fun e he=>aO (ad e he) (bK (aK O0 hn) (by decide))
 refine spec58 ?_;unfold F58;have ab:D0 H nx (hs H nx (some (.cells [.int .i64 n,.slice A es.length cap] 0))) (nx+1):=(D0.refl H nx).new _ (aD _) O0;simp only[W1];rw[Y31,if_pos (show Z0 _=true from rfl),Q37];simp only[Q0.val];rw[V65,Z11,Y40,C13];refine R0 (N11 n A es cap _ _ (hS.ext ab) W) ?_;rintro _ H2 nx2 ⟨rfl,a8⟩;have O:=ab.trans a8;have a0:=a8.get nx O0;rw[Z11] at a0;have av:=a8.le;have d1:decide (N3 n es≠0)=false:=by simp[ag]
 simp only[Z47,d1,C46,dQ,if_false,J35];refine Q116 hn (show l.length<=1000 by omega) (hP.ext O) a0 ?_ ?_
 .intro h
  exact⟨by rw[obR,if_neg h],O⟩
 intro a3;simp(disch:=try exact O4)only[W0,Q0.val,a0,C13];refine R0 (Q65 hn A es cap _ _ (hS.ext O) ad aa) ?_;rintro _ H3 E ⟨rfl,a7⟩;have a9:=O.trans a7;have au:=(a7.get nx O0).trans a0;have aw:=a7.le;have e1:(K12 (B2 es n)).length=32:=by rw[E1];exact N9 es n
 have e2:(K12 (aF 32 0)).length=32:=by rw[E1];simp
 have e3:=G24 (c:=K12 (aF 32 0)) (vs:=K12 (B2 es n)) (by rw[e1,e2]);have e4:=W5 (B2 es n);simp(disch:=try exact O4)only[W0,Q27,e1,e2,e3,e4];generalize hK:hs (hs H3 E (some (.cells (K12 (aF 32 0)) 0))) E (some (.cells (K12 (B2 es n)) 0))=K;have kN:J0 K E=some (.cells (K12 (B2 es n)) 0):=by rw[<- hK,Z11]
 have kE:D0 H3 E K (E+1):=by rw[<- hK];exact((D0.refl H3 E).new _ (aD _) O0:D0 H3 E _ (E+1)).hs (aD _)
 have a2:=a9.trans kE;have kG:=(kE.get nx O0).trans au;have al:decide ((l.length:Int) ≥ 3)=decide (3<=l.length):=by congr 1;apply propext;omega
 have aq:decide ((l.length:Int) ≥ 4)=decide (4<=l.length):=by congr 1;apply propext;omega
 rw[al,aq];refine B1 (m:=l.length) (fun m L H' nx'=>∃ i:Nat,m+i=l.length/\L=[.bool (decide (3<=l.length)&&K17 (G12 es l) i),.bool (decide (4<=l.length)&&K17 (fun i j=>G12 es l i j==N18 l.length i j) i),.int .i64 (i:Int)]/\K=H'/\E+1<=nx') ?_ ⟨0,rfl,by simp[K17],rfl,aD _⟩;rintro m ih L _ n4 ⟨i,hm,rfl,rfl,a1⟩ an;simp(disch:=try exact O4)only[W0]
 by_cases hi:i<l.length
 case neg=>
  have a5:¬ (i:Int)<(l.length:Int):=O0;have:i=l.length:=O0;subst this;simp(disch:=try exact O4)only[W0,a5]
  cases ah:(decide (3<=l.length)&&K17 (G12 es l) l.length) with
  | false=>
   simp(disch:=try exact O4)only[W0];exact⟨by rw[obR,if_pos a3,ah];rfl,a2.more a1⟩
  | true=>
   simp(disch:=try exact O4)only[W0,kG,C13];refine R0 (Z106 hn (X119 l hn) A es cap _ _ (hS.ext (a2.more a1)) W aa ag) ?_;rintro _ H6 ax ⟨⟨x,rfl⟩,ao⟩;simp(disch:=try exact O4)only[W0];exact⟨by rw[obR,if_pos a3,ah];rfl,(a2.more a1).trans ao⟩
 have a5:(i:Int)<(l.length:Int):=O0;obtain⟨u,hu,ai⟩:=a3.get hi;obtain⟨B,o,row,rfl,b3,Q,a4⟩:=(hP.ext a2).open (i:=i) (by rw[X9];omega);have g0:=a4 _ _ (Z9 hu);simp(disch:=try exact O4)only[W0,a5,X3 Q,g0];refine B1 (m:=i) (fun m2 L H' nx'=>∃ j:Nat,m2+j=i/\L=[.bool ((decide (3<=l.length)&&K17 (G12 es l) i)&&(aY j).all (G12 es l i)),.bool ((decide (4<=l.length)&&K17 (fun i j=>G12 es l i j==N18 l.length i j) i)&&(aY j).all (fun j=>G12 es l i j==N18 l.length i j)),.int .i64 (j:Int)]/\K=H'/\E+1<=nx') ?_ ⟨0,rfl,O2,rfl,a1⟩;rintro m2 aj L2 _ n5 ⟨j,ay,rfl,rfl,ak⟩ ac;simp(disch:=try exact O4)only[W0]
 by_cases hj:j<i
 case neg=>
  have U:¬ (j:Int)<(i:Int):=O0;have:j=i:=O0;subst this;simp(disch:=try exact O4)only[W0,U];refine an (m-1) _ _ _ O0 ⟨j+1,O0,?_,rfl,ak⟩;rw[E115,E115];simp[Bool.and_assoc]
 have U:(j:Int)<(i:Int):=O0;have a6:(j:Int)<(l.length:Int):=O0;obtain⟨v,hv,ap⟩:=a3.get (show j<l.length by omega);have g1:=a4 _ _ (Z9 hv);have gn:=Q3 (V39 es hn ai);have Z:(u:Int)<32:=O0;have az:=aO (G11 (adj es u) n) (bK (aK O0 hn) (show 2^32<=4294967296 by decide));have V:(Q1 (adj es u) n).testBit v=G12 es l i j:=by rw[E26,G12,N87 hu,N87 hv];simp[ap]
 have J:∀ a b:Bool,a=((decide (3<=l.length)&&K17 (G12 es l) i)&&(aY (j+1)).all (G12 es l i))->b=((decide (4<=l.length)&&K17 (fun i j=>G12 es l i j==N18 l.length i j) i)&&(aY (j+1)).all (fun j=>G12 es l i j==N18 l.length i j))->aj [.bool a,.bool b,.int .i64 ((j:Int)+1)] K (n5+11):=by
  rintro a b rfl rfl;exact ac (m2-1) _ _ _ O0 ⟨j+1,O0,O2,rfl,O0⟩
 have f1:((decide (3<=l.length)&&K17 (G12 es l) i)&&(aY (j+1)).all (G12 es l i))=(((decide (3<=l.length)&&K17 (G12 es l) i)&&(aY j).all (G12 es l i))&&G12 es l i j):=by rw[Q72,<- Bool.and_assoc]
 have f2:((decide (4<=l.length)&&K17 (fun i j=>G12 es l i j==N18 l.length i j) i)&&(aY (j+1)).all (fun j=>G12 es l i j==N18 l.length i j))=(((decide (4<=l.length)&&K17 (fun i j=>G12 es l i j==N18 l.length i j) i)&&(aY j).all (fun j=>G12 es l i j==N18 l.length i j))&&(G12 es l i j==N18 l.length i j)):=by rw[Q72,<- Bool.and_assoc]
 rw[f1,f2] at J;generalize ((decide (3<=l.length)&&K17 (G12 es l) i)&&(aY j).all (G12 es l i))=c1 at J ⊢;generalize ((decide (4<=l.length)&&K17 (fun i j=>G12 es l i j==N18 l.length i j) i)&&(aY j).all (fun j=>G12 es l i j==N18 l.length i j))=c2 at J ⊢
 by_cases h1:j+1=i
 .have d2:decide ((j:Int)=(i:Int)-1)=true:=by simp;omega
  have dn:N18 l.length i j=true:=by simp[N18,h1]
  rw[dn] at J;simp(disch:=try exact O4)only[W0,U,N13,d2,kN,gn,X3 Q,g1,V]
  cases c1<;>cases c2<;>simp(disch:=try exact O4)only[W0,J72]<;>exact J _ _ O2 O2
 .have d2:decide ((j:Int)=(i:Int)-1)=false:=by simp;omega
  by_cases h2:j=0
  .have d3:decide (j=0)=true:=by simp[h2]
   have d4:decide ((i:Int)=(l.length:Int)-1)=N18 l.length i j:=by
    rw[eX];simp[N18];omega
   simp(disch:=try exact O4)only[W0,U,N13,d2,d3,d4,kN,gn,X3 Q,g1,V]
   cases c1<;>cases c2<;>simp(disch:=try exact O4)only[W0,J72]<;>exact J _ _ O2 O2
  .have d3:decide (j=0)=false:=by simp[h2]
   have dn:N18 l.length i j=false:=by simp[N18,h1,h2]
   rw[dn] at J;simp(disch:=try exact O4)only[W0,U,N13,d2,d3,kN,gn,X3 Q,g1,V]
   cases c1<;>cases c2<;>simp(disch:=try exact O4)only[W0,J72]<;>exact J _ _ O2 O2
end
def X61(es:List Nat)(f:Nat)(l:List Int)(i:Nat):Bool:=
 ((decide (i=0) || decide (i+1=l.length))==decide (vAt l i<f))&&(aY i).all fun j=>G12 es l i j==decide (j+1=i)
open Classical in
def Q36(es:List Nat)(n f:Nat)(l:List Int):Bool:=
 if 3<=l.length/\lOK l n then(aY l.length).all (X61 es f l) else false
theorem J123{n f:Nat}(hn:n<=32)(hf:f<=n)(A:Option Addr)(es:List Nat)(cap:Nat)(P:Option Addr)(l:List Int)(ah:Nat)(H:Y0)(nx:Nat)(hS:Sl H nx A (K12 es))(ad:∀ e ∈ es,e<2^n)(an:es.length<=64)(au:N3 n es=0)(ai:Q6 n f es=0)(hP:Sl H nx P (U4 l))(hl:l.length<=40):
  Q2 gQ 59 [gv n A es.length cap,.int .i64 (f:Int),.slice P l.length ah] H nx fun r H' nx'=>r = .bool (Q36 es n f l)/\D0 H nx H' nx':=by
 have a3:U14 es:=fun e he=>aO (ad e he) (bK (aK O0 hn) (by decide))
 refine spec59 ?_;unfold F59;have ab:D0 H nx (hs H nx (some (.cells [.int .i64 n,.slice A es.length cap] 0))) (nx+1):=(D0.refl H nx).new _ (aD _) O0;simp only[W1];rw[Y31,if_pos (show Z0 _=true from rfl),Q37];simp only[Q0.val];refine N5 (fun L H' nx'=>L=[.bool (decide (l.length<3))]/\D0 (hs H nx (some (.cells [.int .i64 n,.slice A es.length cap] 0))) (nx+1) H' nx') ?_ ?_
 .intro j hj
  rw[V65,Z11,Y40,C13];refine R0 (G56 n f A es cap _ _ (hS.ext ab) a3) ?_;rintro _ H2 nx2 ⟨rfl,O⟩;have d1:decide (Q6 n f es≠0)=false:=by simp[ai]
  have d2:decide ((l.length:Int)<3)=decide (l.length<3):=by congr 1;apply propext;omega
  simp(disch:=try exact O4)only[W0,d1,d2];exact hj _ _ _ ⟨rfl,O⟩
 rintro _ H2 nx2 ⟨rfl,O⟩;have J:=ab.trans O;have a4:=O.get nx O0;rw[Z11] at a4;have av:=O.le
 by_cases h3:l.length<3
 .have d:decide (l.length<3)=true:=by simp[h3]
  simp only[fZ,d,C46,if_true,Y5];exact⟨by rw[Q36,if_neg O0],J⟩
 have d:decide (l.length<3)=false:=by simp;omega
 simp only[fZ,d,C46,dQ,if_false,J35];refine Q116 hn (show l.length<=1000 by omega) (hP.ext J) a4 ?_ ?_
 .intro h
  exact⟨by rw[Q36,if_neg (fun q=>h q.2)],J⟩
 intro a7;simp(disch:=try exact O4)only[W0,Q0.val,a4,C13];refine R0 (Z71 hn A es cap _ _ (hS.ext J) ad an au) ?_;rintro _ H3 E ⟨rfl,a9⟩;have a8:=J.trans a9;have aw:=a9.le;have e1:(K12 (B2 es n)).length=32:=by rw[E1];exact N9 es n
 have e2:(K12 (aF 32 0)).length=32:=by rw[E1];simp
 have e3:=G24 (c:=K12 (aF 32 0)) (vs:=K12 (B2 es n)) (by rw[e1,e2]);have e4:=W5 (B2 es n);simp(disch:=try exact O4)only[W0,Q27,e1,e2,e3,e4];generalize hK:hs (hs H3 E (some (.cells (K12 (aF 32 0)) 0))) E (some (.cells (K12 (B2 es n)) 0))=K;have kN:J0 K E=some (.cells (K12 (B2 es n)) 0):=by rw[<- hK,Z11]
 have kE:D0 H3 E K (E+1):=by rw[<- hK];exact((D0.refl H3 E).new _ (aD _) O0:D0 H3 E _ (E+1)).hs (aD _)
 have a6:=a8.trans kE;have hR:Q36 es n f l=(aY l.length).all (X61 es f l):=by rw[Q36,if_pos ⟨O0,a7⟩]
 refine B1 (m:=l.length) (fun m L H' nx'=>∃ i:Nat,m+i=l.length/\L=[.int .i64 (i:Int)]/\(aY i).all (X61 es f l)=true/\K=H'/\E+1<=nx') ?_ ⟨0,rfl,rfl,O2,rfl,aD _⟩;rintro m ih L _ n4 ⟨i,hm,rfl,a0,rfl,a5⟩ ao;simp(disch:=try exact O4)only[W0]
 by_cases hi:i<l.length
 case neg=>
  have a1:¬ (i:Int)<(l.length:Int):=O0;have:i=l.length:=O0;subst this;simp(disch:=try exact O4)only[W0,a1];exact⟨by rw[hR,a0],a6.more a5⟩
 have a1:(i:Int)<(l.length:Int):=O0;obtain⟨u,hu,aj⟩:=a7.get hi;obtain⟨B,o,row,rfl,b3,Z,V⟩:=(hP.ext a6).open (i:=i) (by rw[X9];omega);have g0:=V _ _ (Z9 hu);have bad:∀ {nx':Nat},E+1<=nx'->X61 es f l i=false->dU false = .bool (Q36 es n f l)/\D0 H nx K nx':=fun h1 h2=>⟨by rw[hR,J120 hi h2],a6.more h1⟩
 have ap:decide ((u:Int)<(f:Int))=decide (vAt l i<f):=by rw[N87 hu];congr 1;apply propext;omega
 simp(disch:=try exact O4)only[W0,a1,X3 Z,g0];refine N5 (fun L H' nx'=>L=[.bool (decide (i=0) || decide (i+1=l.length))]/\K=H'/\n4=nx') ?_ ?_
 .intro jj ae
  by_cases h1:i=0
  .have d2:decide (i=0)=true:=by simp[h1]
   simp(disch:=try exact O4)only[W0,d2];exact ae _ _ _ ⟨by simp[h1],rfl,rfl⟩
  .have d2:decide (i=0)=false:=by simp[h1]
   have d4:decide ((i:Int)=(l.length:Int)-1)=decide (i+1=l.length):=by congr 1;apply propext;omega
   simp(disch:=try exact O4)only[W0,d2,d4];exact ae _ _ _ ⟨by simp[h1],rfl,rfl⟩
 rintro _ _ _ ⟨rfl,rfl,rfl⟩;simp(disch:=try exact O4)only[W0,ap,J72,cond_true]
 cases W:((decide (i=0) || decide (i+1=l.length))==decide (vAt l i<f)) with
 | false=>
  simp(disch:=try exact O4)only[W0];refine bad a5 ?_;unfold X61;rw[W];rfl
 | true=>
  simp(disch:=try exact O4)only[W0];refine B1 (m:=i) (fun m2 L H' nx'=>∃ j:Nat,m2+j=i/\L=[.int .i64 (j:Int)]/\(aY j).all (fun j=>G12 es l i j==decide (j+1=i))=true/\K=H'/\E+1<=nx') ?_ ⟨0,rfl,rfl,O2,rfl,a5⟩;rintro m2 ax L2 _ n5 ⟨j,ay,rfl,U,rfl,ak⟩ ac;simp(disch:=try exact O4)only[W0]
  by_cases hj:j<i
  case neg=>
   have a2:¬ (j:Int)<(i:Int):=O0;have:j=i:=O0;subst this;simp(disch:=try exact O4)only[W0,a2];refine ao (m-1) _ _ _ O0 ⟨j+1,O0,O2,?_,rfl,ak⟩;rw[Q72,a0,iA];unfold X61;rw[W,U];rfl
  have a2:(j:Int)<(i:Int):=O0;have al:(j:Int)<(l.length:Int):=O0;obtain⟨v,hv,aq⟩:=a7.get (show j<l.length by omega);have g1:=V _ _ (Z9 hv);have gn:=Q3 (V39 es hn aj);have ag:(u:Int)<32:=O0;have az:=aO (G11 (adj es u) n) (bK (aK O0 hn) (show 2^32<=4294967296 by decide));have aa:(Q1 (adj es u) n).testBit v=G12 es l i j:=by rw[E26,G12,N87 hu,N87 hv];simp[aq]
  have d2:decide ((j:Int)=(i:Int)-1)=decide (j+1=i):=by congr 1;apply propext;omega
  simp(disch:=try exact O4)only[W0,a2,kN,gn,X3 Z,g1,aa,d2,J72,cond_true]
  cases hq:(G12 es l i j==decide (j+1=i)) with
  | false=>
   simp(disch:=try exact O4)only[W0];refine bad O0 ?_;unfold X61;rw[J120 (Q:=fun j=>G12 es l i j==decide (j+1=i)) hj hq,Bool.and_false]
  | true=>
   simp(disch:=try exact O4)only[W0];refine ac (m2-1) _ _ _ O0 ⟨j+1,O0,O2,?_,rfl,O0⟩;rw[Q72,U,hq];rfl
theorem B122(N free:Int)(A:Option Addr)(es:List Nat)(cap:Nat)(H:Y0)(nx:Nat)(hS:Sl H nx A (K12 es))(U:U14 es):
  Q2 gQ 74 [gv N A es.length cap,O8 free] H nx fun r H' nx'=>r = .bool (decide (Q6 N free es=0))/\D0 H nx H' nx':=by
 refine spec74 ?_;unfold F74;have Q:D0 H nx (hs H nx (O7 [O8 N,.slice A es.length cap])) (nx+1):=(D0.refl H nx).nw _;simp(disch:=try exact O3)only[W0,Z0,Q0.val,C13];refine R0 (N11 N A es cap _ _ (hS.ext Q) U) ?_;rintro _ H2 nx2 ⟨rfl,O⟩;have E:=Q.trans O;have J:=O.gt nx;rw[Z11] at J
 by_cases h0:N3 N es=0
 .have d1:decide (N3 N es=0)=true:=by simp[h0]
  have hF:Q6 N free es=if free<0\/N<free then 3 else 0:=by rw[Q6,if_neg (by simp[h0])]
  by_cases h1:free ≥ 0
  .by_cases h2:free<=N
   .have e:decide (Q6 N free es=0)=true:=by rw[hF,if_neg O0];simp
    simp(disch:=try exact O3)only[W0,d1,h1,h2,J,e];exact E
   .have e:decide (Q6 N free es=0)=false:=by rw[hF,if_pos O0];simp
    simp(disch:=try exact O3)only[W0,d1,h1,h2,J,e];exact E
  .have e:decide (Q6 N free es=0)=false:=by rw[hF,if_pos O0];simp
   simp(disch:=try exact O3)only[W0,d1,h1,J,e];exact E
 .have d1:decide (N3 N es=0)=false:=by simp[h0]
  have e:decide (Q6 N free es=0)=false:=by rw[Q6,if_pos h0];simp[h0]
  simp(disch:=try exact O3)only[W0,d1,e];exact E
open Classical in
def E48(es:List Nat)(n f:Nat)(a b c:Int):Bool:=
 if 0<=a/\a<b/\b<c/\c<(f:Int) then
  decide (Q1 (adj es c.toNat) n &&& (2^a.toNat ||| 2^b.toNat)=(2^a.toNat ||| 2^b.toNat))&&decide (Q1 (adj es a.toNat) n &&& (2^a.toNat ||| 2^b.toNat)=0)
 else false
theorem E122{n f:Nat}(hn:n<=32)(hf:f<=n)(A:Option Addr)(es:List Nat)(cap:Nat)(a b c:Int)(H:Y0)(nx:Nat)(hS:Sl H nx A (K12 es))(U:∀ e ∈ es,e<2^n)(W:es.length<=64)(Z:N3 n es=0)(a2:Q6 n f es=0):
  Q2 gQ 60 [gv n A es.length cap,O8 (f:Int),.agg ⟨[O8 a,O8 b,O8 c]⟩] H nx fun r H' nx'=>r = .bool (E48 es n f a b c)/\D0 H nx H' nx':=by
 have V:U14 es:=fun e he=>aO (U e he) (bK (aK O0 hn) (by decide))
 refine spec60 ?_;unfold F60;have i2:Int.toNat 2=2:=rfl;simp(disch:=try exact O3)only[W0,Z0,Q0.val,i2];generalize hK:hs (hs H nx (O7 [O8 n,.slice A es.length cap])) (nx+1) (O7 [O8 a,O8 b,O8 c])=K;have kG:J0 K nx=O7 [O8 n,.slice A es.length cap]:=by rw[<- hK,gN _,Z11]
 have kT:J0 K (nx+1)=O7 [O8 a,O8 b,O8 c]:=by rw[<- hK,Z11]
 have Q:D0 H nx K (nx+1+1):=by
  rw[<- hK];exact(((D0.refl H nx).nw _:D0 H nx _ (nx+1)).nw _)
 refine N5 (fun L H' nx'=>L=[.bool (!decide (0<=a/\a<b/\b<c/\c<(f:Int)))]/\D0 K (nx+1+1) H' nx') ?_ ?_
 .intro j hj
  simp(disch:=try exact O3)only[C13];refine R0 (B122 n f A es cap _ _ (hS.ext Q) V) ?_;rintro _ H2 nx2 ⟨rfl,E⟩;have d1:decide (Q6 n f es=0)=true:=by simp[a2]
  have O:=(E.gt (nx+1)).trans kT
  by_cases h1:a<0
  .simp(disch:=try exact O3)only[W0,d1,O,h1]
   exact hj _ _ _ ⟨by congr 2;simp;omega,E⟩
  by_cases h2:a ≥ b
  .simp(disch:=try exact O3)only[W0,d1,O,h1,h2]
   exact hj _ _ _ ⟨by congr 2;simp;omega,E⟩
  by_cases h3:b ≥ c
  .simp(disch:=try exact O3)only[W0,d1,O,h1,h2,h3]
   exact hj _ _ _ ⟨by congr 2;simp;omega,E⟩
  simp(disch:=try exact O3)only[W0,d1,O,h1,h2,h3];exact hj _ _ _ ⟨by
   congr 2;rw[eX];simp;omega,E⟩
 rintro _ H2 nx2 ⟨rfl,E⟩;have O:=(E.gt (nx+1)).trans kT;have a5:=(E.gt nx).trans kG
 by_cases hc:0<=a/\a<b/\b<c/\c<(f:Int)
 case neg=>
  have d:decide (0<=a/\a<b/\b<c/\c<(f:Int))=false:=decide_eq_false hc;simp(disch:=try exact O3)only[W0,d];exact⟨by rw[E48,if_neg hc],Q.trans E⟩
 have d:decide (0<=a/\a<b/\b<c/\c<(f:Int))=true:=decide_eq_true hc;rw[d];obtain⟨u,rfl⟩:∃ u:Nat,a=u:=⟨a.toNat,O0⟩
 obtain⟨v,rfl⟩:∃ v:Nat,b=v:=⟨b.toNat,O0⟩
 obtain⟨w,rfl⟩:∃ w:Nat,c=w:=⟨c.toNat,O0⟩
 have a1:2^u<4294967296:=Y18 O0;have a6:2^v<4294967296:=Y18 O0;have ac:=M54 a1 a6;simp(disch:=try exact O3)only[W0,O,a5,C13];refine R0 (U61 hn (show w<n by omega) A es cap _ _ (hS.ext (Q.trans (E.more (show nx2<=nx2+8 by omega)))) U W Z) ?_;rintro _ H3 a8 ⟨rfl,a3⟩;have J:=(E.more (show nx2<=nx2+8 by omega)).trans a3;have a4:=(J.gt (nx+1)).trans kT;have a0:=(J.gt nx).trans kG;have ab:=aO (G11 (adj es w) n) (bK (aK O0 hn) (show 2^32<=4294967296 by decide));have aa:=aO (G11 (adj es u) n) (bK (aK O0 hn) (show 2^32<=4294967296 by decide));have hR:E48 es n f u v w=(decide (Q1 (adj es w) n &&& (2^u ||| 2^v)=(2^u ||| 2^v))&&decide (Q1 (adj es u) n &&& (2^u ||| 2^v)=0)):=by rw[E48,if_pos hc];rfl
 cases hq:decide (Q1 (adj es w) n &&& (2^u ||| 2^v)=(2^u ||| 2^v)) with
 | false=>
  rw[hq] at hR;simp(disch:=try exact O3)only[W0,Z120,hq];exact⟨by rw[hR];rfl,Q.trans J⟩
 | true=>
  rw[hq] at hR;simp(disch:=try exact O3)only[W0,Z120,hq,a4,a0,C13];refine R0 (U61 hn (show u<n by omega) A es cap _ _ (hS.ext (Q.trans J)) U W Z) ?_;rintro _ H4 a9 ⟨rfl,a7⟩;simp(disch:=try exact O3)only[W0];exact⟨by rw[hR];rfl,Q.trans (J.trans a7)⟩
section
variable (a0 a1 a2:Value) (H:Y0) (nx:Nat) (k:EP)
def F24:Prop:=
 M12 a0 H nx fun b c d=>
 M12 a2 c d fun c d e=>
 V4 (fun c=>
 J1 b (some 2) d fun f=>
 Y2 gQ 27 [f] d e fun d e f=>
 D10 .neq d i0 fun d=>
 K3 false d (
 D10 .lss a1 i0 fun d=>
 K3 false d (
 K7 b 0 e fun _ b=>
 D10 .gtr a1 b fun b=>
 c [b] e f) (
 c [bT] e f)) (
 c [bT] e f)) (fun d e f=>
 K2 d.a (
 Rt bF e f k) (
 K7 c 0 e fun _ d=>
 D10 .eql d i0 fun d=>
 K2 d (
 K7 c 2 e fun _ d=>
 R4 d 0 e fun d=>
 D10 .eql d i0 fun d=>
 K3 true d (
 J1 b (some 2) e fun b=>
 K7 c 1 e fun _ c=>
 Y2 gQ 57 [b,a1,c] e f fun b c d=>
 Rt b c d k) (
 Rt bF e f k)) (
 K7 c 1 e fun _ d=>
 R4 d 0 e fun d=>
 D10 .gtr d i0 fun d=>
 K2 d (
 Rt bF e f k) (
 K7 c 0 e fun _ d=>
 D10 .eql d i1 fun g=>
 K2 g (
 J1 b (some 2) e fun b=>
 K7 c 2 e fun _ c=>
 Y2 gQ 58 [b,c] e f fun b c d=>
 Rt b c d k) (
 D10 .eql d (.int .i64 2) fun g=>
 K2 g (
 J1 b (some 2) e fun b=>
 K7 c 2 e fun _ c=>
 Y2 gQ 59 [b,a1,c] e f fun b c d=>
 Rt b c d k) (
 D10 .eql d (.int .i64 3) fun d=>
 K2 d (
 M2 (f+14) fun d=>
 K7 c 2 e fun f g=>
 R4 g 0 e fun h=>
 D10 .eql h (.int .i64 3) fun i=>
 K3 true i (
 J1 b (some 2) e fun i=>
 K7 c 2 e fun c j=>
 D9 (.s2a 3) [j] fun l=>
 J1 l (some 3) e fun m=>
 Y2 gQ 60 [i,a1,m] e d fun d n o=>
 wK ((tA (tB (cE l (some 3) e m)))/\((tA (tB (cE c none e j)))/\((tA (tB (cE b (some 2) e i)))/\((tA (tB (R4 g 0 e fun b=>b=h)))/\(tB (tA (tB (cE f none e g)))))))) (
 Rt d n o k)) (
 wK ((tB (R4 g 0 e fun b=>b=h))/\(tB (tB (cE f none e g)))) (
 Rt bF e d k))) (
 Rt bF e f k)))))))
def F7:Prop:=
 M12 a0 H nx fun b c d=>
 Y2 gQ 8 [] c d fun c d e=>
 wUn .not c fun c=>
 K2 c (
 Rt bF d e k) (
 V4 (fun c=>
 J1 b (some 2) d fun f=>
 Y2 gQ 9 [f,a1] d e fun d e f=>
 wUn .not d fun d=>
 K3 false d (
 J1 b (some 2) e fun b=>
 Y2 gQ 11 [b,a1] e f fun b d e=>
 D10 .neq b i0 fun b=>
 K3 false b (
 R4 a2 0 d fun b=>
 D10 .gtr b (.int .i64 8) fun b=>
 c [b] d e) (
 c [bT] d e)) (
 c [bT] e f)) (fun c d e=>
 K2 c.a (
 Rt bT d e k) (
 J1 b (some 2) d fun c=>
 Y2 gQ 10 [c,a1] d e fun c d e=>
 G9 c 0 fun f=>
 G9 c 1 fun c=>
 wAl [.int .i64 0,.slice none 0 0,.slice none 0 0] d e fun d e g=>
 D5 d f 3 e fun e=>
 K7 b 1 e fun _ f=>
 K7 b 0 e fun _ h=>
 Y2 gQ 23 [f,h,a1] e g fun e f g=>
 V4 (fun h=>
 D10 .neq c i0 fun c=>
 K3 false c (
 J1 b (some 2) f fun b=>
 J1 d (some 3) f fun c=>
 Y2 gQ 24 [b,a1,c] f g fun b c f=>
 wUn .not b fun b=>
 K3 false b (
 K7 d 0 c fun _ b=>
 D10 .eql b i0 fun b=>
 D9 (.eqb true) [b,e] fun b=>
 h [b] c f) (
 h [bT] c f)) (
 h [bT] f g)) (fun c d f=>
 K2 c.a (
 Rt bF d f k) (
 G3 (fun c d f g=>
 D10 .leq d.a (.int .i64 3) fun h=>
 K2 h (
 V4 (fun c=>
 K3 true e (
 J1 b (some 2) f fun b=>
 U11 [.int .i64 0,.slice none 0 0,.slice none 0 0] [(0,1),(1,1),(2,1)] [(0,d.a),(2,a2)] fun d=>
 Y2 gQ 24 [b,a1,d] f g fun b d e=>
 c [b] d e) (
 c [bF] f g)) (fun b e f=>
 K2 b.a (
 Rt bF e f k) (
 D10 .add d.a i1 fun b=>
 c [b] e f))) (
 K3 false e (
 J1 b (some 2) f fun b=>
 U11 [.int .i64 0,.slice none 0 0,.slice none 0 0] [(0,1),(1,1),(2,1)] [(1,a2)] fun c=>
 Y2 gQ 24 [b,a1,c] f g fun b c d=>
 wUn .not b fun b=>
 Rt b c d k) (
 Rt bT f g k))) [i1] d f)))))
variable {a0 a1 a2 H nx k}
theorem spec24:F24 a0 a1 a2 H nx k->Q2 gQ 24 [a0,a1,a2] H nx k:=Q12 [(2,[19])] [] [.one (.tst (.one (.tst (.one .nil) (.one .nil))) (.one (.one (.one .nil)))),.one (.tst (.one .nil) (.one .nil)),.one (.tst (.one .nil) (.one .nil))]
theorem spec7:F7 a0 a1 a2 H nx k->Q2 gQ 7 [a0,a1,a2] H nx k:=Q12 [(5,[27]),(10,[55]),(17,[68])] [[10]] [.one (.tst (.one (.tst (.one .nil) (.one .nil))) (.one (.one (.one .nil)))),.one (.tst (.one (.tst (.one .nil) (.one .nil))) (.one (.one (.one .nil)))),.one (.tst (.one .nil) (.one .nil)),.one (.tst (.one .nil) (.one .nil))]
end
open Classical in
def Y67(es:List Nat)(n f:Nat)(l:List Int):Bool:=
 if V72 l f n then V35 es n (adj es) ((l++R6 f f).map Int.toNat) else false
theorem Y116(E:List Nat):(E.map fun(w:Nat)=>(w:Int)).map Int.toNat=E:=by
 rw[List.map_map]
 conv=>rhs;rw[<- List.map_id E]
 exact List.map_congr_left fun x _=>O2
theorem D120{es:List Nat}{n f:Nat}{l:List Int}{E:List Nat}(h:V72 l f n)(ho:l++R6 f f=E.map fun(w:Nat)=>(w:Int)):Y67 es n f l=V35 es n (adj es) E:=by
 rw[Y67,if_pos h,ho,Y116]
theorem M119{out:List Bag}(h:W89 out){v:Nat}{b:Bag}(hb:b.key<4294967296):W89 (out.set v b):=by
 intro x hx;obtain⟨i,hi,rfl⟩:=gL hx;rw[List.getElem_set]
 split
 .exact hb
 .exact h _ (List.getElem_mem _)
theorem N115{n:Nat}(hn:n<=32):∀(E:List Nat) (out:List Bag) (N:Nb),W89 out->W89 (Y72 n out N E)
 | [],out,N,h=>h
 | v :: rest,out,N,h=>N115 hn rest _ _ (M119 h (R19 hn _))
theorem V119(n:Nat):W89 (aF n G50):=fun b hb=>by
 rw[(List.mem_replicate.1 hb).2];show 0<4294967296;omega
theorem Q118{n f:Nat}(hn:n<=32)(hf:f<=n)(A:Option Addr)(es:List Nat)(cap:Nat)(P:Option Addr)(l:List Int)(a5:Nat)(H:Y0)(nx:Nat)(hS:Sl H nx A (K12 es))(av:∀ e ∈ es,e<2^n)(ao:es.length<=64)(ay:N3 n es=0)(ak:Q6 n f es=0)(hP:Sl H nx P (U4 l))(al:Has H nx P)(hl:l.length<=40):
  Q2 gQ 57 [gv n A es.length cap,O8 (f:Int),.slice P l.length a5] H nx fun r H' nx'=>r = .bool (Y67 es n f l)/\D0 H nx H' nx':=by
 have W:U14 es:=fun e he=>aO (av e he) (bK (aK O0 hn) (by decide))
 refine spec57 ?_;unfold F57;have Z:D0 H nx (hs H nx (O7 [O8 n,.slice A es.length cap])) (nx+1):=(D0.refl H nx).nw _;simp(disch:=try exact O3)only[W0,Z0,Q0.val,C13];refine R0 (K109 n f A es cap P l a5 _ _ (hS.ext Z) W (hP.ext Z) (al.ext Z) hl) ?_;rintro r H2 nx2 ⟨ab,h⟩;have Q:=Z.trans ab;have ai:=ab.gt nx;rw[Z11] at ai;have az:=ab.le;rcases h with ⟨h0,_⟩ | ⟨n',f',en,ef,_,_,_,h⟩
 .exact absurd ak h0
 obtain rfl:n=n':=O0;obtain rfl:f=f':=O0;rcases h with ⟨an,rfl⟩ | ⟨ax,J,ho,ac,a9,ad,R,rfl,hR,_⟩
 .unfold refuse
  have d:decide ((1:Int)≠0)=true:=by decide
  simp(disch:=try exact O3)only[W0,d];exact⟨by rw[Y67,if_neg an],Q⟩
 have a6:=D120 (es:=es) ax ho;have d:decide ((0:Int)≠0)=false:=by decide
 have V:=Y118 es n J (aF n G50) (adj es) ac fun w hw=>by
  have:=a9 w hw;rw[iC];omega
 have a1:=N115 (n:=n) hn J (aF n G50) (adj es) (V119 n);have ae:=V94 n J (aF n G50) (adj es);rw[iC] at ae;generalize Y72 n (aF n G50) (adj es) J=bs at hR V a1 ae;simp(disch:=try exact O3)only[W0,d];refine B1 (m:=n) (fun m L H' nx'=>∃ i:Nat,m+i=n/\L=[O8 (i:Int)]/\(∀(w:Nat) (b:Bag),w<i->bs[w]? = some b->R10 es (Y34 b)=true)/\D0 H2 nx2 H' nx') ?_ ⟨0,rfl,rfl,fun w b h=>O0,D0.refl _ _⟩;rintro m ih L H3 E ⟨i,hm,rfl,a2,O⟩ au;have aj:=(O.gt nx).trans ai;have b3:=O.le;simp(disch:=try exact O3)only[W0]
 by_cases hi:i<n
 case neg=>
  have a7:¬ (i:Int)<(n:Int):=O0;simp(disch:=try exact O3)only[W0,a7];refine⟨?_,Q.trans O⟩;rw[a6,V.1 fun w hw b hb=>a2 w b (by have:=a9 w hw;omega) hb]
 have a7:(i:Int)<(n:Int):=O0;obtain⟨b,hb⟩:∃ b,bs[i]? = some b:=⟨_,aE O0⟩
 obtain⟨B,o,row,rfl,ba,ag,U⟩:=(hR.ext O).open (i:=0) (by rw[N94];omega);have c0:=U _ _ (M79 hb 0 (O8 b.var) rfl);have c1:=U _ _ (M79 hb 1 (O9 (b.key:Int)) rfl);have c2:=U _ _ (M79 hb 2 (O8 b.par) rfl);have ah:=a1.get hb;rw[eM] at c0;rw[<- eH] at c1 c2;simp(disch:=try exact O3)only[W0,Z0,Nat.reduceAdd,a7,X3 ag,Z108 c0 c1 c2,D7,aj,C13,Y12];generalize hK:hs (hs H3 E (O7 [O8 0,O9 0,O8 0])) E (O7 [O8 b.var,O9 (b.key:Int),O8 b.par])=K;have kE:D0 H3 E K (E+1):=by rw[<- hK];exact((D0.refl H3 E).nw _:D0 H3 E _ (E+1)).h0
 have kB:J0 K E=O7 [O8 b.var,O9 (b.key:Int),O8 b.par]:=by rw[<- hK,Z11]
 have kG:=(kE.gt nx).trans aj;have ap:D0 H3 E K (E+1+9):=kE.more O0;refine R0 (M110 (b:=b) ah K (E+1+9)) ?_;rintro _ H5 b8 ⟨rfl,aa⟩;have a0:=ap.trans aa;have g5:=(aa.gt nx).trans kG;have b5:=(aa.gt E).trans kB;refine R0 (Z106 hn (E120 ah) A es cap _ _ (hS.ext ((Q.trans O).trans a0)) W ao ay) ?_;rintro _ H6 b4 ⟨⟨x,rfl⟩,aw⟩;have a4:=a0.trans aw
 cases a3:R10 es (Y34 b) with
 | false=>
  simp(disch:=try exact O3)only[W0,g5,C13];refine⟨?_,(Q.trans O).trans a4⟩;rw[a6]
  cases hq:V35 es n (adj es) J with
  | false=>rfl
  | true=>
   have:=V.2 hq i (Q58 ac a9 ad hi) b hb;rw[a3] at this;cases this
 | true=>
  simp(disch:=try exact O3)only[W0,g5,C13];refine au (m-1) _ _ _ O0 ⟨i+1,O0,O2,fun w b' hw a8 => ?_,O.trans a4⟩
  by_cases aq:w=i
  .subst aq;rw[hb] at a8;cases a8;exact a3
  .exact a2 w b' O0 a8
theorem Q122{m b o:Nat}{len cap:Nat}(h:m<=len)(k:VP):D9 (.s2a m) [.slice (some ⟨b,o,none⟩) len cap] k=k (.pointer (some ⟨b,o,none⟩)):=by
 have e:VF.ev (.s2a m) [.slice (some ⟨b,o,none⟩) len cap]=some (.pointer (some ⟨b,o,none⟩)):=by
  show cond (dD m len) (some (Value.pointer (some ⟨b,o,none⟩))) none=_;rw[V6 h];rfl
 unfold D9;rw[e,J8];rfl
open Classical in
def C25(es:List Nat)(N free E:Int)(l w:List Int):Bool:=
 if Q6 N free es=0 then
  (if E=0 then decide (w.length=0)&&Y67 es N.toNat free.toNat l
   else if 0<l.length then false
   else if E=1 then obR es N.toNat w
   else if E=2 then Q36 es N.toNat free.toNat w
   else if E=3 then decide (w.length=3)&&E48 es N.toNat free.toNat (w.getD 0 0) (w.getD 1 0) (w.getD 2 0)
   else false)
 else false
theorem getD_some{l:List Int}{i:Nat}{x:Int}(h:l[i]? = some x):l.getD i 0=x:=by
 rw[aP,h];rfl
theorem W116(N free E:Int)(A:Option Addr)(es:List Nat)(cap:Nat)(P:Option Addr)(l:List Int)(Z:Nat)(W:Option Addr)(w:List Int)(Q:Nat)(H:Y0)(nx:Nat)(hS:Sl H nx A (K12 es))(ag:U14 es)(hP:Sl H nx P (U4 l))(ad:Has H nx P)(hl:l.length<=40)(hW:Sl H nx W (U4 w))(ac:w.length<=40):
  Q2 gQ 24 [gv N A es.length cap,O8 free,.agg ⟨[O8 E,.slice P l.length Z,.slice W w.length Q]⟩] H nx fun r H' nx'=>r = .bool (C25 es N free E l w)/\D0 H nx H' nx':=by
 refine spec24 ?_;unfold F24;simp(disch:=try exact O3)only[W0,Z0,Q0.val];generalize hK:hs (hs H nx (O7 [O8 N,.slice A es.length cap])) (nx+1) (O7 [O8 E,.slice P l.length Z,.slice W w.length Q])=K;have kG:J0 K nx=O7 [O8 N,.slice A es.length cap]:=by rw[<- hK,gN _,Z11]
 have kV:J0 K (nx+1)=O7 [O8 E,.slice P l.length Z,.slice W w.length Q]:=by rw[<- hK,Z11]
 have a7:D0 H nx K (nx+1+1):=by
  rw[<- hK];exact(((D0.refl H nx).nw _:D0 H nx _ (nx+1)).nw _)
 refine N5 (fun L H' nx'=>L=[.bool (!decide (Q6 N free es=0))]/\D0 K (nx+1+1) H' nx') ?_ ?_
 .intro j hj
  simp(disch:=try exact O3)only[C13];refine R0 (N11 N A es cap _ _ (hS.ext a7) ag) ?_;rintro _ H2 nx2 ⟨rfl,U⟩;have ab:=(U.gt nx).trans kG
  by_cases h0:N3 N es=0
  .have d1:decide (N3 N es≠0)=false:=by simp[h0]
   have hF:Q6 N free es=if free<0\/N<free then 3 else 0:=by rw[Q6,if_neg (by simp[h0])]
   by_cases h1:free<0
   .have e:decide (Q6 N free es=0)=false:=by rw[hF,if_pos O0];simp
    simp(disch:=try exact O3)only[W0,d1,h1];exact hj _ _ _ ⟨by rw[e];rfl,U⟩
   .by_cases h2:N<free
    .have e:decide (Q6 N free es=0)=false:=by rw[hF,if_pos O0];simp
     simp(disch:=try exact O3)only[W0,d1,h1,h2,ab];exact hj _ _ _ ⟨by rw[e];rfl,U⟩
    .have e:decide (Q6 N free es=0)=true:=by rw[hF,if_neg O0];simp
     simp(disch:=try exact O3)only[W0,d1,h1,h2,ab];exact hj _ _ _ ⟨by rw[e];rfl,U⟩
  .have d1:decide (N3 N es≠0)=true:=by simp[h0]
   have e:decide (Q6 N free es=0)=false:=by rw[Q6,if_pos h0];simp[h0]
   simp(disch:=try exact O3)only[W0,d1];exact hj _ _ _ ⟨by rw[e];rfl,U⟩
 rintro _ H2 nx2 ⟨rfl,U⟩;have J:=a7.trans U;have g2:=(U.gt nx).trans kG;have v2:=(U.gt (nx+1)).trans kV
 by_cases O:Q6 N free es=0
 case neg=>
  have d:decide (Q6 N free es=0)=false:=by simp[O]
  simp(disch:=try exact O3)only[W0,d];exact⟨by rw[C25,if_neg O],J⟩
 have d:decide (Q6 N free es=0)=true:=by simp[O]
 obtain⟨n,f,rfl,rfl,hn,hf,a2,a3⟩:=U27 O;have a4:N3 n es=0:=by
  refine aI fun h => ?_
  rw[Q6,if_pos h] at O;exact h O
 have hR:C25 es n f E l w=(if E=0 then decide (w.length=0)&&Y67 es n f l
   else if 0<l.length then false
   else if E=1 then obR es n w
   else if E=2 then Q36 es n f w
   else if E=3 then decide (w.length=3)&&E48 es n f (w.getD 0 0) (w.getD 1 0) (w.getD 2 0)
   else false):=by rw[C25,if_pos O];rfl
 have dw:decide ((w.length:Int)=0)=decide (w.length=0):=by congr 1;apply propext;omega
 by_cases h0:E=0
 .have d0:decide (E=0)=true:=by simp[h0]
  rw[if_pos h0] at hR
  cases a1:decide (w.length=0) with
  | false=>
   rw[a1,Bool.false_and] at hR;simp(disch:=try exact O3)only[W0,d,g2,v2,d0,a1];exact⟨by rw[hR],J⟩
  | true=>
   rw[a1,iA] at hR;simp(disch:=try exact O3)only[W0,d,g2,v2,d0,a1,C13];refine R0 (Q118 hn hf A es cap P l Z _ _ (hS.ext J) a3 a2 a4 O (hP.ext J) (ad.ext J) hl) ?_;rintro _ H3 a5 ⟨rfl,V⟩;exact⟨by rw[hR],J.trans V⟩
 have d0:decide (E=0)=false:=by simp[h0]
 rw[if_neg h0] at hR
 by_cases a8:0<l.length
 .have dl:(0:Int)<(l.length:Int):=O0
  rw[if_pos a8] at hR;simp(disch:=try exact O3)only[W0,d,g2,v2,d0,dl];exact⟨by rw[hR],J⟩
 have dl:¬ (0:Int)<(l.length:Int):=O0;rw[if_neg a8] at hR
 by_cases h1:E=1
 .have d1:decide (E=1)=true:=by simp[h1]
  rw[if_pos h1] at hR;simp(disch:=try exact O3)only[W0,d,g2,v2,d0,dl,d1,C13];refine R0 (Z117 hn A es cap W w Q _ _ (hS.ext J) a3 a2 a4 (hW.ext J) ac) ?_;rintro _ H3 a5 ⟨rfl,V⟩;exact⟨by rw[hR],J.trans V⟩
 have d1:decide (E=1)=false:=by simp[h1]
 rw[if_neg h1] at hR
 by_cases h2:E=2
 .have d2:decide (E=2)=true:=by simp[h2]
  rw[if_pos h2] at hR;simp(disch:=try exact O3)only[W0,d,g2,v2,d0,dl,d1,d2,C13];refine R0 (J123 hn hf A es cap W w Q _ _ (hS.ext J) a3 a2 a4 O (hW.ext J) ac) ?_;rintro _ H3 a5 ⟨rfl,V⟩;exact⟨by rw[hR],J.trans V⟩
 have d2:decide (E=2)=false:=by simp[h2]
 rw[if_neg h2] at hR
 by_cases h3:E=3
 case neg=>
  have d3:decide (E=3)=false:=by simp[h3]
  rw[if_neg h3] at hR;simp(disch:=try exact O3)only[W0,d,g2,v2,d0,dl,d1,d2,d3];exact⟨by rw[hR],J⟩
 have d3:decide (E=3)=true:=by simp[h3]
 rw[if_pos h3] at hR
 by_cases aa:w.length=3
 case neg=>
  have a6:decide ((w.length:Int)=3)=false:=by simp;omega
  have e:decide (w.length=3)=false:=by simp[aa]
  rw[e,Bool.false_and] at hR;simp(disch:=try exact O3)only[W0,d,g2,v2,d0,dl,d1,d2,d3,a6];exact⟨by rw[hR],J.more O0⟩
 have a6:decide ((w.length:Int)=3)=true:=by simp;omega
 have e:decide (w.length=3)=true:=by simp[aa]
 rw[e,iA] at hR;obtain⟨a,ha⟩:∃ a,w[0]? = some a:=⟨_,aE O0⟩
 obtain⟨b,hb⟩:∃ b,w[1]? = some b:=⟨_,aE O0⟩
 obtain⟨c,hc⟩:∃ c,w[2]? = some c:=⟨_,aE O0⟩
 rw[getD_some ha,getD_some hb,getD_some hc] at hR;obtain⟨B,o,row,rfl,ah,a9,a0⟩:=(hW.ext J).open (i:=0) (by rw[X9];omega);have c0:=a0 _ _ (Z9 ha);have c1:=a0 _ _ (Z9 hb);have c2:=a0 _ _ (Z9 hc);rw[eM] at c0;have ae:=fun k=>Q122 (m:=3) (b:=B) (o:=o) (len:=w.length) (cap:=Q) O0 k
 simp(disch:=try exact O3)only[W0,d,g2,v2,d0,dl,d1,d2,d3,a6,ae,X3 a9,Z108 c0 c1 c2,C13];refine R0 (E122 hn hf A es cap a b c _ _ (hS.ext (J.more (show nx2<=nx2+14 by omega))) a3 a2 a4 O) ?_;rintro _ H3 a5 ⟨rfl,V⟩;exact⟨by rw[hR],(J.more (show nx2<=nx2+14 by omega)).trans V⟩
end Go.Proofs.YtoiioigihocgbaaGreatDoor
namespace Go.Inv
def less(x:Int)(r:List Int):Nat:=r.countP fun y=>decide (y<x)
def inv:List Int->Nat
 | []=>0
 | x :: r=>less x r+inv r
abbrev Srt(l:List Int):Prop:=l.Pairwise (· <= ·)
inductive R (w:Nat):List Int->List Int->Nat->Prop
 | last {p f:List Int}:p.length<=w->Srt f->f.Perm p->R w p f (inv p)
 | cons {p1 p2 f1 f2:List Int} {c:Nat}:p1.length=w->Srt f1->f1.Perm p1->R w p2 f2 c->R w (p1++p2) (f1++f2) (inv p1+c)
end Go.Inv
namespace Go.Proofs.YtoiioigihocgbaaGreatDoor
open Go.Clo Go.Inv
def U78(es:List Nat)(n f:Nat):Prop:=PE es/\¬ U25 (N10 es) n f []/\¬ R52 es f
section
variable {es p:List Nat} {f n:Nat}
theorem Y115{es:List Nat}{n:Nat}(O:∀ v,v<n->Q21 es v):∀ {E:List Nat} {N:Nb},E.Nodup->(∀ w ∈ E,w<n)->(∀ a b,a ∈ E->b ∈ E->N a b=adj es a b)->(V35 es n N E=true<->PEl es E)
 | [],N,_,_,_=>by simp[V35,PEl]
 | v :: rest,N,hnd,hlt,hN=>by
  rw[hO] at hnd;have hv:=hlt v O2;have J:∀ w,K9 N v rest w=true<->w ∈ rest/\N10 es v w:=fun w=>by
   unfold K9;rw[aG,decide_eq_true_eq]
   constructor
   .rintro⟨h1,h2⟩;exact⟨h2,M43.1 (by rw[<- hN v w O2 (by simp[h2])];exact h1)⟩
   .rintro⟨h1,h2⟩;exact⟨by rw[hN v w O2 (by simp[h1])];exact M43.2 h2,h1⟩
  have hb:R10 es (Q1 (K9 N v rest) n ||| 2^v)=true<->∃ e ∈ es,e.testBit v=true/\∀ w ∈ rest,N10 es v w->e.testBit w=true:=by
   rw[K58]
   constructor
   .rintro⟨e,h1,h2⟩
    refine⟨e,h1,h2 v (by rw[aV,Nat.testBit_two_pow_self,Bool.or_true]),fun w hw ha=>h2 w ?_⟩;rw[aV,E26,(J w).2 ⟨hw,ha⟩,decide_eq_true (hlt w (by simp[hw]))];rfl
   .rintro⟨e,h1,h2,h3⟩
    refine⟨e,h1,fun w hw => ?_⟩;rw[aV,E26,aR,cO,aG] at hw;rcases hw with ⟨_,hw⟩ | hw
    .exact h3 w ((J w).1 hw).1 ((J w).1 hw).2
    .have:=of_decide_eq_true hw;subst this;exact h2
  have Q:(∃ e ∈ es,e.testBit v=true/\∀ w ∈ rest,N10 es v w->e.testBit w=true)->∀ a b,a ∈ rest->b ∈ rest->U9 N v rest a b=adj es a b:=by
   rintro⟨e,h1,h2,h3⟩ a b ha hb;have h0:=hN a b (by simp[ha]) (by simp[hb]);unfold U9;rw[h0]
   by_cases hx:decide (a≠b)&&(K9 N v rest a&&K9 N v rest b)
   .simp only[aG,decide_eq_true_eq] at hx
    obtain⟨x1,x2,x3⟩:=hx;have:adj es a b=true:=M43.2 ⟨x1,e,h1,h3 a ha ((J a).1 x2).2,h3 b hb ((J b).1 x3).2⟩;rw[this];rfl
   .rw[bN.2 hx,Bool.or_false]
  have ih:(∃ e ∈ es,e.testBit v=true/\∀ w ∈ rest,N10 es v w->e.testBit w=true)->(V35 es n (U9 N v rest) rest=true<->PEl es rest):=fun h=>Y115 O hnd.2 (fun w hw=>hlt w (by simp[hw])) (Q h)
  rw[V35,aG,hb,PEl]
  constructor
  .rintro⟨h1,h2⟩;exact⟨fun _=>h1,(ih h1).1 h2⟩
  .rintro⟨h1,h2⟩;exact⟨h1 (O v hv),(ih (h1 (O v hv))).2 h2⟩
def SrP(es:List Nat)(n f:Nat)(p:List Nat):Prop:=∃ q:List Nat,IsP n f (p++q)/\PEl es (p++q++dnL f)
theorem U117{p:List Nat}(E:p.Nodup)(hp:∀ x ∈ p,f<=x/\x<n)(hl:p.length=n-f):IsP n f p:=by
 refine⟨E,fun v=>⟨hp v,fun hv=>aI fun h => ?_⟩⟩;have h1:(v :: p).Nodup:=hO.2 ⟨h,E⟩;have h2:=iB (l₂:=List.range' f (n-f)) h1 fun x hx=>by
  rw[List.mem_range'_1];rcases aU.1 hx with rfl | hx
  .omega
  .have:=hp x hx;omega
 rw[List.length_range',cV] at h2;omega
theorem Y121(h:IsP n f p):SrP es n f p<->PEl es (p++dnL f):=by
 constructor
 .rintro⟨q,h1,h2⟩
  have h3:=h1.len;have h4:=h.len;rw[bH] at h3;have:q=[]:=dT.1 O0;subst this;rwa [gV] at h2
 .intro h2
  exact⟨[],by rwa [gV],by rwa [gV]⟩
theorem Z118(hl:p.length<n-f):SrP es n f p<->∃ v,f<=v/\v<n/\v ∉ p/\SrP es n f (p++[v]):=by
 constructor
 .rintro⟨q,h1,h2⟩
  cases q with
  | nil=>
   have:=h1.len;rw[gV] at this;omega
  | cons v q=>
   have h3:=(h1.mem v).1 O2;have h4:=h1.nd;rw[gT] at h4;refine⟨v,h3.1,h3.2,fun hv=>h4.2.2 v hv v O2 rfl,q,by simpa using h1,by simpa using h2⟩
 .rintro⟨v,_,_,_,q,h1,h2⟩
  exact⟨v :: q,by simpa using h1,by simpa using h2⟩
theorem X116(f:Nat):∀ i,i<=f->∀ x ∈ R6 f i,0<=x
 | 0,_,x,hx=>by simp[R6] at hx
 | i+1,h,x,hx=>by
  rw[R6,dN] at hx;rcases hx with hx | hx
  .exact X116 f i O0 x hx
  .simp at hx;omega
theorem G118(f:Nat):R6 f f=(dnL f).map fun(x:Nat)=>(x:Int):=by
 rw[<- C57,List.map_map];refine Eq.trans (List.map_id _).symm (List.map_congr_left fun x hx => ?_);have:=X116 f f (aD _) x hx;simp only[Function.comp,id];omega
theorem B120{H:Y0}{nx:Nat}{P:Option Addr}{p:List Nat}{E:Nat}{v:Nat}{k:EP}(hP:Sl H nx P (U4 (p.map fun(x:Nat)=>(x:Int))))(h0:Has H nx P)(hl:p.length<=100)(hk:∀ B H' nx',Sl H' nx' B (U4 ((p++[v]).map fun(x:Nat)=>(x:Int)))->Has H' nx' B->D0 H nx H' nx'->B≠none->k (.slice B (p++[v]).length (p++[v]).length) H' nx'):
  (K6 0 1 [O8 0] [] fun a3=>B5 (.slice (some ⟨nx,0,none⟩) 0 0) (.slice P p.length E) 1 8 (hs H nx (O7 a3)) (nx+1) fun a1 H7 J=>
   K6 1 1 [O8 0] [(0,O8 (v:Int))] fun a2=>B5 a1 (.slice (some ⟨J,0,none⟩) 1 1) 1 8 (hs H7 J (O7 a2)) (J+1) k):=by
 simp(disch:=try exact O3)only[U21];have hX:D0 H nx (hs H nx (O7 [])) (nx+1):=(D0.refl H nx).nw _;have W:=C27 (size:=1) (m:=p.length) (cap:=E) (hP.ext hX) (h0.ext hX) (by rw[J6,eQ]) O0;refine R20 (lo:=nx) (H0:=H) (Z11 _ _ _) (aD _) O0 W (K13 _) O0 O0 hX ?_;intro v1 H1 O _ a4 Z;have a0:∀(x:Int) k,K6 1 1 [O8 0] [(0,O8 x)] k=k [O8 x]:=fun x k=>rfl
 rw[a0];have Q:D0 H1 O (hs H1 O (O7 [O8 (v:Int)])) (O+1):=(D0.refl _ _).nw _;have a6:=Z.le;refine K38 (H0:=H) (lo:=nx) (y:=O8 (v:Int)) (a4.ext Q) (J9 (Z11 _ _ _) rfl O0) rfl O0 (by rw[J6];omega) (Z.trans Q) O0 ?_;intro v' H' V a5 _;have e:U4 ((p++[v]).map fun(x:Nat)=>(x:Int))=U4 (p.map fun(x:Nat)=>(x:Int))++[O8 (v:Int)]:=by simp[U4]
 rw[<- e] at V;obtain⟨B,rfl,U,hB⟩:=V.sl;rw[J6];refine hk B _ _ U hB a5 fun h => ?_
 subst h;obtain⟨b,o,row,e,_⟩:=U.open (i:=0) (by rw[J6];simp)
 cases e
theorem W119{n f:Nat}(hn:n<=6)(hf:f<=n)(A:Option Addr)(es:List Nat)(cap:Nat)(aa:∀ e ∈ es,e<2^n)(ad:es.length<=8)(Z:∀ v,v<n->Q21 es v):∀(k:Nat) (p:List Nat) (P:Option Addr) (Q:Nat) (H:Y0) (nx:Nat),p.length+k=n-f->p.Nodup->(∀ x ∈ p,f<=x/\x<n) ->
  Sl H nx A (K12 es)->Sl H nx P (U4 (p.map fun(x:Nat)=>(x:Int)))->Has H nx P ->
  Q2 gQ 56 [.slice A es.length cap,O8 (n:Int),O8 (f:Int),.slice P p.length Q] H nx fun r H' nx'=>(∃ c:Bool,r = .bool c/\(c=true<->SrP es n f p))/\D0 H nx H' nx':=by
 intro k
 induction k with
 | zero=>
  intro p P Q H nx hl a3 hp hS hP h0;have a5:=U117 a3 hp O0;have V:(p++dnL f).Nodup:=W118 hn aa ad Z hf a5;have E:∀ w,w ∈ p++dnL f<->w<n:=fun w=>by rw[dN,a5.mem,K22];omega
  have a4:(p++dnL f).length=n:=by
   have:=Y17 f f;rw[bH,<- C57,gM,this];omega
  have a7:p.map (fun(x:Nat)=>(x:Int))++R6 f f=(p++dnL f).map fun(w:Nat)=>(w:Int):=by
   rw[List.map_append,G118]
  have d1:decide ((p.length:Int)=(n:Int)-(f:Int))=true:=by simp;omega
  refine spec56 ?_;unfold F56;simp(disch:=try exact O3)only[W0,Q0.val,d1];have h:=Q120 (n:=n) (f:=f) O0 hf A es cap P (p.map fun(x:Nat)=>(x:Int)) Q (p++dnL f) H nx hS aa O0 hP h0 (by rw[gM];omega) a7 V (fun w hw=>(E w).1 hw) a4;rw[gM] at h;refine R0 h ?_;rintro _ H1 ap ⟨rfl,hE⟩;refine⟨⟨_,rfl,?_⟩,hE⟩;rw[Y121 a5];exact Y115 Z V (fun w hw=>(E w).1 hw) fun a b _ _=>rfl
 | succ k ih=>
  intro p P Q H nx hl a3 hp hS hP h0;have d1:decide ((p.length:Int)=(n:Int)-(f:Int))=false:=by simp;omega
  refine spec56 ?_;unfold F56;simp(disch:=try exact O3)only[W0,Q0.val,d1];refine B1 (m:=n-f) (fun m L H' nx'=>∃ i:Nat,m+i=n/\f<=i/\L=[O8 (i:Int)]/\(∀ v,f<=v->v<i->v ∉ p->¬ SrP es n f (p++[v]))/\D0 H nx H' nx') ?_ ⟨f,O0,aD _,rfl,fun v h1 h2=>O0,D0.refl _ _⟩;rintro m al L H2 nx2 ⟨i,hm,ae,rfl,a2,O⟩ a8
  by_cases hi:i<n
  case neg=>
   have a1:¬ (i:Int)<(n:Int):=O0;simp(disch:=try exact O3)only[W0,a1];refine⟨⟨false,rfl,fun h=>(by cases h),fun h => ?_⟩,O⟩;obtain⟨v,h1,h2,h3,h4⟩:=(Z118 O0).1 h;exact absurd h4 (a2 v h1 O0 h3)
  have a1:(i:Int)<(n:Int):=O0;have ak:=O.le;simp(disch:=try exact O3)only[W0,a1];refine B1 (m:=p.length) (fun m L H' nx'=>∃ j:Nat,m+j=p.length/\L=[.bool (decide (i ∈ p.take j)),O8 (j:Int)]/\H2=H'/\nx2=nx') ?_ ⟨0,O0,O2,rfl,rfl⟩;rintro m3 aq L3 _ _ ⟨j,ao,rfl,rfl,rfl⟩ a0
  by_cases hj:j<p.length
  .have U:(j:Int)<(p.length:Int):=O0
   obtain⟨x,hx⟩:∃ x,p[j]? = some x:=⟨_,aE hj⟩
   have ag:(p.map fun(x:Nat)=>(x:Int))[j]? = some (x:Int):=by rw[cP,hx];rfl
   obtain⟨b,o,row,rfl,hb,a9,a6⟩:=(hP.ext O).open (i:=j) (by rw[J6];omega);have g0:=a6 _ _ (Z9 ag);have J:decide (i ∈ p.take (j+1))=(decide (i ∈ p.take j) || decide ((x:Int)=(i:Int))):=by
    rw[C7 hx,eX];simp only[dN,dJ,decide_eq_true_eq,cO];exact or_congr Iff.rfl ⟨fun e=>by rw[e],fun e=>(Int.ofNat.inj e).symm⟩
   cases hc:decide (i ∈ p.take j) with
   | true=>
    rw[hc,Bool.true_or] at J;simp(disch:=try exact O3)only[W0,U,N13];exact a0 (m3-1) _ _ _ O0 ⟨j+1,O0,by rw[J];simp,rfl,rfl⟩
   | false=>
    rw[hc,Bool.false_or] at J;simp(disch:=try exact O3)only[W0,U,N13,X3 a9,g0];exact a0 (m3-1) _ _ _ O0 ⟨j+1,O0,by rw[J];simp,rfl,rfl⟩
  have U:¬ (j:Int)<(p.length:Int):=O0;rw[gJ O0]
  by_cases E:i ∈ p
  .simp(disch:=try exact O3)only[W0,U,N13,decide_eq_true E]
   refine a8 (m-1) _ _ _ O0 ⟨i+1,O0,O0,O2,fun v h1 h2 h3 => ?_,O⟩
   by_cases e:v=i
   .subst e;exact absurd E h3
   .exact a2 v h1 O0 h3
  simp(disch:=try exact O3)only[W0,U,N13,decide_eq_false E];refine B120 (hP.ext O) (h0.ext O) O0 fun B H5 aj ah hB ab _ => ?_
  have ac:(p++[i]).Nodup:=by
   rw[gT];exact⟨a3,O2,fun a ha b hb e=>by simp at hb;subst hb;subst e;exact E ha⟩
  refine R0 (ih (p++[i]) B (p++[i]).length H5 aj O5 ac (fun x hx => ?_) (hS.ext (O.trans ab)) ah hB) ?_
  .rcases dN.1 hx with hx | hx
   .exact hp x hx
   .simp at hx;omega
  rintro _ H6 an ⟨⟨c,rfl,hc⟩,ai⟩;have W:=(O.trans ab).trans ai
  cases c with
  | true=>
   simp(disch:=try exact O3)only[W0];exact⟨⟨true,rfl,fun _=>(Z118 O0).2 ⟨i,ae,hi,E,hc.1 rfl⟩,fun _=>rfl⟩,W⟩
  | false=>
   simp(disch:=try exact O3)only[W0];refine a8 (m-1) _ _ _ O0 ⟨i+1,O0,O0,O2,fun v h1 h2 h3 => ?_,W⟩
   by_cases e:v=i
   .subst e;intro h4;have:=hc.2 h4;cases this
   .exact a2 v h1 O0 h3
theorem E117{n f:Nat}(hn:n<=6)(hf:f<=n)(A:Option Addr)(es:List Nat)(cap:Nat)(O:∀ e ∈ es,e<2^n)(Q:es.length<=8)(E:∀ v,v<n->Q21 es v)(H:Y0)(nx:Nat)(hS:Sl H nx A (K12 es)):
  Q2 gQ 23 [.slice A es.length cap,O8 (n:Int),O8 (f:Int)] H nx fun r H' nx'=>(∃ c:Bool,r = .bool c/\(c=true<->U78 es n f))/\D0 H nx H' nx':=by
 refine spec23 ?_;unfold F23;refine R0 (W119 hn hf A es cap O Q E (n-f) [] none 0 H nx O2 List.nodup_nil (fun x h=>by simp at h) hS (Sl.nil _ _ _) (.inl rfl)) ?_;rintro _ H1 U ⟨⟨c,rfl,hc⟩,hE⟩;simp(disch:=try exact O3)only[W0];refine⟨⟨c,rfl,hc.trans ?_⟩,hE⟩;have J:∀ v,Q21 es v<->v<n:=fun v=>⟨fun⟨e,h1,h2⟩=>R7 (O e h1) h2,E v⟩
 unfold U78;rw[<- K113 hf J]
 constructor
 .rintro⟨q,h1,h2⟩;exact⟨q,h1.nd,h1.mem,h2⟩
 .rintro⟨q,h1,h2,h3⟩;exact⟨q,⟨h1,h2⟩,h3⟩
end
end Go.Proofs.YtoiioigihocgbaaGreatDoor
namespace Go.Clo
section
variable {H H':Y0} {M:Nat->Option Value} {r:Nat}
def D4(H:Y0)(r:Nat)(M:Nat->Option Value):Prop:=∃ es c,J0 H r=some (.map es c)/\(∀ x ∈ es,MapKept.IsKey (.int .i64) x.key) /\
 (∀(i j:Nat) (x y:MapEntry),es[i]? = some x->es[j]? = some y->x.key=y.key->i=j)/\∀(n:Nat) (v:Value),M n=some v<->∃ x ∈ es,x.key = .int .i64 (n:Int)/\x.val=v
theorem D4.same(h:D4 H r M)(e:J0 H' r=J0 H r):D4 H' r M:=by
 obtain⟨es,c,h1,h2,h3,h4⟩:=h;exact⟨es,c,by rw[e];exact h1,h2,h3,h4⟩
theorem D4.ext{nx:Nat}{nx':Nat}(h:D4 H r M)(hr:r<nx)(e:D0 H nx H' nx'):D4 H' r M:=h.same (e.get r hr)
theorem D4.congr{M':Nat->Option Value}(h:D4 H r M)(e:∀ n,M' n=M n):D4 H r M':=by rw[show M'=M from funext e];exact h
theorem D4.nil{c:Nat}(h:J0 H r=some (.map [] c)):D4 H r fun _=>none:=⟨[],c,h,O2,O2,O2⟩
theorem D4.find{es:List MapEntry}{M:Nat->Option Value}(h2:∀ x ∈ es,MapKept.IsKey (.int .i64) x.key)(h3:∀(i j:Nat) (x y:MapEntry),es[i]? = some x->es[j]? = some y->x.key=y.key->i=j)(h4:∀(n:Nat) (v:Value),M n=some v<->∃ x ∈ es,x.key=O8 (n:Int)/\x.val=v)(n:Nat):
  (M n=none/\dP (.int .i64) (O8 (n:Int)) es 0=some none/\∀ x ∈ es,x.key≠O8 (n:Int))\/∃ j e,M n=some e.val/\dP (.int .i64) (O8 (n:Int)) es 0=some (some (j,e.val))/\es[j]? = some e/\e.key=O8 (n:Int):=by
 rcases MapKept.findNow_spec (d := .int .i64) (k:=O8 (n:Int)) rfl es 0 h2 with ⟨h,hn⟩ | ⟨j,e,h,hj,hk⟩
 .refine .inl ⟨?_,h,hn⟩
  cases hM:M n with
  | none=>rfl
  | some v=>
   obtain⟨x,hx,E,_⟩:=(h4 n v).1 hM;exact absurd E (hn x hx)
 .refine .inr ⟨j,e,(h4 n _).2 ⟨e,aH hj,hk,rfl⟩,?_,hj,hk⟩
  rw[h,cF]
theorem D4.lk{r:Nat}{M:Nat->Option Value}(h:D4 H r M)(n:Nat)(z:Value)(ok:Bool)(k:VP):
  wLk (.int .i64) z (.map (some r)) (O8 (n:Int)) ok H k=(M n).elim (cond ok (k (.tuple ⟨[z,.bool false]⟩)) (k z)) fun v=>cond ok (k (.tuple ⟨[v,.bool true]⟩)) (k v):=by
 obtain⟨es,c,h1,h2,h3,h4⟩:=h;unfold wLk;rw[show Q9 (.int .i64) (O8 (n:Int))=true from rfl];simp only[cond_true];rw[Y4,h1];simp only[aN];rcases D4.find h2 h3 h4 n with ⟨hM,hf,_⟩ | ⟨j,e,hM,hf,_⟩
 .rw[hf,hM];rfl
 .rw[hf,hM];rfl
theorem D4.lkN'{M:Nat->Option Value}(h:D4 H r M){n:Nat}(hn:M n=none)(z:Value)(k:VP):wLk (.int .i64) z (.map (some r)) (O8 (n:Int)) false H k=k z:=by
 rw[h.lk,hn];rfl
theorem D4.lkS'{M:Nat->Option Value}(h:D4 H r M){n:Nat}{v:Value}(hn:M n=some v)(z:Value)(k:VP):wLk (.int .i64) z (.map (some r)) (O8 (n:Int)) false H k=k v:=by
 rw[h.lk,hn];rfl
theorem M31{n m:Nat}(h:cD .i64 (n:Int)=O8 (m:Int)):n=m:=by
 injection h with _ h;omega
theorem D4.put{nx r:Nat}{M:Nat->Option Value}(h:D4 H r M)(n:Nat)(v:Value){k:EP}(hk:∀ es c,D4 (hs H r (some (.map es c))) r (fun t=>if t=n then some v else M t)->k undef (hs H r (some (.map es c))) nx):
  W56 (.int .i64) (.map (some r)) (O8 (n:Int)) v H nx k:=by
 obtain⟨es,c,h1,h2,h3,h4⟩:=h;unfold W56;dsimp only;rw[Y4,h1];simp only[aN,G52];rw[show Q9 (.int .i64) (O8 (n:Int))=true from rfl];rcases D4.find h2 h3 h4 n with ⟨hM,hf,V⟩ | ⟨j,e,hM,hf,hj,U⟩
 .rw[hf]
  simp only[cond_true];rw[V14,G1,G4];refine hk _ _ ⟨_,_,Z11 _ _ _,?_,?_,fun t u => ?_⟩
  .intro x hx
   rcases dN.1 hx with hx | hx
   .exact h2 x hx
   .rw[dJ.1 hx];rfl
  .intro i j x y hx hy O
   rw[List.getElem?_append] at hx hy
   split at hx<;>split at hy
   .exact h3 i j x y hx hy O
   .have Z:y={ key:=O8 (n:Int),val:=v,born:=c }:=by
     have:=aH hy;simpa using this
    rw[Z] at O;exact absurd O (V x (aH hx))
   .have a1:x={ key:=O8 (n:Int),val:=v,born:=c }:=by
     have:=aH hx;simpa using this
    rw[a1] at O;exact absurd O.symm (V y (aH hy))
   .have h5:=(aJ.1 hx).1
    have h6:=(aJ.1 hy).1;simp at h5 h6;omega
  .by_cases Q:t=n
   .subst Q
    dsimp only;rw[if_pos rfl]
    constructor
    .intro hu
     cases hu
     exact⟨_,List.mem_append_right _ (dJ.2 rfl),rfl,rfl⟩
    .rintro⟨x,hx,E,J⟩
     rcases dN.1 hx with hx | hx
     .exact absurd E (V x hx)
     .rw[dJ.1 hx] at J
      rw[<- J]
   .dsimp only
    rw[if_neg Q,h4]
    constructor
    .rintro⟨x,hx,h⟩
     exact⟨x,dX _ hx,h⟩
    .rintro⟨x,hx,E,J⟩
     rcases dN.1 hx with hx | hx
     .exact⟨x,hx,E,J⟩
     .rw[dJ.1 hx] at E
      exact absurd (M31 E).symm Q
 .rw[hf]
  simp only[cond_true];rw[Q8,hj];simp only;rw[V14,G4,K25];have W:=(aJ.1 hj).1;refine hk _ _ ⟨_,_,Z11 _ _ _,?_,?_,fun t u => ?_⟩
  .intro x hx
   rcases List.mem_or_eq_of_mem_set hx with hx | rfl
   .exact h2 x hx
   .rfl
  .intro i i' x y hx hy O
   rw[cQ] at hx hy
   split at hx<;>split at hy
   .omega
   .rename_i g1 g2
    try rw[if_pos O0] at hx
    cases hx
    have:=h3 j i' e y hj hy (U.trans O);omega
   .rename_i g1 g2
    try rw[if_pos O0] at hy
    cases hy
    have:=h3 i j x e hx hj (O.trans U.symm);omega
   .exact h3 i i' x y hx hy O
  .by_cases Q:t=n
   .subst Q
    dsimp only;rw[if_pos rfl]
    constructor
    .intro hu
     cases hu
     exact⟨_,List.mem_set W _,rfl,rfl⟩
    .rintro⟨x,hx,E,J⟩
     obtain⟨i,hi⟩:=cH hx;rw[cQ] at hi
     split at hi
     .try rw[if_pos O0] at hi
      cases hi
      rw[<- J]
     .rename_i g
      exact absurd (h3 j i e x hj hi (U.trans E.symm)) g
   .dsimp only
    rw[if_neg Q,h4]
    constructor
    .rintro⟨x,hx,E,J⟩
     obtain⟨i,hi⟩:=cH hx;have a0:j≠i:=by
      rintro rfl;rw[hj] at hi
      cases hi
      exact Q (M31 (E.symm.trans U))
     refine⟨x,aH (i:=i) ?_,E,J⟩;rw[cQ,if_neg a0];exact hi
    .rintro⟨x,hx,E,J⟩
     obtain⟨i,hi⟩:=cH hx;rw[cQ] at hi
     split at hi
     .try rw[if_pos O0] at hi
      cases hi
      exact absurd (M31 E).symm Q
     .exact⟨x,aH hi,E,J⟩
theorem D4.clr(h:D4 H r M){k:Y0->Prop}(hk:∀ c,D4 (hs H r (some (.map [] c))) r (fun _=>none)->k (hs H r (some (.map [] c)))):M41 (.map (some r)) H k:=by
 obtain⟨es,c,h1,h2,h3,h4⟩:=h;unfold M41;dsimp only;rw[Y4,h1];simp only[aN];rw[G4];exact hk _ (D4.nil (Z11 _ _ _))
end
end Go.Clo
