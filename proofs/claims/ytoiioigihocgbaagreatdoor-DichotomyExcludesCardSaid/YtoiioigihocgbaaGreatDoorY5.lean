/-
Plain elimination;the program's Bags (texts of chapter 30,by name).
-/
import Derived.Test.YtoiioigihocgbaaGreatDoorY4
import Derived.KernelRfl
import Derived.Test.YtoiioigihocgbaaGreatDoorY2
import Derived.RangeFuncCalls
import Derived.Test.YtoiioigihocgbaaGreatDoorY1
set_option maxHeartbeats 8000000
set_option maxRecDepth 100000
set_option linter.all false
noncomputable section
open Array renaming replicate->fN
open BitVec renaming ofInt->cT,toNat_ofNat->eP
open Bool renaming and_eq_true->aG,eq_false_iff->bN,eq_iff_iff->eX,not_eq_true'->cJ,or_eq_true->cO,true_and->iA
open Classical renaming byContradiction->aI,propDecidable->fJ
open Go.IntKind renaming bits->dW,signed->eK,u32->eW,wrap->eY
open Go.Proofs.Tryz renaming prog->gQ
open Go.Value renaming bool->dU,int->cD
open Int renaming toNat_natCast->gR
open List renaming all_eq_true->iE,any_eq_true->dY,append_nil->gV,drop_of_length_le->cM,foldl_cons->dF,getD_eq_getElem?_getD->aP,getElem?_append_left->bQ,getElem?_append_right->bS,getElem?_cons_succ->dK,getElem?_drop->dB,getElem?_eq_getElem->aE,getElem?_eq_none->aT,getElem?_eq_some_iff->aJ,getElem?_map->cP,getElem?_of_mem->cH,getElem?_set->cQ,getElem?_take->aX,getElem_of_mem->gL,length_append->bH,length_cons->cV,length_eq_zero_iff->dT,length_filter_lt_length_iff_exists->fG,length_map->gM,length_set->dO,length_singleton->gU,length_take->cK,mem_append->dN,mem_append_left->dX,mem_cons->aU,mem_cons_of_mem->eJ,mem_filter->dA,mem_map->gN,mem_of_getElem?->aH,mem_of_mem_drop->fO,mem_range->cW,mem_singleton->dJ,nil_append->eR,nodup_append->gT,nodup_cons->hO,pairwise_iff_getElem->fD,range->aY,replicate->aF,take_of_length_le->gJ
open List.Nodup renaming length_le_of_subset->iB
open List.cons renaming injEq->fM
open Nat renaming add_assoc->eH,add_zero->eM,beq->bR,ble->dD,eq_of_testBit_eq->bZ,le_refl->aD,le_trans->bK,lt_of_le_of_lt->iF,lt_of_lt_of_le->aO,mod_eq_of_lt->bV,mod_lt->eZ,mul_le_mul->eL,mul_one->eQ,pow_le_pow_right->aK,shiftRight_eq_div_pow->eO,testBit_and->bI,testBit_lt_two_pow->dV,testBit_or->aV,testBit_two_pow->aR,testBit_two_pow_sub_one->dC,two_pow_pos->aQ,zero_add->cF,zero_testBit->jQ
open Ne renaming symm->eT
open Option renaming elim_some->aN,isSome_none->gO,map_eq_some_iff->bU
open Option.some renaming inj->fA
open Rat renaming mul_nonneg->fY
namespace Go.Proofs.YtoiioigihocgbaaGreatDoor
open Go.Clo
section
variable {H:Y0} {a i n o top u v x:Nat} {l rest:List Nat}
theorem N25{p q:Nat->Bool}(h:∀ w,w<n->p w=q w):Q1 p n=Q1 q n:=by
 apply bZ;intro i;rw[E26,E26]
 by_cases hi:i<n
 .rw[h i hi]
 .simp[hi]
abbrev Nb:=Nat->Nat->Bool
def K9(N:Nb)(v:Nat)(rest:List Nat)(w:Nat):Bool:=N v w&&decide (w ∈ rest)
def U9(N:Nb)(v:Nat)(rest:List Nat):Nb:=fun a b=>N a b || (decide (a≠b)&&(K9 N v rest a&&K9 N v rest b))
def Y61(N:Nb)(v:Nat)(rest:List Nat):Int:=match rest.find? (N v) with
 | some w=>(w:Int)
 | none => -1
def J82(n:Nat)(N:Nb)(v:Nat)(rest:List Nat):Bag:=⟨v,Q1 (K9 N v rest) n,Y61 N v rest⟩
def Y72(n:Nat):List Bag->Nb->List Nat->List Bag
 | out,_,[]=>out
 | out,N,v :: rest=>Y72 n (out.set v (J82 n N v rest)) (U9 N v rest) rest
theorem V94(n:Nat):∀(E:List Nat) (out:List Bag) (N:Nb),(Y72 n out N E).length=out.length
 | [],_,_=>rfl
 | v :: rest,out,N=>by rw[Y72,V94 n rest];simp
theorem R19{n:Nat}(hn:n<=32)(p:Nat->Bool):Q1 p n<4294967296:=
 aO (G11 p n) (bK (aK O0 hn) (by decide))
theorem M27{n:Nat}(hn:n<=1000000)(z:List Value)(k:List Value->Nat->Nat->Prop):D30 (O8 (n:Int)) (O8 (n:Int)) z k=k (Q19 z n) n n:=by
 show cond (dD n n&&dD n 1000000) (Go.Clo.spine (Q19 z n) fun cs=>k cs n n) False=_;rw[V6 (aD n),V6 hn,V14];rfl
theorem C23:∀ n:Nat,Q19 [O9 0] n=K12 (aF n 0)
 | 0=>rfl
 | n+1=>by rw[Q19,C23 n];rfl
def G50:Bag:=⟨0,0,0⟩
theorem Z89:∀ n:Nat,Q19 [O8 0,O9 0,O8 0] n=R34 (aF n G50)
 | 0=>rfl
 | n+1=>by rw[Q19,Z89 n];rfl
theorem Z92{b:Bag}:∀ {bs:List Bag} {v:Nat},v<bs.length->B12 (R34 bs) (v*3) (W73 b)=R34 (bs.set v b)
 | [],v,h=>by simp at h
 | c :: bs,0,h=>by simp[R34,B12,W73]
 | c :: bs,v+1,h=>by
  have ih:=Z92 (b:=b) (bs:=bs) (v:=v) (by simpa using h);have e1:R34 (c :: bs)=W73 c++R34 bs:=rfl;have e2:R34 ((c :: bs).set (v+1) b)=W73 c++R34 (bs.set v b):=rfl;have e3:(v+1)*3=3+v*3:=O0;rw[e1,e2,<- ih,e3];unfold B12;have hc:(W73 c).length=3:=rfl;rw[List.take_append,List.drop_append,hc,gJ (by rw[hc];omega),List.drop_eq_nil_of_le (by rw[hc];omega)];have a1:3+v*3-3=v*3:=O0;have a2:3+v*3+(W73 b).length-3=v*3+(W73 b).length:=O0;rw[a1,a2];simp
theorem Z19{α:Type}{l:List α}{x:α}(h:l[i]? = some x):l.drop i=x :: l.drop (i+1):=by
 have hi:=N12 h;rw[List.drop_eq_getElem_cons hi];congr 1;exact(aJ.mp h).2
theorem Q44(E:l.Nodup)(h:l[i]? = some x):x ∉ l.drop (i+1):=by
 have h1:(l.drop i).Nodup:=E.sublist (List.drop_sublist _ _);rw[Z19 h] at h1;exact(hO.mp h1).1
structure Z44 (N:Nb):Prop where
 symm:∀ a b,N a b=N b a
 irr:∀ a,N a a=false
theorem Y70(es:List Nat):Z44 (adj es):=⟨Z43 es,E43 es⟩
theorem Y66{N:Nb}(h:Z44 N)(v:Nat)(rest:List Nat):Z44 (U9 N v rest):=by
 refine⟨fun a b => ?_,fun a => ?_⟩
 .unfold U9
  rw[h.symm a b,Bool.and_comm (K9 N v rest a)];have:decide (a≠b)=decide (b≠a):=by congr 1;apply propext;exact ne_comm
  rw[this]
 .simp[U9,h.irr]
theorem G105{N:Nb}(h:Z44 N)(v n:Nat)(rest:List Nat):Q1 (K9 N v (v :: rest)) n=Q1 (K9 N v rest) n:=
 N25 fun w _=>by
  unfold K9
  by_cases hw:w=v
  .subst hw;simp[h.irr]
  .simp[hw]
theorem K107{N:Nb}(h:Z44 N){v:Nat}(hu:u ∈ rest)(hk:K9 N v rest u=false):Q1 (K9 N u (v :: rest)) n=Q1 (K9 (U9 N v rest) u rest) n:=
 N25 fun w _=>by
  have E:N v u=false:=by simpa [K9,hu] using hk
  have J:N u v=false:=by rw[h.symm];exact E
  simp only[K9,U9,E,aU,Bool.false_and,Bool.and_false,Bool.or_false]
  by_cases hw:w=v
  .subst hw;simp[J]
  .simp[hw]
theorem N107{N:Nb}(h:Z44 N){v:Nat}(Q:v ∉ rest)(hk:K9 N v rest u=true):
  Z2 (Q1 (K9 N u (v :: rest)) n ||| Q1 (K9 N v rest) n) (2^u ||| 2^v)=Q1 (K9 (U9 N v rest) u rest) n:=by
 apply bZ;intro w;rw[N1,aV,aV,E26,E26,E26,aR,aR];have U:=hk;simp only[K9,aG,decide_eq_true_eq] at U
 by_cases E:w<n
 .simp only[E,decide_true,iA]
  by_cases O:w=u
  .subst O
   simp[K9,U9,h.irr]
  .have e1:decide (u=w)=false:=by simp;omega
   have e3:decide (u≠w)=true:=by simp;omega
   by_cases J:w=v
   .subst J
    simp[K9,Q]
   .have e2:decide (v=w)=false:=by simp;omega
    simp only[e1,e2,Bool.or_false,Bool.not_false,Bool.and_true];simp only[K9,U9,e3,aU,J,false_or,iA];have:(N v u&&decide (u ∈ rest))=true:=hk;rw[this,iA]
    cases decide (w ∈ rest)<;>simp
 .simp[E]
def R99(N:Nb)(v:Nat)(E rest:List Nat)(u:Nat)(par:Int):Prop:=
 (par = -1/\∀ w,w<u->K9 N v rest w=false)\/∃ p jp:Nat,par=p/\E[jp]? = some p/\K9 N v rest p=true/\∀ w jw:Nat,w<u->E[jw]? = some w->K9 N v rest w=true->jp<=jw
theorem B43(h:l.Nodup){j:Nat}(hi:l[i]? = some x)(hj:l[j]? = some x):i=j:=by
 rcases Nat.lt_trichotomy i j with hl | he | hg
 .have:=(fD.mp h) i j (N12 hi) (N12 hj) hl
  exact absurd (by rw[(aJ.mp hi).2,(aJ.mp hj).2]) this
 .exact he
 .have:=(fD.mp h) j i (N12 hj) (N12 hi) hg
  exact absurd (by rw[(aJ.mp hi).2,(aJ.mp hj).2]) this
theorem D107{N:Nb}{E:List Nat}{par:Int}(a0:E.Nodup)(a2:∀ w ∈ E,w<n)(h:R99 N v E (E.drop (i+1)) n par):par=Y61 N v (E.drop (i+1)):=by
 unfold Y61
 cases hf:(E.drop (i+1)).find? (N v) with
 | none=>
  rw[List.find?_eq_none] at hf;rcases h with ⟨h,_⟩ | ⟨p,jp,_,_,hk,_⟩
  .exact h
  .simp only[K9,aG,decide_eq_true_eq] at hk
   exact absurd hk.1 (hf p hk.2)
 | some w0=>
  obtain⟨a4,t,ht,V,J⟩:=List.find?_eq_some_iff_getElem.mp hf;have h0:E[i+1+t]? = some w0:=by
   rw[<- V,<- dB];exact aE ht
  have O:w0 ∈ E.drop (i+1):=V ▸ List.getElem_mem ht;have U:K9 N v (E.drop (i+1)) w0=true:=by simp[K9,a4,O]
  have Q:=a2 w0 (fO O);rcases h with ⟨_,h⟩ | ⟨p,jp,rfl,a3,hk,Z⟩
  .rw[h w0 Q] at U;cases U
  .have a6:=Z w0 _ Q h0 U
   simp only[K9,aG,decide_eq_true_eq] at hk;obtain⟨s,hs,W⟩:=gL hk.2;have a1:E[i+1+s]? = some p:=by
    rw[<- W,<- dB];exact aE hs
   have hj:=B43 a0 a3 a1
   by_cases a5:s<t
   .have:=J s a5
    rw[W] at this;simp[hk.1] at this
   .have:s=t:=O0
    subst this;rw[<- W,V]
theorem E107:[cD .i64 0,O8 0,O8 0,O8 0,O8 0,O8 0,O8 0,O8 0,O8 0,O8 0,O8 0,O8 0,O8 0,O8 0,O8 0,O8 0,O8 0,O8 0,O8 0,O8 0,O8 0,O8 0,O8 0,O8 0,O8 0,O8 0,O8 0,O8 0,O8 0,O8 0,O8 0,O8 0]=U4 (aF 32 0):=rfl
theorem C107(b:Nat)(k:VP):D90 (.pointer (some ⟨b,0,none⟩)) 32 1 none none none k=k (.slice (some ⟨b,0,none⟩) 32 32):=by
 have e:B26 (some ⟨b,0,none⟩) 32 32 1 none none none false=some (.slice (some ⟨b,0,none⟩) 32 32):=rfl;unfold D90;simp only[e,E7]
theorem Q100{l:List Int}(h:l.length<=32):B12 (U4 (aF 32 0)) 0 (U4 l)=U4 (l++aF (32-l.length) 0):=by
 simp only[B12,U4,List.map_replicate,List.take_zero,eR,List.drop_replicate,List.map_append,gM,cF]
theorem N88{f:Nat}:∀ {m i:Nat},i<m->(R6 f m)[i]? = some ((f:Int)-1-i)
 | 0,i,h=>O0
 | m+1,i,h=>by
  unfold R6
  by_cases hi:i<m
  .rw[bQ (by rw[Y17];exact hi)];exact N88 hi
  .have:i=m:=O0
   subst this;rw[bS (by rw[Y17];omega),Y17];simp
theorem Q77{f:Nat}:∀ {m:Nat} {x:Int},x ∈ R6 f m->∃ i:Nat,i<m/\x=(f:Int)-1-i
 | 0,x,h=>by simp[R6] at h
 | m+1,x,h=>by
  unfold R6 at h;simp only[dN,dJ] at h;rcases h with h | h
  .obtain⟨i,hi,e⟩:=Q77 h;exact⟨i,O0,e⟩
  .exact⟨m,O0,h⟩
theorem R84{f:Nat}:∀ m:Nat,(R6 f m).Nodup
 | 0=>by simp[R6]
 | m+1=>V89 (R84 m) fun h=>by obtain⟨i,hi,e⟩:=Q77 h;omega
theorem R85:∀ {l:List Int},(∀ x ∈ l,0<=x)->l.Nodup->(l.map Int.toNat).Nodup
 | [],_,_=>O2
 | x :: l,h0,h=>by
  rw[hO] at h;rw[List.map_cons,hO];refine⟨fun hm => ?_,R85 (fun y hy=>h0 y (eJ _ hy)) h.2⟩;obtain⟨y,hy,e⟩:=gN.mp hm;have h1:=h0 x List.mem_cons_self;have h2:=h0 y (eJ _ hy);have:y=x:=O0;subst this;exact h.1 hy
theorem J77{l:List Int}{f:Nat}(h:V72 l f n):∃ E:List Nat,(l++R6 f f=E.map fun(w:Nat)=>(w:Int))/\E.Nodup/\(∀ w ∈ E,w<n)/\E.length=n:=by
 obtain⟨h1,h2,h3⟩:=h;have J:∀ x ∈ l++R6 f f,0<=x/\x<n:=by
  intro x hx;rcases dN.mp hx with hx | hx
  .have:=h2 x hx;omega
  .obtain⟨i,hi,e⟩:=Q77 hx;omega
 refine⟨(l++R6 f f).map Int.toNat,?_,R85 (fun x hx=>(J x hx).1) ?_,?_,?_⟩
 .rw[List.map_map]
  conv=>lhs;rw[<- List.map_id (l++R6 f f)]
  exact List.map_congr_left fun x hx=>by have:=(J x hx).1;simp;omega
 .rw[gT]
  exact⟨h3,R84 f,fun a ha b hb e=>by
   subst e;have:=h2 a ha;obtain⟨i,hi,e⟩:=Q77 hb;omega⟩
 .intro w hw
  obtain⟨x,hx,rfl⟩:=gN.mp hw;have:=J x hx;omega
 .simp[Y17];omega
theorem Q58{E:List Nat}{w:Nat}(J:E.Nodup)(O:∀ w ∈ E,w<n)(Q:E.length=n)(hw:w<n):w ∈ E:=by
 refine aI fun h => ?_
 have h1:(w :: E).Nodup:=hO.mpr ⟨h,J⟩;have h2:=iB (l₂:=aY n) h1 fun x hx=>by
  rw[cW];rcases aU.mp hx with rfl | hx
  .exact hw
  .exact O x hx
 simp at h2;omega
def refuse(c:Int):Value := .tuple ⟨[.slice none 0 0,.int .i64 c]⟩
structure M13 (K:Y0) (top a o:Nat) (near:List Nat) (out:List Bag) (H:Y0):Prop where
 near:J0 H a=some (.cells (K12 near) 0)
 out:J0 H o=some (.cells (R34 out) 0)
 same:∀ q,q<top->q≠a->q≠o->J0 H q=J0 K q
theorem M13.setNear{K:Y0}{top a o:Nat}{near:List Nat}{out:List Bag}(h:M13 K top a o near out H)(E:a≠o)(l:List Nat):M13 K top a o l out (hs H a (O7 (K12 l))):=
 ⟨Z11 _ _ _,by rw[gN _];exact h.out,fun q h0 h1 h2=>by rw[Z1 _ h1];exact h.same q h0 h1 h2⟩
theorem M13.setOut{K:Y0}{near:List Nat}{out:List Bag}(h:M13 K top a o near out H)(E:a≠o)(l:List Bag):M13 K top a o near l (hs H o (O7 (R34 l))):=
 ⟨by rw[Z1 _ E];exact h.near,Z11 _ _ _,fun q h0 h1 h2=>by rw[Z1 _ h2];exact h.same q h0 h1 h2⟩
theorem M13.setNew{K:Y0}{near:List Nat}{out:List Bag}(h:M13 K top a o near out H){q:Nat}(hq:top<=q)(ha:a<top)(ho:o<top)(b:Option V3):M13 K top a o near out (hs H q b):=
 ⟨by rw[gN _];exact h.near,by rw[gN _];exact h.out,fun r h0 h1 h2=>by rw[gN _];exact h.same r h0 h1 h2⟩
theorem K109(N0 free:Int)(A:Option Addr)(es:List Nat)(cap:Nat)(P:Option Addr)(l:List Int)(di:Nat)(H:Y0)(nx:Nat)(hS:Sl H nx A (K12 es))(e7:U14 es)(hP:Sl H nx P (U4 l))(dq:Has H nx P)(hl:l.length<=40):
  Q2 gQ 76 [gv N0 A es.length cap,.int .i64 free,.slice P l.length di] H nx fun r H' nx'=>D0 H nx H' nx' /\
   ((Q6 N0 free es≠0/\r=refuse (Q6 N0 free es))\/(∃ n f:Nat,N0=n/\free=f/\f<=n/\n<=32/\Q6 N0 free es=0 /\
    ((¬ V72 l f n/\r=refuse 1)\/(V72 l f n/\∃ E:List Nat,(l++R6 f f=E.map fun(w:Nat)=>(w:Int))/\E.Nodup/\(∀ w ∈ E,w<n)/\E.length=n /\
     ∃ R,r = .tuple ⟨[.slice R n n,.int .i64 0]⟩/\Sl H' nx' R (R34 (Y72 n (aF n G50) (adj es) E))/\∃ o,R=some ⟨o,0,none⟩/\nx<=o/\o<nx'/\J0 H' o=some (.cells (R34 (Y72 n (aF n G50) (adj es) E)) 0))))):=by
 refine spec76 ?_;unfold F76;have d0:D0 H nx (hs H nx (some (.cells [.int .i64 N0,.slice A es.length cap] 0))) (nx+1):=(D0.refl H nx).new _ (aD _) O0;simp(config:={ maxSteps:=2000000 }) (disch:=first | omega | assumption | exact G0 O1 | exact U10 O1 | exact X0 O0 | fail   )only[W0,Z0,Q0.val,C13,E107,Q27];refine R0 (U86 N0 free A es cap _ _ (hS.ext d0) e7) ?_;rintro _ H2 nx2 ⟨rfl,c8⟩;have O:=d0.trans c8;have ao:=c8.get nx O0;rw[Z11] at ao;have ep:=c8.le
 by_cases a6:Q6 N0 free es=0
 case neg=>
  have d1:decide (Q6 N0 free es≠0)=true:=by simp[a6]
  simp(disch:=first | omega | assumption | exact G0 O1 | exact U10 O1 | exact X0 O0 | fail   )only[W0,d1];exact⟨O,.inl ⟨a6,rfl⟩⟩
 have d1:decide (Q6 N0 free es≠0)=false:=by simp[a6]
 obtain⟨n,f,rfl,rfl,hn,ee,dx,eb⟩:=U27 a6;simp(config:={ maxSteps:=2000000 }) (disch:=first | omega | assumption | exact G0 O1 | exact U10 O1 | exact X0 O0 | fail  )only[W0,d1];have good:∀ {r:Value} {H':Y0} {nx':Nat},D0 H nx H' nx'->((¬ V72 l f n/\r=refuse 1)\/(V72 l f n/\∃ E:List Nat,(l++R6 f f=E.map fun(w:Nat)=>(w:Int))/\E.Nodup/\(∀ w ∈ E,w<n)/\E.length=n /\
     ∃ R,r = .tuple ⟨[.slice R n n,.int .i64 0]⟩/\Sl H' nx' R (R34 (Y72 n (aF n G50) (adj es) E))/\∃ o,R=some ⟨o,0,none⟩/\nx<=o/\o<nx'/\J0 H' o=some (.cells (R34 (Y72 n (aF n G50) (adj es) E)) 0))) ->
   D0 H nx H' nx'/\((Q6 (n:Int) (f:Int) es≠0/\r=refuse (Q6 (n:Int) (f:Int) es))\/(∃ n' f':Nat,(n:Int)=n'/\(f:Int)=f'/\f'<=n'/\n'<=32/\Q6 (n:Int) (f:Int) es=0 /\
    ((¬ V72 l f' n'/\r=refuse 1)\/(V72 l f' n'/\∃ E:List Nat,(l++R6 f' f'=E.map fun(w:Nat)=>(w:Int))/\E.Nodup/\(∀ w ∈ E,w<n')/\E.length=n' /\
     ∃ R,r = .tuple ⟨[.slice R n' n',.int .i64 0]⟩/\Sl H' nx' R (R34 (Y72 n' (aF n' G50) (adj es) E))/\∃ o,R=some ⟨o,0,none⟩/\nx<=o/\o<nx'/\J0 H' o=some (.cells (R34 (Y72 n' (aF n' G50) (adj es) E)) 0))))):=
  fun hE h=>⟨hE,.inr ⟨n,f,rfl,rfl,ee,hn,a6,h⟩⟩
 refine B1 (m:=l.length) (fun m L H' nx'=>∃ i a1:Nat,m+i=l.length/\L=[.int .u32 (a1:Int),.int .i64 (i:Int)]/\a1<4294967296/\(∀ w:Nat,a1.testBit w=decide ((w:Int) ∈ l.take i)) /\
  (∀ x ∈ l.take i,(f:Int)<=x/\x<(n:Int))/\(l.take i).Nodup/\H2=H'/\nx2=nx') ?_ ⟨0,0,rfl,rfl,O0,O2,O2,O2,rfl,rfl⟩
 rintro m ih L _ _ ⟨i,a1,hm,rfl,bz,al,c3,bx,rfl,rfl⟩ cq;simp(config:={ maxSteps:=2000000 }) (disch:=first | omega | assumption | exact G0 O1 | exact U10 O1 | exact X0 O0 | fail  )only[W0]
 by_cases hi:i<l.length
 case pos=>
  have av:(i:Int)<(l.length:Int):=O0;obtain⟨x,hx⟩:∃ x,l[i]? = some x:=⟨_,aE hi⟩
  obtain⟨B,o,row,rfl,fg,cv,c9⟩:=(hP.ext O).open (i:=i) (by rw[X9];omega);have g0:=c9 _ _ (Z9 hx);have bad:¬ ((f:Int)<=x/\x<(n:Int))->¬ V72 l f n:=fun h1 h2=>h1 (h2.2.1 x (aH hx))
  simp(disch:=first | omega | assumption | exact G0 O1 | exact U10 O1 | exact X0 O0 | fail  )only[W0,av,N13,X3 cv,g0,ao]
  by_cases h1:x<(f:Int)
  .simp(disch:=first | omega | assumption | exact G0 O1 | exact U10 O1 | exact X0 O0 | fail   )only[W0,h1]
   exact good O (.inl ⟨bad O0,rfl⟩)
  by_cases h2:x ≥ (n:Int)
  .simp(disch:=first | omega | assumption | exact G0 O1 | exact U10 O1 | exact X0 O0 | fail   )only[W0,h1,h2]
   exact good O (.inl ⟨bad O0,rfl⟩)
  obtain⟨w,rfl⟩:∃ w:Nat,x=w:=⟨x.toNat,O0⟩
  have hw:w<32:=O0;have hb:=al w
  cases aw:a1.testBit w with
  | true=>
   simp(disch:=try exact O4)only[W0,h1,h2,aw];refine good O (.inl ⟨fun hp => ?_,rfl⟩);rw[aw] at hb;have dd:(w:Int) ∈ l.take i:=by simpa using hb.symm
   obtain⟨j,hj,en⟩:=gL dd;simp at hj;have dw:l[j]? = some (w:Int):=by rw[<- en,List.getElem_take];exact aE O0
   have eh:=(fD.mp hp.2.2) j i O0 hi O0;exact eh (by rw[(aJ.mp dw).2,(aJ.mp hx).2])
  | false=>
   have cp:2^w<4294967296:=Y18 hw;rw[aw] at hb;have e8:(w:Int) ∉ l.take i:=by simpa using hb.symm
   simp(disch:=try exact O4)only[W0,h1,h2,aw];refine cq (m-1) _ _ _ O0 ⟨i+1,a1 ||| 2^w,O0,O2,M54 bz cp,fun u => ?_,?_,?_,rfl,rfl⟩
   .rw[aV,al,aR,C7 hx]
    by_cases an:u=w
    .subst an;simp
    .have e1:decide (w=u)=false:=by simp;omega
     have e2:¬ (u:Int)=(w:Int):=O0;simp[e1,e2]
   .rw[C7 hx]
    intro z hz;simp only[dN,dJ] at hz;rcases hz with hz | rfl
    .exact c3 z hz
    .omega
   .rw[C7 hx];exact V89 bx e8
 have av:¬ (i:Int)<(l.length:Int):=O0;rw[D23 hi] at c3 bx
 by_cases bc:l.length+f=n
 case neg=>
  have d2:decide ((l.length:Int)≠(n:Int)-(f:Int))=true:=by simp;omega
  simp(disch:=first | omega | assumption | exact G0 O1 | exact U10 O1 | exact X0 O0 | fail  )only[W0,av,ao,d2];exact good O (.inl ⟨fun hp=>bc hp.1,rfl⟩)
 have d2:decide ((l.length:Int)≠(n:Int)-(f:Int))=false:=by simp;omega
 have bk:V72 l f n:=⟨bc,c3,bx⟩
 simp(config:={ maxSteps:=2000000 }) (disch:=first | omega | assumption | exact G0 O1 | exact U10 O1 | exact X0 O0 | fail  )only[W0,av,ao,d2];clear cq;obtain⟨E,b4,U,V,aq⟩:=J77 bk;have M44:l.length<=32:=O0;generalize hK:hs (hs H2 nx2 (some (.cells (U4 (aF 32 0)) 0))) (nx2+1) (some (.cells (U4 (aF 32 0)) 0))=K;have kO:J0 K nx2=some (.cells (U4 (aF 32 0)) 0):=by rw[<- hK,Z1 _ O0,Z11]
 have kP:J0 K (nx2+1)=some (.cells (U4 (aF 32 0)) 0):=by rw[<- hK,Z11]
 have ax:D0 H2 nx2 K (nx2+1+1):=by rw[<- hK];exact((D0.self O0:D0 H2 nx2 H2 (nx2+1+1)).hs O0).hs O0
 have kG:=(ax.get nx O0).trans ao;have z32:(U4 (aF 32 0)).length=32:=by rw[X9];simp
 rw[C107,J79 kO (C27 (hP.ext (O.trans ax)) (dq.ext (O.trans ax)) (by rw[X9];omega) O0) M44 (K13 l) (by rw[X9,z32];exact M44),Q100 M44];refine B1 (m:=f) (fun m L H' nx'=>∃(i:Nat) (ol:List Int),m+i=f/\L=[.int .i64 (i:Int)]/\ol.length=32/\(∀ j,j<l.length+i->ol[j]? = (l++R6 f f)[j]?) /\
  J0 H' nx2=some (.cells (U4 ol) 0)/\(∀ q,q≠nx2->J0 H' q=J0 K q)/\nx2+1+1=nx') ?_ ⟨0,l++aF (32-l.length) 0,rfl,rfl,by simp;omega,fun j hj=>by
   rw[bQ O0,bQ O0],Z11 _ _ _,fun q hq=>Z1 _ hq,rfl⟩
 rintro m3 fh L3 H3 _ ⟨i3,ol,f9,rfl,bh,dn,cf,W,rfl⟩ bg;simp(config:={ maxSteps:=2000000 }) (disch:=first | omega | assumption | exact G0 O1 | exact U10 O1 | exact X0 O0 | fail  )only[W0]
 by_cases ea:i3<f
 case pos=>
  have ap:(i3:Int)<(f:Int):=O0;have d7:((l.length:Int)+(i3:Int)).toNat=l.length+i3:=O0;have ek:l.length+i3<ol.length:=O0;have cn:(U4 ol).length=32:=by rw[X9];exact bh
  simp(disch:=first | omega | assumption | exact G0 O1 | exact U10 O1 | exact X0 O0 | fail  )only[W0,Nat.reduceLeDiff,ap,d7,cf,J92 ek,cn];refine⟨O0,bg (m3-1) _ _ _ O0 ⟨i3+1,ol.set (l.length+i3) ((f:Int)-1-i3),O0,O2,by rw[dO];exact bh,fun j hj => ?_,Z11 _ _ _,fun q hq=>by rw[Z1 _ hq];exact W q hq,rfl⟩⟩;rw[cQ]
  by_cases de:l.length+i3=j
  .subst de
   rw[if_pos rfl,if_pos O0,bS O0,Nat.add_sub_cancel_left,N88 ea]
  .rw[if_neg de];exact dn j O0
 have ap:¬ (i3:Int)<(f:Int):=O0;have d8:i3=f:=O0;subst d8;have dk:∀(j w:Nat),E[j]? = some w->ol[j]? = some (w:Int):=by
  intro j w hj;rw[dn j (by have:=N12 hj;omega),b4];simp[hj]
 have dc:=(W nx O0).trans kG;simp(config:={ maxSteps:=2000000 }) (disch:=first | omega | assumption | exact G0 O1 | exact U10 O1 | exact X0 O0 | fail   )only[W0,ap,dc];clear bg;refine B1 (m:=n) (fun m L H' nx'=>∃(i:Nat) (pl:List Int),m+i=n/\L=[.int .i64 (i:Int)]/\pl.length=32/\(∀ j w:Nat,E[j]? = some w->j<i->pl[w]? = some (j:Int)) /\
  J0 H' (nx2+1)=some (.cells (U4 pl) 0)/\(∀ q,q≠nx2+1->J0 H' q=J0 H3 q)/\nx2+1+1=nx') ?_ ⟨0,aF 32 0,rfl,rfl,O2,fun j w _ h=>O0,by rw[W (nx2+1) O0];exact kP,fun q hq=>rfl,rfl⟩
 rintro m4 fa L4 H4 _ ⟨i4,pl,f8,rfl,bd,c4,cd,Z,rfl⟩ b5;have co:=(Z nx2 O0).trans cf;have d3:=(Z nx O0).trans dc;simp(config:={ maxSteps:=2000000 }) (disch:=first | omega | assumption | exact G0 O1 | exact U10 O1 | exact X0 O0 | fail  )only[W0]
 by_cases ew:i4<n
 case pos=>
  have au:(i4:Int)<(n:Int):=O0;obtain⟨w,hw⟩:∃ w,E[i4]? = some w:=⟨_,aE O0⟩
  have f3:w<n:=V w (aH hw);have gw:=Z9 (dk i4 w hw);have e6:w<pl.length:=O0;have dj:(U4 pl).length=32:=by rw[X9];exact bd
  simp(disch:=first | omega | assumption | exact G0 O1 | exact U10 O1 | exact X0 O0 | fail  )only[W0,Nat.reduceLeDiff,au,co,gw,cd,J92 e6,dj];refine⟨O0,b5 (m4-1) _ _ _ O0 ⟨i4+1,pl.set w (i4:Int),O0,O2,by rw[dO];exact bd,fun j u hj ff => ?_,Z11 _ _ _,fun q hq=>by rw[Z1 _ hq];exact Z q hq,rfl⟩⟩;rw[cQ]
  by_cases an:w=u
  .subst an
   rw[if_pos rfl,if_pos O0,B43 U hj hw]
  .rw[if_neg an]
   refine c4 j u hj ?_;have:j≠i4:=by intro e;subst e;rw[hw] at hj;cases hj;exact an rfl
   omega
 have au:¬ (i4:Int)<(n:Int):=O0;have cc:i4=n:=O0;subst cc;simp(config:={ maxSteps:=2000000 }) (disch:=first | omega | assumption | exact G0 O1 | exact U10 O1 | exact X0 O0 | fail   )only[W0,au,d3,C13];clear b5;have ci:D0 H nx H4 (nx2+1+1):=⟨O0,fun q hq=>by
  rw[Z q O0,W q O0,ax.get q O0];exact O.get q hq⟩
 have em:N3 i4 es=0:=by
  unfold Q6 at a6
  split at a6
  .assumption
  .rename_i h;exact Decidable.of_not_not h
 refine R0 (W106 hn A es cap _ _ (hS.ext ci) eb dx em) ?_;rintro _ H5 J ⟨rfl,ag⟩;have et:=ag.le;have e1:(K12 (B2 es i4)).length=32:=by rw[E1];exact N9 es i4
 have e2:(K12 (aF 32 0)).length=32:=by rw[E1];simp
 have e3:=G24 (c:=K12 (aF 32 0)) (vs:=K12 (B2 es i4)) (by rw[e1,e2]);have e4:=W5 (B2 es i4);have ed:i4<=1000000:=O0;have ca:=(ag.get nx O0).trans d3;have eo:=(ag.get nx2 O0).trans co;have e0:=(ag.get (nx2+1) O0).trans cd;simp(config:={ maxSteps:=2000000 }) (disch:=first | omega | assumption | exact G0 O1 | exact U10 O1 | exact X0 O0 | fail  )only[W0,e1,e2,e3,e4,ca,M27 ed,Z89];generalize bo:hs (hs (hs H5 J (some (.cells (K12 (aF 32 0)) 0))) J (some (.cells (K12 (B2 es i4)) 0))) (J+1) (some (.cells (R34 (aF i4 G50)) 0))=K5;have ad:D0 H5 J K5 (J+1+1):=by rw[<- bo];exact(((D0.self O0:D0 H5 J H5 (J+1+1)).hs O0).hs O0).hs O0
 have m0:M13 K5 (J+1+1) J (J+1) (B2 es i4) (aF i4 G50) K5:=by
  refine⟨?_,?_,fun _ _ _ _=>rfl⟩
  .rw[<- bo,Z1 _ O0,Z11]
  .rw[<- bo,Z11]
 have ec:=(ad.get nx O0).trans ca;have dy:=(ad.get nx2 O0).trans eo;have d9:=(ad.get (nx2+1) O0).trans e0;have aj:D0 H nx K5 (J+1+1):=(ci.trans ag).trans ad;refine B1 (m:=i4) (fun m L H' nx'=>∃(i:Nat) (nl:List Nat) (out:List Bag) (N:Nb),m+i=i4/\L=[.int .i64 (i:Int)]/\M13 K5 (J+1+1) J (J+1) nl out H'/\nl.length=32/\(∀ a ∈ E.drop i,nl[a]? = some (Q1 (K9 N a (E.drop i)) i4))/\Z44 N/\out.length=i4 /\
  Y72 i4 out N (E.drop i)=Y72 i4 (aF i4 G50) (adj es) E/\J+1+1<=nx') ?_ ⟨0,B2 es i4,aF i4 G50,adj es,rfl,rfl,m0,N9 es i4,fun a ha=>by
   have e5:a ∈ E:=ha;rw[V39 es hn (V a e5)];congr 1;refine N25 fun w hw => ?_
   have:=Q58 U V aq hw;simp[K9,this],Y70 es,O2,rfl,aD _⟩
 rintro m7 fd L7 H7 a2 ⟨j,nl,out,N,f7,rfl,hM,dl,bt,az,ct,a5,bu⟩ df;simp(config:={ maxSteps:=2000000 }) (disch:=first | omega | assumption | exact G0 O1 | exact U10 O1 | exact X0 O0 | fail  )only[W0]
 by_cases hj:j<i4
 case neg=>
  have bw:¬ (j:Int)<(i4:Int):=O0;simp(config:={ maxSteps:=2000000 }) (disch:=first | omega | assumption | exact G0 O1 | exact U10 O1 | exact X0 O0 | fail   )only[W0,bw];rw[cM O0] at a5;refine good ⟨by have:=aj.le;omega,fun q hq=>by rw[hM.same q (by have:=aj.le;omega) O0 O0];exact aj.get q hq⟩ (.inr ⟨bk,E,b4,U,V,aq,_,rfl,fun q u hu=>⟨J+1,0,R34 out,rfl,O0,by rw[Q5,hM.out];rfl,?_⟩,J+1,rfl,by have:=ag.le;omega,O0,?_⟩)
  .rw[cF]
   have:out=Y72 i4 (aF i4 G50) (adj es) E:=a5;rw[this];exact hu
  .have:out=Y72 i4 (aF i4 G50) (adj es) E:=a5
   rw[<- this];exact hM.out
 have bw:(j:Int)<(i4:Int):=O0;obtain⟨v,hv⟩:∃ v,E[j]? = some v:=⟨_,aE O0⟩
 have fe:v<i4:=V v (aH hv);have ak:=Z19 hv;generalize Q:E.drop (j+1)=rest at ak;have du:v ∉ rest:=by rw[<- Q];exact Q44 U hv
 rw[ak] at bt a5;have ej:=(hM.same nx2 O0 O0 O0).trans dy;have fb:=(hM.same (nx2+1) O0 O0 O0).trans d9;have dr:=(hM.same nx O0 O0 O0).trans ec;have dv:=Z9 (dk j v hv);have dm:=bt v List.mem_cons_self;rw[G105 az] at dm;have el:=Q3 dm;have cx:∀ kk,U11 [.int .i64 0,.int .u32 0,.int .i64 0] [(0,1),(1,1),(2,1)] [(0,.int .i64 (v:Int)),(1,.int .u32 ((Q1 (K9 N v rest) i4:Nat):Int)),(2,.int .i64 (-1))] kk=kk (.agg ⟨[.int .i64 (v:Int),.int .u32 ((Q1 (K9 N v rest) i4:Nat):Int),.int .i64 (-1)]⟩):=fun _=>rfl
 simp(config:={ maxSteps:=2000000 }) (disch:=first | omega | assumption | exact G0 O1 | exact U10 O1 | exact X0 O0 | fail  )only[W0,Z0,Nat.reduceAdd,bw,ej,dv,hM.near,el,cx,D7,dr];have ay:=R19 hn (K9 N v rest);generalize cu:hs (hs H7 a2 (some (.cells [.int .i64 0,.int .u32 0,.int .i64 0] 0))) a2 (some (.cells [.int .i64 (v:Int),.int .u32 ((Q1 (K9 N v rest) i4:Nat):Int),.int .i64 (-1)] 0))=HB;have mB:M13 K5 (J+1+1) J (J+1) nl out HB:=by rw[<- cu];exact(hM.setNew bu O0 O0 _).setNew bu O0 O0 _
 have gB:J0 HB a2=some (.cells [.int .i64 (v:Int),.int .u32 ((Q1 (K9 N v rest) i4:Nat):Int),.int .i64 (-1)] 0):=by rw[<- cu,Z11]
 refine B1 (m:=i4) (fun m L H' nx'=>∃(u:Nat) (nl:List Nat) (par:Int),m+u=i4/\L=[.int .i64 (u:Int)]/\M13 K5 (J+1+1) J (J+1) nl out H'/\J0 H' a2=some (.cells [.int .i64 (v:Int),.int .u32 ((Q1 (K9 N v rest) i4:Nat):Int),.int .i64 par] 0)/\nl.length=32 /\
  (∀ a ∈ rest,nl[a]? = some (Q1 (if a<u then K9 (U9 N v rest) a rest else K9 N a (v :: rest)) i4))/\R99 N v E rest u par/\a2+1<=nx') ?_ ⟨0,nl,-1,rfl,rfl,mB,gB,dl,fun a ha=>by rw[bt a (eJ _ ha)];simp,.inl ⟨rfl,fun w h=>O0⟩,aD _⟩
 rintro m8 ez L8 H8 fc ⟨u,ah,par,f5,rfl,ae,a7,a9,ac,ab,e9⟩ b8;simp(config:={ maxSteps:=2000000 }) (disch:=first | omega | assumption | exact G0 O1 | exact U10 O1 | exact X0 O0 | fail  )only[W0]
 by_cases hu:u<i4
 case neg=>
  have c7:¬ (u:Int)<(i4:Int):=O0;have eg:u=i4:=O0;subst eg;have dz:par=Y61 N v rest:=by rw[<- Q] at ab ⊢;exact D107 U V ab
  have cj:B12 (R34 out) (v*3) [.int .i64 (v:Int),.int .u32 ((Q1 (K9 N v rest) u:Nat):Int),.int .i64 par]=R34 (out.set v (J82 u N v rest)):=by
   rw[dz];exact Z92 (b:=J82 u N v rest) O0
  have dt:(R34 out).length=u*3:=by rw[N94,ct]
  simp(config:={ maxSteps:=2000000 }) (disch:=first | omega | assumption | exact G0 O1 | exact U10 O1 | exact X0 O0 | fail   )only[W0,Z0,Nat.reduceAdd,c7,a7,Y12,ae.out,cj,dt];refine⟨O0,df (m7-1) _ _ _ O0 ⟨j+1,ah,_,U9 N v rest,O0,O2,ae.setOut O0 _,a9,fun a ha => ?_,Y66 az v rest,by rw[dO];exact ct,by rw[Q,<- a5];rfl,O0⟩⟩;rw[Q] at ha ⊢;have ei:a<u:=V a (fO (Q ▸ ha));rw[ac a ha,if_pos ei]
 have c7:(u:Int)<(i4:Int):=O0;have dg:(Q1 (K9 N v rest) i4).testBit u=K9 N v rest u:=by rw[E26];simp[hu]
 simp(config:={ maxSteps:=2000000 }) (disch:=try exact O4)only[W0,c7,a7];rw[N13,dg]
 cases hk:K9 N v rest u with
 | false=>
  simp(config:={ maxSteps:=2000000 }) (disch:=first | omega | assumption | exact G0 O1 | exact U10 O1 | exact X0 O0 | fail   )only[W0];refine b8 (m8-1) _ _ _ O0 ⟨u+1,ah,par,O0,O2,ae,a7,a9,fun a ha => ?_,?_,e9⟩
  .rw[ac a ha]
   by_cases h1:a<u
   .rw[if_pos h1,if_pos O0]
   .rw[if_neg h1]
    by_cases h2:a=u
    .subst h2;rw[if_pos O0,K107 az ha hk]
    .rw[if_neg O0]
  .rcases ab with ⟨h1,h2⟩ | ⟨p,jp,h1,h2,h3,h4⟩
   .refine .inl ⟨h1,fun w hw => ?_⟩
    by_cases a3:w=u
    .subst a3;exact hk
    .exact h2 w O0
   .refine .inr ⟨p,jp,h1,h2,h3,fun w jw hw a4 a0 => ?_⟩
    by_cases a3:w=u
    .subst a3;rw[hk] at a0;cases a0
    .exact h4 w jw O0 a4 a0
 | true=>
  simp(config:={ maxSteps:=2000000 }) (disch:=first | omega | assumption | exact G0 O1 | exact U10 O1 | exact X0 O0 | fail   )only[W0];have da:u ∈ rest:=by simp[K9] at hk;exact hk.2
  obtain⟨ju,a8⟩:∃ ju,E[ju]? = some u:=cH (fO (Q ▸ da));have db:=(ae.same (nx2+1) O0 O0 O0).trans d9;have gu:=Z9 (c4 ju u a8 (by have:=N12 a8;omega));refine N5 (fun L H' nx'=>∃ aa,L=[]/\M13 K5 (J+1+1) J (J+1) ah out H'/\J0 H' a2=some (.cells [.int .i64 (v:Int),.int .u32 ((Q1 (K9 N v rest) i4:Nat):Int),.int .i64 aa] 0)/\R99 N v E rest (u+1) aa/\a2+1<=nx') ?_ ?_
  .intro jk d5
   rw[N13];have ba:∀ a b c x:Value,B12 [a,b,c] 2 [x]=[a,b,x]:=fun _ _ _ _=>rfl
   have bf:R99 N v E rest (u+1) u->∀ nx',a2+1<=nx'->jk [] (hs H8 a2 (some (.cells [.int .i64 (v:Int),.int .u32 ((Q1 (K9 N v rest) i4:Nat):Int),.int .i64 (u:Int)] 0))) nx':=
    fun h nx' hx=>d5 _ _ _ ⟨u,rfl,ae.setNew bu O0 O0 _,Z11 _ _ _,h,hx⟩
   rcases ab with ⟨rfl,h2⟩ | ⟨p,jp,rfl,h2,h3,h4⟩
   .have d6:(-1:Int)<0:=O0
    simp(config:={ maxSteps:=2000000 }) (disch:=first | omega | assumption | exact G0 O1 | exact U10 O1 | exact X0 O0 | fail   )only[W0,Nat.reduceAdd,a7,d6,ba];refine bf (.inr ⟨u,ju,rfl,a8,hk,fun w jw hw a4 a0 => ?_⟩) _ O0
    by_cases a3:w=u
    .subst a3;rw[B43 U a8 a4];exact aD _
    .rw[h2 w O0] at a0;cases a0
   .have ce:¬ (p:Int)<0:=O0
    have f0:p<i4:=V p (aH h2);have gp:=Z9 (c4 jp p h2 (by have:=N12 h2;omega))
    by_cases f4:ju<jp
    .have ai:(ju:Int)<(jp:Int):=O0
     simp(config:={ maxSteps:=2000000 }) (disch:=first | omega | assumption | exact G0 O1 | exact U10 O1 | exact X0 O0 | fail  )only[W0,Nat.reduceAdd,a7,ce,db,gu,gp,ai,ba];refine bf (.inr ⟨u,ju,rfl,a8,hk,fun w jw hw a4 a0 => ?_⟩) _ O0
     by_cases a3:w=u
     .subst a3;rw[B43 U a8 a4];exact aD _
     .have:=h4 w jw O0 a4 a0;omega
    .have ai:¬ (ju:Int)<(jp:Int):=O0
     simp(config:={ maxSteps:=2000000 }) (disch:=first | omega | assumption | exact G0 O1 | exact U10 O1 | exact X0 O0 | fail  )only[W0,Nat.reduceAdd,a7,ce,db,gu,gp,ai];refine d5 _ _ _ ⟨p,rfl,ae,a7,.inr ⟨p,jp,rfl,h2,h3,fun w jw hw a4 a0 => ?_⟩,O0⟩
     by_cases a3:w=u
     .subst a3;rw[<- B43 U a8 a4];omega
     .exact h4 w jw O0 a4 a0
  .rintro _ H9 eu ⟨aa,rfl,cy,d4,bv,f6⟩
   have b3:=ac u da;rw[if_neg O0] at b3;have cz:=Q3 b3;have dp:=R19 hn (K9 N u (v :: rest));have dh:2^u<4294967296:=Y18 O0;have ck:2^v<4294967296:=Y18 O0;have fi:=M54 dp ay;have ey:=M54 dh ck;have cg:u<ah.length:=O0;have c6:(K12 ah).length=32:=by rw[E1];exact a9
   have ef:=N107 az (n:=i4) du hk;simp(config:={ maxSteps:=2000000 }) (disch:=first | omega | assumption | exact G0 O1 | exact U10 O1 | exact X0 O0 | fail  )only[W0,Nat.reduceLeDiff,cy.near,cz,d4,V10 cg,c6];refine⟨O0,b8 (m8-1) _ _ _ O0 ⟨u+1,ah.set u (Z2 (Q1 (K9 N u (v :: rest)) i4 ||| Q1 (K9 N v rest) i4) (2^u ||| 2^v)),aa,O0,O2,cy.setNear O0 _,by rw[Z1 _ O0];exact d4,by rw[dO];exact a9,fun a ha => ?_,bv,O0⟩⟩;rw[cQ]
   by_cases h2:u=a
   .subst h2;rw[if_pos rfl,if_pos cg,if_pos O0,ef]
   .rw[if_neg h2,ac a ha]
    by_cases h1:a<u
    .rw[if_pos h1,if_pos O0]
    .rw[if_neg h1,if_neg O0]
end
end Go.Proofs.YtoiioigihocgbaaGreatDoor
namespace Go.Clo
def upK(f i:Nat):List Int:=(aY i).map fun j=>((f+j:Nat):Int)
theorem Y91(f i:Nat):(upK f i).length=i:=by simp[upK]
theorem K105(f i:Nat):upK f (i+1)=upK f i++[((f+i:Nat):Int)]:=by simp[upK,List.range_succ]
theorem R107{lo:Nat}{H:Y0}{nx size:Nat}{v:Value}{n:Nat}{c:List Value}(h:Acc lo H nx size v n c):∃ A,v = .slice A n n/\Sl H nx A c/\Has H nx A:=by
 obtain⟨A,e,hs⟩:=h.sl;refine⟨A,e,hs,?_⟩;obtain⟨_,h1 | ⟨b,h1,h2,h3,h4⟩⟩:=h
 .obtain⟨h1,h2⟩:=h1
  rw[h2] at e
  cases e
  exact .inl rfl
 .rw[e] at h3
  cases h3
  exact .inr ⟨b,0,c,rfl,h2,by rw[Q5,h4];rfl⟩
theorem M108{H:Y0}{b o n c h size:Nat}{row:List Value}(hg:J0 H b=O7 row)(hh:h<=c)(k:VP):
  wSl (.slice (some ⟨b,o,none⟩) n c) size none (some (O8 (h:Int))) none H k=k (.slice (some ⟨b,o,none⟩) h c):=by
 have e:B26 (some ⟨b,o,none⟩) n c size none (some (O8 (h:Int))) none false=some (.slice (some ⟨b,o,none⟩) h c):=by
  have e1:Y13 none c=some c:=rfl;have e2:hiA (some (O8 (h:Int))) none n c=some h:=V75 hh;have e3:loA none h=some 0:=rfl;simp only[B26,e1,e2,e3,V6 (Nat.zero_le c)]
  cases bR c 0<;>simp
 unfold wSl;dsimp only;rw[Y4,hg];simp only[aN,slB,N8,D13,cond_true];rw[e];exact E7 _ _
end Go.Clo
namespace Go.Proofs.YtoiioigihocgbaaGreatDoor
open Go.Clo
theorem B100{f n:Nat}(h:f<=n):V72 (upK f (n-f)) f n:=by
 refine⟨by rw[Y91];omega,fun x hx => ?_,?_⟩
 .simp only[upK,gN,cW] at hx
  obtain⟨j,hj,rfl⟩:=hx;omega
 .unfold List.Nodup upK
  rw[List.pairwise_map];refine List.Pairwise.imp (fun {a b} h => ?_) List.nodup_range;intro e;exact h O0
theorem B98(n:Nat):∀(E:List Nat) (out:List Bag) (N:Nb) (i:Nat) (b:Bag),(Y72 n out N E)[i]? = some b->(out[i]? = some b/\i ∉ E)\/(b.var=i/\b.key<2^n)
 | [],out,N,i,b,h => .inl ⟨h,O2⟩
 | v :: rest,out,N,i,b,h=>by
  rcases B98 n rest (out.set v (J82 n N v rest)) _ i b h with ⟨h1,h2⟩ | h1
  .rw[cQ] at h1
   split at h1
   .rename_i e
    subst e
    split at h1
    .cases h1
     exact .inr ⟨rfl,G11 _ _⟩
    .cases h1
   .rename_i e
    exact .inl ⟨h1,by simp[h2,eT e]⟩
  .exact .inr h1
def Z85(n f:Nat)(l:List Int):List Nat:=(l++R6 f f).map Int.toNat
def B50(es:List Nat)(n f:Nat)(l:List Int):List Bag:=Y72 n (aF n G50) (adj es) (Z85 n f l)
theorem Y88{n f:Nat}{l:List Int}{E:List Nat}(h:l++R6 f f=E.map fun(w:Nat)=>(w:Int)):E=Z85 n f l:=by
 unfold Z85;rw[h,List.map_map];simp[Function.comp_def]
theorem U74(es:List Nat)(n f:Nat)(l:List Int):(B50 es n f l).length=n:=by
 unfold B50;rw[V94];simp
theorem Q95{es:List Nat}{n f:Nat}{l:List Int}(hp:V72 l f n)(hf:f<=n){i:Nat}(hi:i<n):∃ b,(B50 es n f l)[i]? = some b/\b.var=i/\b.key<2^n:=by
 obtain⟨E,h1,h2,h3,h4⟩:=J77 hp;obtain rfl:=Y88 (n:=n) h1;obtain⟨b,hb⟩:∃ b,(B50 es n f l)[i]? = some b:=⟨_,aE (by rw[U74];exact hi)⟩
 refine⟨b,hb,?_⟩;rcases B98 n _ _ _ i b hb with ⟨_,h⟩ | h
 .exact absurd (Q58 h2 h3 h4 hi) h
 .exact h
theorem J93{b:Bag}{i n:Nat}(h1:b.var=i)(h2:b.key<2^n)(hi:i<n)(hn:n<=32):Y34 b=b.key ||| 2^i/\Y34 b<2^n/\(Y34 b).testBit i=true:=by
 have e:Y34 b=b.key ||| 2^i:=by
  unfold Y34;rw[if_neg O0,h1];rfl
 rw[e];exact⟨rfl,Z26 h2 (R27 hi),by rw[aV,aR];simp⟩
def fwI(es:List Nat)(N:Nat)(bs:List Bag)(i:Nat):Rat:=(bs.take i).foldl (fun w b=>gr w (Y74 es N (Y34 b))) 0
theorem X95{es:List Nat}{N:Nat}{bs:List Bag}{i:Nat}{b:Bag}(h:bs[i]? = some b):fwI es N bs (i+1)=gr (fwI es N bs i) (Y74 es N (Y34 b)):=by
 unfold fwI;rw[C7 h,List.foldl_append];rfl
theorem N84{es:List Nat}{N:Nat}{bs:List Bag}(h:es.length<=8):∀ i,i<=bs.length->U15 (fwI es N bs i) 100000
 | 0,_=>Y75 _ O0
 | i+1,hi=>by
  rw[X95 (aE (show i<bs.length by omega))];exact E78 (N84 h i O0) (B65 es N _ h)
theorem G95{H:Y0}{nx p rc rl N cap f:Nat}{A:Option Addr}{es nb:List Nat}{L:Nat->Rat}(h:SV H nx p rc rl N A cap es nb L)(hN:N<=6)(aj:∀ e ∈ es,e<2^N)(ah:es.length<=8)(b5:∀ w,w<N->∃ e ∈ es,e.testBit w=true)(hf:f<=N):
  Q2 gQ 46 [.pointer (some ⟨p,0,none⟩),O8 (f:Int)] H nx fun v H' nx'=>RR H' nx' v (fwI es N (B50 es N f (upK f (N-f))) f)/\SV H' nx' p rc rl N A cap es nb L/\Kp H nx rc rl H' nx':=by
 have ci:2^N<=64:=aK (n:=2) O0 hN;have cz:=h.pn;have cn:=h.rcn;have cv:=h.rln;have ai:U14 es:=fun e he=>by have:=aj e he;omega
 have an:∀ s,s<2^N->∀ v,s.testBit v=true->∃ e ∈ es,e.testBit v=true:=fun s hs v hv=>b5 v (by
  refine aI fun hn => ?_
  rw[dV (aO hs (aK (n:=2) O0 (show N<=v by omega)))] at hv
  cases hv)
 refine spec46 ?_;unfold F46;have ay:D0 H nx (hs H nx (O7 [.bool false,O6,O6])) (nx+1):=(D0.refl _ _).nw _;have g1:J0 (hs H nx (O7 [.bool false,O6,O6])) nx=O7 [.bool false,O6,O6]:=Z11 _ _ _;have h1:=h.ext ay;simp only[W1];rw[Q37];simp only[Q0.val];generalize hs H nx (O7 [.bool false,O6,O6])=H1 at *
 refine B1 (m:=N-f) (fun m L H' nx'=>∃ i v,m+i=N-f/\L=[v,O8 ((f+i:Nat):Int)]/\Acc (nx+1) H' nx' 1 v i (U4 (upK f i))/\D0 H1 (nx+1) H' nx') ?_
  ⟨0,O6,O0,O2,Acc.nil _ _ _ _,D0.refl _ _⟩
 rintro m d5 L1 H2 nx2 ⟨i,v,hm,rfl,hA,a6⟩ a7;have cq:=a6.le;have h2:=h1.ext a6;have cc:∀(x:Int) k,K6 1 1 [O8 0] [(0,O8 x)] k=k [O8 x]:=fun x k=>rfl
 by_cases hi:i<N-f
 .have ae:((f+i:Nat):Int)<(N:Int):=O0
  simp(disch:=omega)only[W0,Q0.val,h2.hp,C89,ae,cc];have av:D0 H2 nx2 (hs H2 nx2 (O7 [O8 ((f+i:Nat):Int)])) (nx2+1):=(D0.refl _ _).nw _;refine Y20 (H0:=H1) (lo:=nx+1) (m:=1) (l:=[O8 ((f+i:Nat):Int)]) O0 (hA.ext av) (J9 (Z11 _ _ _) rfl O0) O0 rfl O0 O0 (a6.trans av) O0 ?_;intro v' H' bu bx _;refine a7 (m-1) _ _ _ O0 ⟨i+1,v',O0,by simp;omega,?_,bx⟩;have e:U4 (upK f (i+1))=U4 (upK f i)++[O8 ((f+i:Nat):Int)]:=by rw[K105,Q96];rfl
  rw[e];exact bu
 have ae:¬ ((f+i:Nat):Int)<(N:Int):=O0;obtain rfl:i=N-f:=O0;clear a7;obtain⟨P,rfl,hP,b3⟩:=R107 hA;have a2:=ay.trans a6;have g2:=(a6.gt nx).trans g1;simp only[W0,Q0.val,h2.hp,C89,ae];refine R0 (R73 (n:=0) O0 O0 _ _) ?_;rintro r H5 E ⟨hr,a3⟩;obtain⟨c5,rfl,a8⟩:=hr.num;have cp:=a3.le;have h5:=h2.ext a3;have V:D0 H5 E (hs (hs H5 E (O7 [.bool false,O6,O6])) E (O7 c5)) (E+1):=((D0.refl _ _).nw _ (m:=E+1)).nw _;have h7:=h5.ext V;have cd:J0 (hs (hs H5 E (O7 [.bool false,O6,O6])) E (O7 c5)) E=O7 c5:=Z11 _ _ _;simp only[W0,Nat.reduceAdd,a8.three,a8.one,G24 (show c5.length=[dU false,O6,O6].length from a8.three),h7.hp,M93];generalize hs (hs H5 E (O7 [.bool false,O6,O6])) E (O7 c5)=H7 at *
 have Q:=a3.trans V;have ak:N-f=(upK f (N-f)).length:=(Y91 _ _).symm;have a1:=K109 (N:Int) (f:Int) A es cap P (upK f (N-f)) (N-f) H7 (E+1) h7.es' ai (hP.ext Q) (b3.ext Q) (by rw[Y91];omega);rw[<- ak] at a1;refine R0 a1 ?_;rintro r8 H8 c7 ⟨U,h8⟩;have ct:=U.le;have bt:Q6 (N:Int) (f:Int) es=0:=by
  unfold Q6;rw[V11 O0 O0 fun i e he=>aj e (aH he)];simp;omega
 rcases h8 with ⟨h0,_⟩ | ⟨n',f',en,ef,_,_,_,h8⟩
 .exact absurd bt h0
 obtain rfl:N=n':=O0;obtain rfl:f=f':=O0;rcases h8 with ⟨ax,_⟩ | ⟨da,c4,ho,d1,d4,co,R,rfl,hR,o,rfl,d0,dc,ag⟩
 .exact absurd (B100 hf) ax
 obtain rfl:=Y88 (n:=N) ho;have cx:=U74 es N f (upK f (N-f));have ba:=fun i (hi:i<N)=>Q95 (es:=es) (B100 hf) hf hi
 rw[show Y72 N (aF N G50) (adj es) (Z85 N f (upK f (N-f)))=B50 es N f (upK f (N-f)) from rfl] at hR ag;generalize B50 es N f (upK f (N-f))=bs at *
 have cf:=(U.gt E).trans cd;have h8:=h7.ext U;have bc:=(a2.trans Q).trans U;have g8:=((Q.trans U).gt nx).trans g2;have bo:=(hr.ext V).ext U;simp only[W0,M108 ag hf];have ca:=(a2.trans a3).kp (p:=rc) (q:=rl);have bg:=(V.trans U).kp (p:=rc) (q:=rl);have g5:=(a3.gt nx).trans g2;clear U Q a2 V bc h7 h2 hA hP b3 a1 ho hr;refine B1 (m:=f) (fun m L' H' nx'=>∃ i c,m+i=f/\L'=[O8 (i:Int)]/\SV H' nx' p rc rl N A cap es nb L/\Kp H5 E rc rl H' nx'/\J0 H' o=O7 (R34 bs)/\c7<=nx'/\V7 c/\J0 H' E=O7 c/\RR H' nx' (.agg ⟨c⟩) (fwI es N bs i)) ?_
  ⟨0,c5,O0,rfl,h8,bg,ag,aD _,a8,cf,bo⟩
 rintro m cy L2 H9 O ⟨i,c,d8,rfl,h9,al,az,cu,hc,a9,bh⟩ a7;have g9:=al.cell h5.ic h5.il O0 g5
 by_cases d6:i<f
 case neg=>
  obtain rfl:i=f:=O0;have ap:¬ (i:Int)<(i:Int):=O0;simp only[W0,Nat.reduceAdd,ap,a9,X15 hc,hc.three,hc.one,g9,G24 (show c.length=[dU false,O6,O6].length from hc.three)];have hk:=ca.trans al;refine⟨bh.boxs g9 (U47 rfl) (.inl rfl),h9.boxs g9 rfl O0,hk.hs (.inl (aD _))⟩
 have bd:(i:Int)<(f:Int):=O0;obtain⟨b,hb,bw,bz⟩:=ba i O0;obtain⟨d7,b4,c3⟩:=J93 bw bz (show i<N by omega) O0;have ao:b.key<4294967296:=O0;have c0:=M79 hb 0 (O8 b.var) rfl;have c1:=M79 hb 1 (O9 (b.key:Int)) rfl;have c2:=M79 hb 2 (O8 b.par) rfl;rw[eM] at c0;simp(disch:=omega)only[W0,Z0,Nat.reduceAdd,bd,az,Z108 c0 c1 c2,D7,Y12,a9,X15 hc];generalize hK:hs (hs H9 O (O7 [O8 0,O9 0,O8 0])) O (O7 [O8 b.var,O9 (b.key:Int),O8 b.par])=K;have kE:D0 H9 O K (O+1+7):=by rw[<- hK];exact(((D0.refl H9 O).nw _:D0 H9 O _ (O+1+7)).h0)
 have kB:J0 K O=O7 [O8 b.var,O9 (b.key:Int),O8 b.par]:=by rw[<- hK,Z11]
 have k7:=(kE.gt E).trans a9;refine R0 (M110 (b:=b) ao K (O+1+7)) ?_;rintro _ d3 cj ⟨rfl,aq⟩;have J:=kE.trans aq;have a4:=h9.ext J;have ad:=(J.gt E).trans a9;refine R0 (Y87 a4 O0 aj ah b4 (U43 (show i<N by omega) c3) (an _ b4)) ?_;rintro d9 d2 ck ⟨b8,cg,Z⟩;have bv:=J.le;have c9:=Z.le;have aa:=Z.cell a4.ic a4.il O0 ad;have bf:=(bh.ext J).kp Z a4.ic a4.il;refine R0 (G82 bf b8 (N84 ah i O0) (B65 es N _ ah)) ?_;rintro db c8 aw ⟨ac,a0⟩;obtain⟨au,rfl,W⟩:=ac.num;have a5:=(a0.gt E).trans aa;have c6:=cg.ext a0;have ab:Kp H9 O rc rl c8 aw:=(J.kp.trans Z).trans a0.kp;simp only[W0,a5,aa,ad,X15 hc,W.three,W.one,G24 (show au.length=c.length by rw[W.three,hc.three])];have ce:=a0.le;have bk:=ab.cell h9.ic h9.il O0 az;refine⟨by rw[hc.three];omega,a7 (m-1) _ _ _ O0 ⟨i+1,au,O0,O2,c6.boxs a5 (V7.noU hc) O0,(al.trans ab).hs (.inl (aD _)),?_,O0,W,Z11 _ _ _,?_⟩⟩
 .rw[gN _];exact bk
 .rw[X95 hb]
  exact ac.boxs a5 (W81 hc) (.inl rfl)
end Go.Proofs.YtoiioigihocgbaaGreatDoor
namespace Go.Clo
def E9(x:Nat):Nat:=(V5 6 x).length
theorem K50{s:ByteArray}{i b:Nat}{K:IntKind}(hg:s.data[i]? = some (UInt8.ofNat b))(hb:b<256)(k:VP):D9 .sidx [.string s,.int K (i:Int)] k=k (.int .u8 (b:Int)):=by
 have h:VF.ev .sidx [.string s,.int K (i:Int)]=some (.int .u8 (b:Int)):=by
  show J52 s (i:Int)=_;unfold J52;have e:s[((i:Int)).toNat]? = some (UInt8.ofNat b):=by
   rw[gR,<- hg];rfl
  rw[if_pos O0,e];simp only[Option.map_some];congr 2;show((UInt8.ofNat b).toNat:Int)=_;have:(UInt8.ofNat b).toNat=b%256:=UInt8.toNat_ofNat';rw[this,bV O0]
 unfold D9;rw[h,J8];rfl
end Go.Clo
namespace Go.Proofs.YtoiioigihocgbaaGreatDoor
open Go.Clo
def N16:Array UInt8 := #[0,1,1,2,1,2,2,3,1,2,2,3,2,3,3,4,1,2,2,3,2,3,3,4,2,3,3,4,3,4,4,5,1,2,2,3,2,3,3,4,2,3,3,4,3,4,4,5,2,3,3,4,3,4,4,5,3,4,4,5,4,5,5,6,1,2,2,3,2,3,3,4,2,3,3,4,3,4,4,5,2,3,3,4,3,4,4,5,3,4,4,5,4,5,5,6,2,3,3,4,3,4,4,5,3,4,4,5,4,5,5,6,3,4,4,5,4,5,5,6,4,5,5,6,5,6,6,7,1,2,2,3,2,3,3,4,2,3,3,4,3,4,4,5,2,3,3,4,3,4,4,5,3,4,4,5,4,5,5,6,2,3,3,4,3,4,4,5,3,4,4,5,4,5,5,6,3,4,4,5,4,5,5,6,4,5,5,6,5,6,6,7,2,3,3,4,3,4,4,5,3,4,4,5,4,5,5,6,3,4,4,5,4,5,5,6,4,5,5,6,5,6,6,7,3,4,4,5,4,5,5,6,4,5,5,6,5,6,6,7,4,5,5,6,5,6,6,7,5,6,6,7,6,7,7,8]
theorem J68:∀ x,x<64->N16[x]? = some (UInt8.ofNat (E9 x))/\E9 x<7:=by
 have h:((aY 64).all fun i=>decide (N16[i]? = some (UInt8.ofNat (E9 i))/\E9 i<7))=true:=by decide +kernel
 intro i hi;have:=iE.1 h i (by simpa using hi);simpa using this
theorem R44{x:Nat}(hx:x<64)(H:Y0)(nx:Nat):Q2 gQ 44 [O9 (x:Int)] H nx fun r H' nx'=>r=O8 (E9 x:Int)/\D0 H nx H' nx':=by
 refine spec44 ?_;unfold F44;obtain⟨h1,h2⟩:=J68 x hx;have z1:x >>> 24=0:=by rw[eO];omega
 have z2:x >>> 16=0:=by rw[eO];omega
 have z3:x >>> 8=0:=by rw[eO];omega
 have z4:x &&& 255=x:=by rw[show(255:Nat)=2^8-1 from rfl,Nat.and_two_pow_sub_one_eq_mod];omega
 have s1:=fun k=>V15 (a:=x) (n:=24) (K := .u64) k O0
 have s2:=fun k=>V15 (a:=x) (n:=16) (K := .u64) k O0
 have s3:=fun k=>V15 (a:=x) (n:=8) (K := .u64) k O0
 rw[z1] at s1;rw[z2] at s2;rw[z3] at s3;have p0:N16[0]? = some (UInt8.ofNat 0):=by decide +kernel
 have t0:∀(k:VP),D9 .sidx [.string ⟨N16⟩,O9 0] k=k (.int .u8 0):=fun k=>K50 (s:=⟨N16⟩) (i:=0) (b:=0) p0 O0 k
 have tx:∀(k:VP),D9 .sidx [.string ⟨N16⟩,O9 (x:Int)] k=k (.int .u8 (E9 x:Int)):=fun k=>K50 (s:=⟨N16⟩) (i:=x) h1 O0 k
 unfold N16 at t0 tx;have a0:∀(k:VP),D10 .and (O9 0) (O9 255) k=k (O9 0):=fun k=>rfl
 have ax:∀(k:VP),D10 .and (O9 (x:Int)) (O9 255) k=k (O9 (x:Int)):=fun k=>by
  have:=D17 (a:=x) (b:=255) k O0 O0;rw[z4] at this;exact this
 have b0:∀(k:VP),D10 .add (.int .u8 0) (.int .u8 0) k=k (.int .u8 0):=fun k=>rfl
 have bx:∀(k:VP),D10 .add (.int .u8 0) (.int .u8 (E9 x:Int)) k=k (.int .u8 (E9 x:Int)):=fun k=>by
  rw[X6];have e:IntKind.u8.wrap (0+(E9 x:Int))=(E9 x:Int):=by rw[Int.zero_add];exact G68 O0
  show k (.int .u8 (IntKind.u8.wrap (0+(E9 x:Int))))=_;rw[e]
 have c0:∀(k:VP),W8 .i64 (.int .u8 (E9 x:Int)) k=k (O8 (E9 x:Int)):=fun k=>K69 O0 _ k
 rw[G1,show(.int .u64 24:Value) = .int .u64 ((24:Nat):Int) from rfl,s1];rw[show(O9 ((0:Nat):Int):Value)=O9 0 from rfl,t0];rw[show(.int .u64 16:Value) = .int .u64 ((16:Nat):Int) from rfl,s2];rw[show(O9 ((0:Nat):Int):Value)=O9 0 from rfl,a0,t0,b0];rw[show(.int .u64 8:Value) = .int .u64 ((8:Nat):Int) from rfl,s3];rw[show(O9 ((0:Nat):Int):Value)=O9 0 from rfl,a0,t0,b0,ax,tx,bx,c0,c0];unfold wK tB;refine .inl ⟨⟨⟨rfl,trivial⟩,trivial⟩,?_⟩;rw[J80,Y5];exact⟨rfl,D0.sf⟩
end Go.Proofs.YtoiioigihocgbaaGreatDoor
namespace Go.Clo
theorem K67:∀ x,x<64->0<x->x &&& (4294967296-x)=2^tz x:=by decide +kernel
theorem G60{x:Nat}(h0:0<x)(h:x<4294967296)(k:VP):wUn .neg (O9 (x:Int)) k=k (O9 ((4294967296-x:Nat):Int)):=by
 have e:unV .neg (O9 (x:Int))=some (O9 (eW.wrap (0-(x:Int)))):=rfl;have e2:eW.wrap (0-(x:Int))=((4294967296-x:Nat):Int):=by
  simp only[eY,eK,dW];simp;omega
 unfold wUn;rw[e,e2,J8];rfl
theorem U59(x:Int)(k:VP):U11 [O8 0,O6] [(0,1),(1,1)] [(0,O8 x)] k=k (.agg ⟨[O8 x,O6]⟩):=V14 _ _
theorem Y48(x:Int)(k:List Value->Prop):K6 1 1 [O9 0] [(0,O9 x)] k=k [O9 x]:=rfl
theorem D0.thru{H:Y0}{nx:Nat}{K:Y0}{m:Nat}{H':Y0}{nx':Nat}(a:D0 H nx K m)(b:D0 K nx H' nx'):D0 H nx H' nx':=⟨b.le,fun q hq=>(b.get q hq).trans (a.get q hq)⟩
theorem Acc.low{lo:Nat}{H:Y0}{nx size:Nat}{v:Value}{n:Nat}{c:List Value}(h:Acc lo H nx size v n c){i:Nat}(hi:i<lo)(b:Option V3):Acc lo (Go.Clo.hs H i b) nx size v n c:=by
 obtain⟨hl,h | ⟨q,h1,h2,h3,h4⟩⟩:=h
 .exact⟨hl,.inl h⟩
 .exact⟨hl,.inr ⟨q,h1,h2,h3,by rw[gN _];exact h4⟩⟩
theorem K62(a b x:Value):B12 [a,b] 1 [x]=[a,x]:=rfl
theorem Y22(a b:List Nat):K12 (a++b)=K12 a++K12 b:=by simp[K12]
end Go.Clo
namespace Go.Proofs.YtoiioigihocgbaaGreatDoor
open Go.Clo
theorem Q49{N s cap:Nat}{A:Option Addr}{es:List Nat}{H:Y0}{nx:Nat}(hS:Sl H nx A (K12 es))(hN:N<=6)(ah:∀ e ∈ es,e<2^N)(ap:es.length<=8)(al:s<4294967296):
  Q2 gQ 43 [gv N A es.length cap,O9 (s:Int)] H nx fun r H' nx'=>(∃ B,r=gv N B (D14 es s).length (D14 es s).length/\Sl H' nx' B (K12 (D14 es s))/\∀ b o t,B=some ⟨b,o,t⟩->nx<=b)/\D0 H nx H' nx':=by
 have ak:2^N<=64:=aK (n:=2) O0 hN;have Q:U14 es:=fun e he=>by have:=ah e he;omega
 have aj:N3 N es=0:=V11 O0 O0 fun i e he=>ah e (aH he)
 refine spec43 ?_;unfold F43;simp(disch:=omega)only[W0,Z0,Q0.val,C13];generalize hK:hs (hs H nx (O7 [O8 N,.slice A es.length cap])) (nx+1) (O7 [O8 0,O6])=K;have kG:J0 K nx=O7 [O8 N,.slice A es.length cap]:=by rw[<- hK,gN _,Z11]
 have kR:J0 K (nx+1)=O7 [O8 0,O6]:=by rw[<- hK,Z11]
 have aa:D0 H nx K (nx+1+1):=by
  rw[<- hK];exact(((D0.refl H nx).nw _:D0 H nx _ (nx+1)).nw _)
 refine R0 (N11 N A es cap _ _ (hS.ext aa) Q) ?_;rintro _ H3 E ⟨rfl,W⟩;have d1:decide (N3 N es≠0)=false:=by simp[aj]
 have g3:=(W.gt nx).trans kG;have r3:=(W.gt (nx+1)).trans kR;have an:=W.le;simp(disch:=omega)only[W0,Z0,Nat.reduceAdd,d1,g3,U59,G26];generalize ac:hs (hs H3 E (O7 [O8 0,O6])) E (O7 [O8 N,O6])=K4;have k4:J0 K4 E=O7 [O8 N,O6]:=by rw[<- ac,Z11]
 have a7:D0 H3 E K4 (E+1):=by rw[<- ac];exact((D0.refl _ _).nw _:D0 H3 E _ (E+1)).h0
 have g4:=(a7.gt nx).trans g3;refine B1 (m:=es.length) (fun m L H' nx'=>∃ i v,m+i=es.length/\L=[O8 (i:Int)]/\Acc (E+1) H' nx' 1 v (D14 (es.take i) s).length (K12 (D14 (es.take i) s))/\J0 H' E=O7 [O8 N,v]/\D0 K4 E H' nx'/\E+1<=nx') ?_
  ⟨0,O6,O0,rfl,Acc.nil _ _ _ _,k4,D0.sf,O0⟩
 rintro m ih L H5 U ⟨i,v,hm,rfl,hA,g5,Z,ag⟩ ad;have a0:D0 H nx H5 U:=(aa.trans W).trans (a7.thru Z);have r5:=((a7.thru Z).gt (nx+1)).trans r3
 by_cases hi:i<es.length
 case neg=>
  have V:¬ (i:Int)<(es.length:Int):=O0;rw[D23 hi] at hA;obtain⟨B,rfl,hB⟩:=hA.sl;simp only[W0,Z0,Nat.reduceAdd,V,g5,C13,r5,G26];refine⟨⟨B,rfl,?_,fun b o t e => ?_⟩,a0.h0⟩
  rotate_left
  .rcases hA.2 with ⟨_,e2⟩ | ⟨q,a1,a2,a3,_⟩
   .rw[e] at e2;cases e2
   .rw[e] at a3
    injection a3 with a4;injection a4 with a5;injection a5 with a6;omega
  obtain⟨B',e,ai⟩:=(hA.low (i:=nx+1) O0 (O7 [O8 N,.slice B (D14 es s).length (D14 es s).length])).sl
  cases e
  exact ai
 have V:(i:Int)<(es.length:Int):=O0;obtain⟨e,he⟩:∃ e,es[i]? = some e:=⟨_,aE hi⟩
 obtain⟨A,oA,V63,rfl,au,O,a9⟩:=(hS.ext a0).open (i:=i) (by rw[E1];omega);have ao:=Q.get he;have q0:=a9 _ _ (Q3 he);have J:=M58 s he;have aq:(D14 (es.take i) s).length<=8:=by have:=K46 (es.take i) s;rw[cK] at this;omega
 by_cases h0:e &&& s=0
 .rw[if_pos h0,gV] at J
  simp(disch:=omega)only[W0,V,X3 O,q0,h0,N13,ne_eq,not_true_eq_false];exact ad (m-1) _ _ _ O0 ⟨i+1,v,O0,O2,by rw[J];exact hA,g5,Z,ag⟩
 .rw[if_neg h0] at J
  simp(disch:=omega)only[W0,V,X3 O,q0,h0,N13,ne_eq,not_false_eq_true,g5,Y48];have a8:D0 H5 U (hs H5 U (O7 [O9 ((e &&& s:Nat):Int)])) (U+1):=(D0.refl _ _).nw _;have g6:=(a8.gt E).trans g5;refine Y20 (H0:=hs H5 U (O7 [O9 ((e &&& s:Nat):Int)])) (lo:=E+1) (m:=1) (l:=[O9 ((e &&& s:Nat):Int)]) O0 (hA.ext a8) (J9 (Z11 _ _ _) rfl O0) O0 rfl O0 O0 (D0.sf) O0 ?_;intro v' H' ab ae _;have g7:=(ae.gt E).trans g6;obtain⟨B',rfl,_⟩:=ab.sl;simp only[W0,Nat.reduceAdd,g7,K62];refine ad (m-1) _ _ _ O0 ⟨i+1,_,O0,O2,?_,Z11 _ _ _,?_,O0⟩
  .rw[J,Y22,bH]
   exact ab.low O0 _
  .exact(Z.thru ⟨O0,fun q hq=>(ae.gt q).trans (a8.gt q)⟩).h0
theorem V99{N s cap:Nat}{A:Option Addr}{es:List Nat}{H:Y0}{nx:Nat}(hS:Sl H nx A (K12 es))(hN:N<=6)(J:∀ e ∈ es,e<2^N)(O:es.length<=8)(E:s<4294967296):
  Q2 gQ 43 [gv N A es.length cap,O9 (s:Int)] H nx fun r H' nx'=>(∃ B,r=gv N B (D14 es s).length (D14 es s).length/\Sl H' nx' B (K12 (D14 es s)))/\D0 H nx H' nx':=
 (Q49 hS hN J O E).mono fun _ _ _ ⟨⟨B,h1,h2,_⟩,h3⟩=>⟨⟨B,h1,h2⟩,h3⟩
def D19(es:List Nat)(N:Nat):List Nat:=R8 (B2 es N) N N (2^N-1)
theorem N30{es:List Nat}{N:Nat}:∀(u x:Nat),(B2 es N)[u]? = some x->x<2^N:=by
 intro u x h;simp only[B2,cP,bU] at h;obtain⟨v,_,rfl⟩:=h
 split
 .exact G11 _ _
 .exact aQ _
theorem U41 {N cap:Nat} {A:Option Addr} {es:List Nat} {H:Y0} {nx:Nat} (hS:Sl H nx A (K12 es)) (hN:N<=6) (hsm:∀ e ∈ es,e<2^N) (hle:es.length<=8):
  Q2 Tryz.prog 42 [gv N A es.length cap] H nx fun r H' nx'=>(∃ B,r = .slice B (D19 es N).length (D19 es N).length/\Sl H' nx' B (K12 (D19 es N)))/\D0 H nx H' nx':=by
 have hp64:2^N<=64:=Nat.pow_le_pow_right (n:=2) (by omega) hN
 have hp1:0<2^N:=Nat.two_pow_pos N
 have hsm32:U14 es:=fun e he=>by have:=hsm e he;omega
 have hgc:N3 N es=0:=V11 (by omega) (by omega) fun i e he=>hsm e (List.mem_of_getElem? he)
 have haL:=N30 (es:=es) (N:=N)
 refine spec42 ?_
 unfold F42
 have hE1:D0 H nx (hs H nx (some (.cells [.int .i64 N,.slice A es.length cap] 0))) (nx+1):=(D0.refl H nx).new _ (Nat.le_refl _) (by omega)
 have k1:J0 (hs H nx (some (.cells [.int .i64 N,.slice A es.length cap] 0))) nx=some (.cells [.int .i64 N,.slice A es.length cap] 0):=Z11 _ _ _
 simp (disch:=first | omega | assumption | exact G0 (by assumption) | exact U10 (by assumption) | exact X0 (by omega) | fail   ) only[W0,Z0,Q0.val,C13]
 generalize hs H nx (some (.cells [.int .i64 N,.slice A es.length cap] 0))=K at *
 refine R0 (N11 N A es cap _ _ (hS.ext hE1) hsm32) ?_
 rintro _ H2 nx2 ⟨rfl,hE2⟩
 have d1:decide (N3 N es≠0)=false:=by simp[hgc]
 have g2:=(hE2.get nx (by omega)).trans k1
 have hle2:=hE2.le
 simp (disch:=first | omega | assumption | exact G0 (by assumption) | exact U10 (by assumption) | exact X0 (by omega) | fail   ) only[W0,d1,g2,C13]
 refine R0 (Q65 (by omega) A es cap _ _ (hS.ext (hE1.trans hE2)) hsm (by omega)) ?_
 rintro _ H3 nx3 ⟨rfl,hE3⟩
 have g3:=(hE3.get nx (by omega)).trans g2
 have hle3:=hE3.le
 have e1:(K12 (B2 es N)).length=32:=by rw[E1];exact N9 es N
 have e2:(K12 (List.replicate 32 0)).length=32:=by rw[E1];simp
 have e3:=G24 (c:=K12 (List.replicate 32 0)) (vs:=K12 (B2 es N)) (by rw[e1,e2])
 have e4:=W5 (B2 es N)
 rw[Q27]
 simp (disch:=first | omega | assumption | exact G0 (by assumption) | exact U10 (by assumption) | exact X0 (by omega) | fail  ) only[W0,e1,e2,e3,e4,g3]
 have hE4:D0 H3 nx3 (hs (hs H3 nx3 (some (.cells (K12 (List.replicate 32 0)) 0))) nx3 (some (.cells (K12 (B2 es N)) 0))) (nx3+1):=((D0.refl _ _).new _ (Nat.le_refl _) (m:=nx3+1) (by omega)).hs (Nat.le_refl _)
 have g43:J0 (hs (hs H3 nx3 (some (.cells (K12 (List.replicate 32 0)) 0))) nx3 (some (.cells (K12 (B2 es N)) 0))) nx3=some (.cells (K12 (B2 es N)) 0):=Z11 _ _ _
 generalize hs (hs H3 nx3 (some (.cells (K12 (List.replicate 32 0)) 0))) nx3 (some (.cells (K12 (B2 es N)) 0))=H4 at *
 have g4:=(hE4.get nx (by omega)).trans g3
 refine R0 (C51 (n:=N) (by omega) _ _) ?_
 rintro _ _ _ ⟨rfl,rfl,rfl⟩
 have hE04:=((hE1.trans hE2).trans hE3).trans hE4
 generalize hL:B2 es N=aL at *
 have hLN:aL.length=32:=by rw[<- hL];exact N9 es N
 refine B1 (m:=N) (fun m L H' nx'=>∃ (l:Nat) (v:Value) (res:List Nat),L=[v,.int .u32 (l:Int)]/\(V5 N l).length<=m/\l<2^N/\res.length+m<=N+1/\res++R8 aL N m l=D19 es N/\Acc (nx3+1) H' nx' 1 v res.length (K12 res)/\D0 H4 (nx3+1) H' nx') ?_
  ⟨2^N-1,.slice none 0 0,[],rfl,Q15 _ _,by omega,by simp,by unfold D19;rw[hL];rfl,Acc.nil _ _ _ _,D0.refl _ _⟩
 rintro m ih L H5 nx5 ⟨l,v,res,rfl,hm,hl,hrm,hres,hA,hE5⟩ hih
 have g5:=(hE5.get nx (by omega)).trans g4
 have g53:=(hE5.get nx3 (by omega)).trans g43
 have hle5:=hE5.le
 have M44:l<4294967296:=by omega
 by_cases h0:l=0
 .subst h0
  have e:R8 aL N m 0=[]:=by cases m<;>rfl
  rw[e,List.append_nil] at hres
  obtain⟨B,rfl,hB⟩:=hA.sl
  simp (disch:=first | omega | assumption | exact G0 (by assumption) | exact U10 (by assumption) | exact X0 (by omega) | fail   ) only[W0,ne_eq,not_true_eq_false]
  rw[hres] at hB ⊢
  exact⟨⟨B,rfl,hB⟩,hE04.trans hE5⟩
 have h0':¬ (l:Int)=0:=by omega
 obtain⟨m',rfl⟩:∃ m',m=m'+1:=by
  cases m with
  | zero=>
   obtain⟨u,hu⟩:=B14 h0
   have:=U43 (R7 hl hu) hu
   omega
  | succ m=>exact⟨m,rfl⟩
 have e:R8 aL N (m'+1) l=W7 aL N N 0 (2^tz l) :: R8 aL N m' (Z2 l (W7 aL N N 0 (2^tz l))):=if_neg h0
 rw[e] at hres
 have hv:=B54 (N:=N) (by omega) (by omega) hl
 have hlv:=V33 (x:=l) (by omega) (by omega)
 have hlow:=K67 l (by omega) (by omega)
 have hI:=E65 (aL:=aL) haL hv
 have hn32:4294967296-l<4294967296:=by omega
 have hneg:=fun k=>G60 (x:=l) (by omega) M44 k
 simp (disch:=first | omega | assumption | exact G0 (by assumption) | exact U10 (by assumption) | exact X0 (by omega) | fail  ) only[W0,ne_eq,h0',not_false_eq_true,hneg,hlow]
 generalize tz l=t at *
 refine B1 (m:=N) (fun f L H' nx'=>∃ (c b:Nat),L=[.int .u32 (c:Int),.int .u32 (b:Int)]/\c<2^N/\b<2^N/\N<=f+(V5 N c).length/\(∀ w,b.testBit w=true->c.testBit w=false)/\W7 aL N f c b=W7 aL N N 0 (2^t)/\H5=H'/\nx5=nx') ?_
  ⟨0,2^t,rfl,hp1,R27 hv,by omega,by simp,rfl,rfl,rfl⟩
 rintro f ih6 L _ _ ⟨c,b,rfl,hc,hb,hf,hd,hcb,rfl,rfl⟩ hih6
 have hc32:c<4294967296:=by omega
 have hb32:b<4294967296:=by omega
 by_cases hb0:b=0
 .subst hb0
  have e5:W7 aL N f c 0=c:=by cases f<;>rfl
  rw[e5] at hcb
  rw[<- hcb] at hres hI
  have hm2:=X35 hv hlv hI.self
  have hnd32:Z2 l c<4294967296:=U10 M44
  have hE6:D0 H5 nx5 (hs H5 nx5 (some (.cells [.int .u32 (c:Int)] 0))) (nx5+1):=(D0.refl _ _).new _ (Nat.le_refl _) (by omega)
  simp (disch:=first | omega | assumption | exact G0 (by assumption) | exact U10 (by assumption) | exact X0 (by omega) | fail  ) only[W0,ne_eq,not_true_eq_false,Y48]
  refine Y20 (H0:=H4) (lo:=nx3+1) (m:=1) (l:=[.int .u32 (c:Int)]) (by omega) (hA.ext hE6) (J9 (Z11 _ _ _) rfl (by omega)) (by omega) rfl (by omega) (by omega) (hE5.trans hE6) (by omega) ?_
  intro v' H' hA' hE' _
  refine hih m' _ _ _ (by omega) ⟨Z2 l c,v',res++[c],rfl,by omega,Z6 hl,by simp;omega,by rw[List.append_assoc];exact hres,?_,hE'⟩
  rw[Y22,List.length_append]
  exact hA'
 have hb0':¬ (b:Int)=0:=by omega
 obtain⟨f',rfl⟩:∃ f',f=f'+1:=by
  cases f with
  | zero=>exact absurd (X20 hb hd (by have:=Q15 N c;omega)) hb0
  | succ f=>exact⟨f,rfl⟩
 have e6:W7 aL N (f'+1) c b=W7 aL N f' (c ||| b) (Z2 (Q4 aL b N) (c ||| b)):=if_neg hb0
 rw[e6] at hcb
 have hg:=R25 hb hb0 hd
 have hcb32:c ||| b<2^N:=Z26 hc hb
 simp (disch:=first | omega | assumption | exact G0 (by assumption) | exact U10 (by assumption) | exact X0 (by omega) | fail  ) only[W0,ne_eq,hb0',not_false_eq_true,g5]
 refine B1 (m:=N) (fun q L H' nx'=>∃ (j:Nat),q+j=N/\L=[.int .u32 (Q4 aL b j:Int),.int .i64 (j:Int)]/\H5=H'/\nx5=nx') ?_ ⟨0,by omega,rfl,rfl,rfl⟩
 rintro q ih7 L _ _ ⟨j,hq,rfl,rfl,rfl⟩ hih7
 have hnl:=Z14 (b:=b) haL
 by_cases hj:j<N
 case neg=>
  obtain rfl:j=N:=by omega
  have hj':¬ (j:Int)<(j:Int):=by omega
  have hnj:=hnl j
  have hx32:Q4 aL b j<4294967296:=by omega
  have hy32:c ||| b<4294967296:=by omega
  simp (disch:=first | omega | assumption | exact G0 (by assumption) | exact U10 (by assumption) | exact X0 (by omega) | fail  ) only[W0,hj']
  refine hih6 f' _ _ _ (by omega) ⟨c ||| b,Z2 (Q4 aL b j) (c ||| b),rfl,hcb32,Z6 hnj,by omega,fun w hw => ?_,hcb,rfl,rfl⟩
  rw[N1,Bool.and_eq_true] at hw
  simpa using hw.2
 have hj':(j:Int)<(N:Int):=by omega
 obtain⟨x,hx⟩:∃ x,aL[j]? = some x:=⟨aL[j]'(by omega),List.getElem?_eq_getElem _⟩
 have hx2:=haL j x hx
 have hx32:x<4294967296:=by omega
 have hnj:=hnl j
 have hn32:Q4 aL b j<4294967296:=by omega
 have hxD:aL.getD j 0=x:=by simp[List.getD_eq_getElem?_getD,hx]
 have gx:=Q3 hx
 have hstep:Q4 aL b (j+1)=if b.testBit j=true then Q4 aL b j ||| aL.getD j 0 else Q4 aL b j:=rfl
 rw[hxD] at hstep
 have hj32:j<32:=by omega
 cases hbj:b.testBit j with
 | false=>
  rw[hbj,if_neg (by simp)] at hstep
  simp (disch:=first|omega|assumption|exact G0 (by assumption)|exact U10 (by assumption)|exact X0 (by omega)|fail) only[W0,hj',N13,hbj]
  exact hih7 (q-1) _ _ _ (by omega) ⟨j+1,by omega,by rw[hstep];simp,rfl,rfl⟩
 | true=>
  rw[hbj,if_pos rfl] at hstep
  simp (disch:=first|omega|assumption|exact G0 (by assumption)|exact U10 (by assumption)|exact X0 (by omega)|fail) only[W0,hj',N13,hbj,g53,gx]
  exact hih7 (q-1) _ _ _ (by omega) ⟨j+1,by omega,by rw[hstep];simp,rfl,rfl⟩
end Go.Proofs.YtoiioigihocgbaaGreatDoor
namespace Go.Clo
theorem Z93{P:Program}{f:FuncId}{args:List Value}{E H:Y0}{nx p q:Nat}{k:EP}{Q:EP}(J:∀ i b,J0 E i=some b->J0 H i=some b)(hp:X51 E p)(hq:X51 E q)(h:Q2 P f args E nx Q)(hQ:∀ v H0 nx',Q v H0 nx'->Kp E nx p q H0 nx')(hk:∀ v H' nx' H0,Q v H0 nx'->Kp H nx p q H' nx'->Sub H0 nx' H'->Top H' nx'->k v H' nx'):Y2 P f args H nx k:=by
 obtain⟨v,H0,nx',hc,O⟩:=h;have hE:=hQ _ _ _ O;obtain⟨ep,cp,hp⟩:=hp;obtain⟨eq,cq,hq⟩:=hq;obtain⟨H',h1,h2⟩:=M90 (fun i=>if i<nx/\J0 E i=none/\(J0 H i).isSome=true then J0 H i else J0 H0 i) nx';refine .inr ⟨v,H',nx',hc.beside J hE.le h1 h2,hk v H' nx' H0 O ⟨hE.le,fun i hi h3 h4 => ?_⟩ (fun i b hi hb => ?_) h2⟩
 .rw[h1 i (aO hi hE.le)]
  split
  .rfl
  .rename_i hn
   rw[hE.get i hi h3 h4]
   cases hg:J0 E i with
   | some b=>rw[J i b hg]
   | none=>
    cases U:J0 H i with
    | none=>rfl
    | some b=>exact absurd ⟨hi,hg,by rw[U];rfl⟩ hn
 .rw[h1 i hi,if_neg]
  .exact hb
  .rintro⟨g1,g2,_⟩
   have h3:i≠p:=by rintro rfl;rw[hp] at g2;cases g2
   have h4:i≠q:=by rintro rfl;rw[hq] at g2;cases g2
   rw[hE.get i g1 h3 h4,g2] at hb
   cases hb
theorem X51.sub{E H:Y0}{p:Nat}(h:X51 E p)(hs:∀ i b,J0 E i=some b->J0 H i=some b):X51 H p:=let ⟨es,c,h1⟩:=h;⟨es,c,hs _ _ h1⟩
theorem X51.out{H:Y0}{p:Nat}{qs:List Nat}(h:X51 (D6 H qs) p):p ∉ qs:=fun hm=>by
 obtain⟨es,c,h1⟩:=h;rw[U73 hm] at h1;cases h1
theorem R91{P:Program}{f:FuncId}{args:List Value}{H:Y0}{nx p q:Nat}{qs:List Nat}{k:EP}{Q:EP}(O:∀ q ∈ qs,q<nx)(hp:X51 (D6 H qs) p)(hq:X51 (D6 H qs) q)(h:Q2 P f args (D6 H qs) nx Q)(hQ:∀ v H0 nx',Q v H0 nx'->Kp (D6 H qs) nx p q H0 nx')(hk:∀ v H' nx' H0,Q v H0 nx'->Kp H nx p q H' nx'->Sub H0 nx' (D6 H' qs)->Top H' nx'->k v H' nx'):Y2 P f args H nx k:=by
 refine Z93 N68 hp hq h hQ fun v H' nx' H0 E hE hS hT=>hk v H' nx' H0 E hE (fun i b hi hb => ?_) hT
 have J:=hQ _ _ _ E;have h1:i ∉ qs:=fun hm=>by
  rw[J.get i (O i hm) (fun e=>hp.out (e ▸ hm)) (fun e=>hq.out (e ▸ hm)),U73 hm] at hb
  cases hb
 rw[Q50 h1];exact hS i b hi hb
theorem Kp.er{H:Y0}{nx p q:Nat}{H':Y0}{nx':Nat}(a:Kp H nx p q H' nx')(qs:List Nat):Kp (D6 H qs) nx p q (D6 H' qs) nx':=⟨a.le,fun x h1 h2 h3=>by
 by_cases hx:x ∈ qs
 .rw[U73 hx,U73 hx]
 .rw[Q50 hx,Q50 hx];exact a.get x h1 h2 h3⟩
theorem D0.er{H:Y0}{nx:Nat}{H':Y0}{nx':Nat}(a:D0 H nx H' nx')(qs:List Nat):D0 (D6 H qs) nx (D6 H' qs) nx':=⟨a.le,fun x h1=>by
 by_cases hx:x ∈ qs
 .rw[U73 hx,U73 hx]
 .rw[Q50 hx,Q50 hx];exact a.get x h1⟩
theorem U29.sub{H:Y0}{nx r:Nat}{M:Nat->Option Value}{H':Y0}(h:U29 H r M)(hr:r<nx)(e:Sub H nx H'):U29 H' r M:=by
 obtain⟨es,c,h1,h2⟩:=h;exact⟨es,c,e r _ hr h1,h2⟩
theorem Sl.sub'{H:Y0}{nx:Nat}{A:Option Addr}{l:List Value}{H':Y0}(h:Sl H nx A l)(e:Sub H nx H'):Sl H' nx A l:=by
 intro i v hv;obtain⟨b,o,row,e1,e2,e3,e4⟩:=h i v hv;refine⟨b,o,row,e1,e2,?_,e4⟩;unfold Q5 at e3 ⊢
 cases hg:J0 H b with
 | none=>rw[hg] at e3;cases e3
 | some x=>rw[hg] at e3;rw[e b x e2 hg];exact e3
end Go.Clo
namespace Go.Proofs.YtoiioigihocgbaaGreatDoor
open Go.Clo
theorem SV.sub{H:Y0}{nx p rc rl N:Nat}{A:Option Addr}{cap:Nat}{es nb:List Nat}{L:Nat->Rat}{H':Y0}(h:SV H nx p rc rl N A cap es nb L)(e:Sub H nx H'):SV H' nx p rc rl N A cap es nb L:=by
 refine⟨e p _ h.pn h.hp,h.pn,h.rcn,h.rln,h.nbl,h.es'.sub' e,?_,?_,h.ne⟩
 .obtain⟨M,a,b⟩:=h.cm
  exact⟨M,a.sub h.rcn e,fun n v hv=>(b n v hv).sub e⟩
 .obtain⟨M,a,b⟩:=h.lm
  exact⟨M,a.sub h.rln e,fun n v hv=>(b n v hv).sub e⟩
def M72(es nb:List Nat)(N:Nat)(width:Rat)(c l v:Nat):Bool:=
 l.testBit v&&(decide (Y25 es nb N c v l<=width)&&decide (M45 N (Y25 es nb N c) (Z2 l (2^v))<=width))
theorem B107{H:Y0}{m p rc rl N cap:Nat}{A:Option Addr}{es nb:List Nat}{L:Nat->Rat}{qs:List Nat}(h:SV (D6 H qs) m p rc rl N A cap es nb L)(W:∀ q ∈ qs,q<m)(hN:N<=6)(ay:∀ e ∈ es,e<2^N)(a0:es.length<=8)(ae:∀(u x:Nat),nb[u]? = some x->x<2^N)(a6:∀ w,w<N->∃ e ∈ es,e.testBit w=true){t3 t4 t5 t7 a:Nat}{lefts comps:List Nat}{CA:Option Addr}{kc:Nat}{c5:List Value}{width:Rat}(l3:t3<m)(l4:t4<m)(l5:t5<m)(l7:t7<m)(la:a<m)(g7:J0 H t7=some (.cells [.slice (some ⟨a,0,none⟩) lefts.length lefts.length] 0))(ga:J0 H a=some (.cells (K12 lefts) 0))(g3:J0 H t3=some (.cells [.pointer (some ⟨p,0,none⟩)] 0))(g4:J0 H t4=some (.cells [.slice CA comps.length kc] 0))(gc:Sl H m CA (K12 comps))(g5:J0 H t5=some (.cells c5 0))(a4:V7 c5)(hw:RR (D6 H qs) m (.agg ⟨c5⟩) width)(an:U15 width 100000){i v c l:Nat}(hi:lefts[i]? = some l)(aj:comps[i]? = some c)(hv:v<N)(hc:c<2^N)(hl:l<2^N)(c7:∀ w,l.testBit w=true->c.testBit w=true)(hL:∀ l,l≠0->(∀ w,l.testBit w=true->c.testBit w=true)->L l=M45 N (Y25 es nb N c) l):
  Q2 gQ 82 [.int .i64 (i:Int),.int .i64 (v:Int),.pointer (some ⟨t7,0,none⟩),.pointer (some ⟨t3,0,none⟩),.pointer (some ⟨t4,0,none⟩),.pointer (some ⟨t5,0,none⟩)] H m
   fun r H' m'=>r = .bool (M72 es nb N width c l v)/\SV (D6 H' qs) m' p rc rl N A cap es nb L/\Kp H m rc rl H' m':=by
 have ca:2^N<=64:=aK (n:=2) O0 hN;have ab:∀ s,s<2^N->∀ v,s.testBit v=true->∃ e ∈ es,e.testBit v=true:=fun s hs v hv=>a6 v (R7 hs hv)
 have ct:=N12 hi;have a7:=N12 aj;have M44:l<4294967296:=O0;have cp:c<4294967296:=O0;have cf:v<32:=O0;have gl:=Q3 hi;have az:=Q3 aj;have a2:∀ l,U15 (M45 N (Y25 es nb N c) l) 100000:=fun l=>(K77 (Y75 _ O0) (fun v l=>B65 es N _ a0) l).1
 refine spec82 ?_;unfold F82;have ac:D0 H m H (m+45):=D0.self O0;have h0:=h.ext (ac.er qs);obtain⟨B,o,row,rfl,cx,U,ai⟩:=gc.open (i:=i) (by rw[E1];omega);have q0:=ai _ _ az;simp(disch:=try exact O4)only[W0,g7,ga,gl]
 cases a1:l.testBit v with
 | false=>
  simp(disch:=first | omega | assumption | exact G0 O1 | exact U10 O1 | exact X0 O0 | fail   )only[W0];refine⟨?_,h0,ac.kp⟩;unfold M72;rw[a1];rfl
 | true=>
  have cg:2^v<4294967296:=by have:=R27 hv;omega
  simp(disch:=first | omega | assumption | exact G0 O1 | exact U10 O1 | exact X0 O0 | fail  )only[W0,g3,g4,X3 U,q0];refine X65 (qs:=qs) (fun q hq=>by have:=W q hq;omega) (V100 h0 hN ae hv hc hl) (fun _ _ _ h=>h.2) ?_;rintro _ H2 m2 H0 ⟨rfl,c9⟩ Z bk _;have h2:=(h0.ext c9).sub bk;have ak:=R96 (nb:=nb) (v:=v) (comp:=c) (left:=l) ae hN hv;have c4:=E92 (nb:=nb) (comp:=c) hN hv a1;have co:=Z.le;refine R91 (qs:=qs) (fun q hq=>by have:=W q hq;omega) h2.ic h2.il (Y87 h2 O0 ay a0 ak (U43 hv c4) (ab _ ak)) (fun _ _ _ h=>h.2.2) ?_;rintro v3 H3 m3 cv ⟨c6,bx,cu⟩ a3 al _;have h3:=bx.sub al;have b8:=c6.sub al;have cd:=a3.le;have ax:=h2.ic.sub N68;have a7:=h2.il.sub N68;have ag:=(Z.get t5 O0).trans g5;have ad:=a3.cell ax a7 O0 ag;have av:=(Z.get t3 O0).trans g3;have aw:=((hw.ext (ac.er qs)).ext (Z.er qs)).kp (a3.er qs) h2.ic h2.il;simp(disch:=first | omega | assumption | exact G0 O1 | exact U10 O1 | exact X0 O0 | fail   )only[W0,ad,X15 a4];refine X65 (qs:=qs) (fun q hq=>by have:=W q hq;omega) (X81 b8 aw (B65 es N _ a0) an) (fun _ _ _ h=>h.2) ?_;rintro _ H4 m4 cj ⟨rfl,bo⟩ a9 c3 _;have h4:=(h3.ext bo).sub c3;have cn:=a9.le;have ce:=h3.ic.sub N68;have cc:=h3.il.sub N68;have au:D0 H m H2 m2:=⟨O0,fun q hq=>Z.get q O0⟩
  have O:Kp H m rc rl H4 m4:=(au.kp.trans a3).trans a9.kp;have J:=h.ic.sub N68;have E:=h.il.sub N68;have ap:=O.cell J E l3 g3;have ah:=O.cell J E l4 g4;have ba:=O.cell J E l5 g5;have b3:=O.cell J E l7 g7;have aq:=O.cell J E la ga;have bv:=gc.kp O J E;have bu:=aw.ext (a9.er qs);have d3:decide (N70 (Y25 es nb N c v l) width<=0)=decide (Y25 es nb N c v l<=width):=by rw[eX,decide_eq_true_eq,decide_eq_true_eq];exact J98
  rw[show Y74 es N (C78 nb N v c l)=Y25 es nb N c v l from rfl]
  cases Q:decide (Y25 es nb N c v l<=width) with
  | false=>
   rw[Q] at d3;simp(disch:=first | omega | assumption | exact G0 O1 | exact U10 O1 | exact X0 O0 | fail   )only[W0,d3,g5,ag,av,X15 a4];refine⟨?_,h4,O⟩;unfold M72;rw[a1,Q];rfl
  | true=>
   rw[Q] at d3;obtain⟨B',o',row',e',ci,V,aa⟩:=bv.open (i:=i) (by rw[E1];omega)
   cases e'
   have q4:=aa _ _ az;have c8:Z2 l (2^v)<4294967296:=U10 M44;simp(disch:=first | omega | assumption | exact G0 O1 | exact U10 O1 | exact X0 O0 | fail  )only[W0,d3,ap,ah,X3 V,q4,b3,aq,gl];refine R91 (qs:=qs) (fun q hq=>by have:=W q hq;omega) h4.ic h4.il (V88 hN ay a0 ae a6 hc hL (Z2 l (2^v)) (Z6 hl) (Y85 c7) (D6 H4 qs) m4 h4) (fun _ _ _ h=>h.2.2) ?_;rintro v5 H5 m5 bg ⟨bt,bc,cq⟩ a8 ao _;have h5:=bc.sub ao;have bh:=bt.sub ao;have ck:=a8.le;have a5:=O.trans a8;have b4:=a5.cell J E l5 g5;have bw:=bu.kp (a8.er qs) h4.ic h4.il;simp(disch:=first | omega | assumption | exact G0 O1 | exact U10 O1 | exact X0 O0 | fail   )only[W0,b4,X15 a4];refine X65 (qs:=qs) (fun q hq=>by have:=W q hq;omega) (X81 bh bw (a2 _) an) (fun _ _ _ h=>h.2) ?_;rintro _ H6 m6 b5 ⟨rfl,bd⟩ bz bf _;have h6:=(h5.ext bd).sub bf;have d6:decide (N70 (M45 N (Y25 es nb N c) (Z2 l (2^v))) width<=0)=decide (M45 N (Y25 es nb N c) (Z2 l (2^v))<=width):=by rw[eX,decide_eq_true_eq,decide_eq_true_eq];exact J98
   simp(disch:=first | omega | assumption | exact G0 O1 | exact U10 O1 | exact X0 O0 | fail   )only[W0,d6,ba,X15 a4,g5,ag,av];refine⟨?_,h6,a5.trans bz.kp⟩;unfold M72;rw[a1,Q];rfl
section
variable {A:Option Addr} {H H0:Y0} {L:Nat->Rat} {N c cap i m p rc rl:Nat} {c5:List Value} {es l lefts nb:List Nat} {perm:List Int} {v:Value} {width:Rat}
def D75(es nb:List Nat)(N:Nat)(width:Rat)(comps lefts:List Nat)(v:Nat):Nat->Nat->Option Nat
 | 0,_=>none
 | f+1,i=>if M72 es nb N width (comps.getD i 0) (lefts.getD i 0) v=true then some i else D75 es nb N width comps lefts v f (i+1)
def E80(es nb:List Nat)(N:Nat)(width:Rat)(comps lefts:List Nat):Nat->Nat->Option (Nat × Nat)
 | 0,_=>none
 | f+1,v=>match D75 es nb N width comps lefts v lefts.length 0 with
  | some i=>some (v,i)
  | none=>E80 es nb N width comps lefts f (v+1)
def Q73(es nb:List Nat)(N:Nat)(width:Rat)(comps:List Nat)(s:List Int × List Nat):List Int × List Nat:=match E80 es nb N width comps s.2 N 0 with
 | some (v,i)=>(s.1++[(v:Int)],s.2.set i (Z2 (s.2.getD i 0) (2^v)))
 | none=>s
def C54(es nb:List Nat)(N:Nat)(width:Rat)(comps:List Nat):Nat->List Int × List Nat
 | 0=>([],comps)
 | n+1=>Q73 es nb N width comps (C54 es nb N width comps n)
def M71(comps:List Nat):Nat:=comps.foldl (fun n c=>n+E9 c) 0
theorem B103(h:l[i]? = some c):M71 (l.take (i+1))=M71 (l.take i)+E9 c:=by
 unfold M71;rw[C7 h,List.foldl_append];rfl
theorem W110:∀ l:List Nat,M71 l<=6*l.length:=by
 have key:∀(l:List Nat) (n:Nat),l.foldl (fun n c=>n+E9 c) n<=n+6*l.length:=by
  intro l
  induction l with
  | nil=>intro n;simp
  | cons c l ih=>
   intro n;have h1:=ih (n+E9 c);have h2:E9 c<=6:=Q15 _ _;simp only[dF,cV];omega
 intro l;have:=key l 0;unfold M71;omega
theorem U110(h:l[i]? = some c):(l.take i++aF (l.length-i) 0).set i c=l.take (i+1)++aF (l.length-(i+1)) 0:=by
 have hi:=N12 h;have e:(l.take i).length=i:=by rw[cK];omega
 rw[C7 h,List.append_assoc];obtain⟨k,hk⟩:∃ k,l.length-i=k+1:=⟨l.length-i-1,O0⟩
 rw[hk,show l.length-(i+1)=k by omega,List.replicate_succ,List.set_append,if_neg O0,e,Nat.sub_self]
 rfl
theorem M102(a x:Value):B12 [a] 0 [x]=[x]:=rfl
def W85(es nb:List Nat)(N:Nat)(width:Rat)(comps:List Nat):List Int:=(C54 es nb N width comps (M71 comps)).1
def U81(N:Nat)(comps lefts:List Nat):Prop:=lefts.length=comps.length/\∀(i l c:Nat),lefts[i]? = some l->comps[i]? = some c->l<2^N/\∀ w,l.testBit w=true->c.testBit w=true
theorem U81.set{N:Nat}{comps lefts:List Nat}(h:U81 N comps lefts)(i v:Nat):U81 N comps (lefts.set i (Z2 (lefts.getD i 0) (2^v))):=by
 refine⟨by rw[dO];exact h.1,fun j l c hl hc => ?_⟩;rw[cQ] at hl
 split at hl
 .rename_i e
  subst e
  split at hl
  .rename_i E
   cases hl
   have hg:lefts[i]? = some lefts[i]:=aE E;obtain⟨h1,h2⟩:=h.2 i _ c hg hc;have e:lefts.getD i 0=lefts[i]:=by simp[aP,hg]
   rw[e];exact⟨Z6 h1,Y85 h2⟩
  .cases hl
 .exact h.2 j l c hl hc
theorem W104{comps:List Nat}{s:List Int × List Nat}(h:U81 N comps s.2):U81 N comps (Q73 es nb N width comps s).2/\(Q73 es nb N width comps s).1.length<=s.1.length+1:=by
 unfold Q73
 split
 .exact⟨h.set _ _,O2⟩
 .exact⟨h,O0⟩
structure FS (H0:Y0) (b0 p rc rl N:Nat) (A:Option Addr) (cap:Nat) (es nb:List Nat) (L:Nat->Rat) (c5:List Value) (width:Rat) (v:Value) (perm:List Int) (lefts:List Nat) (H:Y0) (m:Nat):Prop where
 sv:SV (D6 H [b0,R5 b0 v]) m p rc rl N A cap es nb L
 kp:Kp H0 b0 rc rl H m
 g7:J0 H (b0+1)=some (.cells [.slice (some ⟨b0,0,none⟩) lefts.length lefts.length] 0)
 ga:J0 H b0=some (.cells (K12 lefts) 0)
 acc:Acc (b0+2) H m 1 v perm.length (U4 perm)
 wd:RR (D6 H [b0,R5 b0 v]) m (.agg ⟨c5⟩) width
 le:b0+2<=m
theorem FS.step{b0:Nat}{H':Y0}{m':Nat}(h:FS H0 b0 p rc rl N A cap es nb L c5 width v perm lefts H m)(e:Kp H m rc rl H' m')(s:SV (D6 H' [b0,R5 b0 v]) m' p rc rl N A cap es nb L):FS H0 b0 p rc rl N A cap es nb L c5 width v perm lefts H' m':=by
 have J:=h.le;have E:=e.le;have hc:=h.sv.ic.sub N68;have hl:=h.sv.il.sub N68;refine⟨s,h.kp.trans ⟨e.le,fun x h1 h2 h3=>e.get x h1 h2 h3⟩,e.cell hc hl O0 h.g7,e.cell hc hl O0 h.ga,?_,h.wd.kp (e.er _) h.sv.ic h.sv.il,O0⟩;obtain⟨h1,h2 | ⟨b,h2,h3,h4,h5⟩⟩:=h.acc
 .exact⟨h1,.inl h2⟩
 .exact⟨h1,.inr ⟨b,h2,O0,h4,e.cell hc hl h3 h5⟩⟩
theorem FS.ext{H0:Y0}{b0 p rc rl N:Nat}{A:Option Addr}{cap:Nat}{es nb:List Nat}{L:Nat->Rat}{c5:List Value}{width:Rat}{v:Value}{perm:List Int}{lefts:List Nat}{H:Y0}{m:Nat}{H':Y0}{m':Nat}(h:FS H0 b0 p rc rl N A cap es nb L c5 width v perm lefts H m)(e:D0 H m H' m'):FS H0 b0 p rc rl N A cap es nb L c5 width v perm lefts H' m':=h.step e.kp (h.sv.ext (e.er _))
theorem FS.qs{b0:Nat}(h:FS H0 b0 p rc rl N A cap es nb L c5 width v perm lefts H m):∀ q ∈ [b0,R5 b0 v],q<m:=by
 have E:=h.le;intro q hq;rcases aU.1 hq with rfl | hq
 .omega
 .rw[dJ] at hq
  subst hq;exact W75 h.acc O0
theorem R107{lo:Nat}{nx size:Nat}{n k:Nat}{c:List Value}(h:Acc lo H nx size (.slice A n m) k c):Has H nx A:=by
 rcases h.2 with ⟨_,e⟩ | ⟨b,_,h2,e,h4⟩
 .cases e;exact .inl rfl
 .cases e;exact .inr ⟨b,0,c,rfl,h2,by simp[Q5,h4,V3.row]⟩
theorem R103{nx p rc rl N cap:Nat}{es nb:List Nat}{L:Nat->Rat}(h:SV H nx p rc rl N A cap es nb L)(hN:N<=6)(cg:∀ e ∈ es,e<2^N)(ce:es.length<=8)(co:∀(u x:Nat),nb[u]? = some x->x<2^N)(bf:∀ w,w<N->∃ e ∈ es,e.testBit w=true){comps:List Nat}{CA:Option Addr}(gc:Sl H nx CA (K12 comps))(hw:RR H nx (.agg ⟨c5⟩) width)(c8:U15 width 100000)(dc:comps.length<=32)(U:∀ c ∈ comps,c<2^N)(hL:∀ c ∈ comps,∀ l,l≠0->(∀ w,l.testBit w=true->c.testBit w=true)->L l=M45 N (Y25 es nb N c) l):
  Q2 gQ 49 [.pointer (some ⟨p,0,none⟩),.slice CA comps.length comps.length,.agg ⟨c5⟩] H nx
   fun r H' nx'=>(∃ B,r = .slice B (W85 es nb N width comps).length (W85 es nb N width comps).length/\Sl H' nx' B (U4 (W85 es nb N width comps))/\Has H' nx' B)/\Kp H nx rc rl H' nx':=by
 have ap:2^N<=64:=aK (n:=2) O0 hN;have d4:=h.pn;have cx:=h.rcn;have d3:=h.rln;have bt:V7 c5:=hw.tri;refine spec49 ?_;unfold F49;simp only[W1];rw[W44,Q37,N35,Q37,Y31,bt.one,if_pos rfl,Q37];simp only[Q0.val];generalize hK:hs (hs (hs H nx (some (.cells [.pointer (some ⟨p,0,none⟩)] 0))) (nx+1) (some (.cells [.slice CA comps.length comps.length] 0))) (nx+1+1) (some (.cells c5 0))=K;have k3:J0 K nx=some (.cells [.pointer (some ⟨p,0,none⟩)] 0):=by rw[<- hK,Z1 _ O0,Z1 _ O0,Z11]
 have k4:J0 K (nx+1)=some (.cells [.slice CA comps.length comps.length] 0):=by rw[<- hK,Z1 _ O0,Z11]
 have k5:J0 K (nx+1+1)=some (.cells c5 0):=by rw[<- hK,Z11]
 have a2:D0 H nx K (nx+1+1+1):=by
  rw[<- hK];exact(((D0.refl _ _).new _ (aD _) (m:=nx+1) O0).new _ O0 (m:=nx+1+1) O0).new _ O0 O0
 have b8:comps.length<=1000000:=O0;have E6:=h.ext a2;have ax:=hw.ext a2;have hgK:=gc.ext a2;clear hK;obtain⟨b0,b5⟩:∃ b0,b0=nx+1+1+1:=⟨_,rfl⟩
 rw[<- b5] at a2 E6 ax hgK ⊢;have l3:nx<b0:=O0;have l4:nx+1<b0:=O0;have l5:nx+1+1<b0:=O0;have p3:nx≠p:=O0;obtain⟨t5,av⟩:∃ t5,t5=nx+1+1:=⟨_,rfl⟩
 obtain⟨t4,bu⟩:∃ t4,t4=nx+1:=⟨_,rfl⟩
 rw[<- av] at k5 l5 ⊢;rw[<- bu] at k4 l4 ⊢;have cu:nx<=b0:=O0;clear b5 av bu;simp(disch:=try exact O3)only[W0,Q0.val,k4,M27 b8,C23,M102];generalize ad:hs (hs (hs K b0 (some (.cells (K12 (aF comps.length 0)) 0))) (b0+1) (some (.cells [.slice none 0 0] 0))) (b0+1) (some (.cells [.slice (some ⟨b0,0,none⟩) comps.length comps.length] 0))=K1;have q7:J0 K1 (b0+1)=some (.cells [.slice (some ⟨b0,0,none⟩) comps.length comps.length] 0):=by rw[<- ad,Z11]
 have qa:J0 K1 b0=some (.cells (K12 (aF comps.length 0)) 0):=by rw[<- ad,Z1 _ O0,Z1 _ O0,Z11]
 have bc:D0 K b0 K1 (b0+1+1):=by
  rw[<- ad];exact(((D0.refl _ _).new _ (aD _) (m:=b0+1) O0).new _ O0 (m:=b0+1+1) O0).hs O0
 have q4:=(bc.get t4 l4).trans k4;refine B1 (m:=comps.length) (fun f L H' nx'=>∃ i,f+i=comps.length/\L=[.int .i64 (M71 (comps.take i):Int),.int .i64 (i:Int)]/\J0 H' b0=some (.cells (K12 (comps.take i++aF (comps.length-i) 0)) 0) /\
  J0 H' (b0+1)=some (.cells [.slice (some ⟨b0,0,none⟩) comps.length comps.length] 0)/\D0 K b0 H' nx'/\b0+2<=nx') ?_ ⟨0,O0,rfl,qa,q7,bc,O0⟩
 rintro f d6 L H7 m7 ⟨i,hf,rfl,ah,ak,a0,d1⟩ a3;have az:=W110 (comps.take i);rw[cK] at az
 by_cases hi:i<comps.length
 .have Q:(i:Int)<(comps.length:Int):=O0
  obtain⟨c,hc⟩:∃ c,comps[i]? = some c:=⟨_,aE hi⟩
  obtain⟨B,o,row,rfl,da,ba,aq⟩:=(hgK.ext a0).open (i:=i) (by rw[E1];omega);have q0:=aq _ _ (Q3 hc);have d5:=U c (aH hc);have c6:i<(comps.take i++aF (comps.length-i) 0).length:=by simp;omega
  have b4:=U110 hc;simp(disch:=try exact O3)only[W0,Q,X3 ba,q0,ak,ah,V10 c6];refine⟨by rw[E1];omega,?_⟩;rw[b4];refine R0 (R44 (x:=c) O0 _ _) ?_;rintro _ H9 m9 ⟨rfl,a8⟩;have a6:E9 c<=6:=Q15 _ _;have d2:=a8.le;simp(disch:=try exact O3)only[W0];refine a3 (f-1) _ _ _ O0 ⟨i+1,O0,by rw[B103 hc];simp,(a8.get b0 O0).trans (Z11 _ _ _),(a8.get (b0+1) O0).trans ((Z1 _ O0).trans ak),(a0.hs O0).trans a8,O0⟩
 obtain rfl:i=comps.length:=O0;have Q:¬ (comps.length:Int)<(comps.length:Int):=O0;rw[gJ (aD _)] at *
 rw[Nat.sub_self,List.replicate_zero,gV] at ah;clear a3;have cq:M71 comps<=6*32:=O0;have a5:=E6.ic;have a4:=E6.il;have cd:FS K b0 p rc rl N A cap es nb L c5 width (.slice none 0 0) [] comps H7 m7:=
  ⟨E6.ext (K100 a0 fun q hq=>by simp[R5] at hq;omega),a0.kp,ak,ah,Acc.nil _ _ _ _,ax.ext (K100 a0 fun q hq=>by simp[R5] at hq;omega),O0⟩
 have ag:∀ n,U81 N comps (C54 es nb N width comps n).2/\(C54 es nb N width comps n).1.length<=n:=by
  intro n
  induction n with
  | zero=>exact⟨⟨rfl,fun i l c hl hc=>by
    rw[show(C54 es nb N width comps 0).2=comps from rfl] at hl;rw[hl] at hc;cases hc;exact⟨U _ (aH hl),fun w hw=>hw⟩⟩,by simp[C54]⟩
  | succ n ih=>
   have:=W104 (es:=es) (nb:=nb) (width:=width) ih.1;exact⟨this.1,by have h1:=this.2;have h2:=ih.2;show(Q73 es nb N width comps (C54 es nb N width comps n)).1.length<=_;omega⟩
 simp(disch:=try exact O3)only[W0,Q];refine B1 (m:=M71 comps) (fun f L' H' m'=>∃ r v,f+r=M71 comps/\L'=[v,.int .i64 (r:Int)]/\FS K b0 p rc rl N A cap es nb L c5 width v (C54 es nb N width comps r).1 (C54 es nb N width comps r).2 H' m') ?_ ⟨0,_,O0,rfl,cd⟩;rintro f c9 L2 H2 m2 ⟨r,v,hf,rfl,hS⟩ a3
 by_cases hr:r<M71 comps
 case neg=>
  obtain rfl:r=M71 comps:=O0;have al:¬ (M71 comps:Int)<(M71 comps:Int):=O0;obtain⟨B,rfl,hB⟩:=hS.acc.sl;have bz:=R107 hS.acc;simp(disch:=try exact O3)only[W0,al];have bw:=hS.kp;exact⟨⟨B,rfl,hB,bz⟩,⟨by have:=bw.le;omega,fun x h1 h2 h3=>(bw.get x O0 h2 h3).trans (a2.get x O0)⟩⟩
 have al:(r:Int)<(M71 comps:Int):=O0;obtain⟨a9,c4⟩:=ag r;have an:C54 es nb N width comps (r+1)=Q73 es nb N width comps (C54 es nb N width comps r):=rfl;generalize C54 es nb N width comps r=s at *
 obtain⟨perm,lefts⟩:=s;dsimp only at a9 c4 hS;have cf:lefts.length<=32:=by have:=a9.1;omega
 simp(disch:=try exact O3)only[W0,al];refine N5 (fun L' H' m'=>∃ v',L'=[v']/\FS K b0 p rc rl N A cap es nb L c5 width v' (C54 es nb N width comps (r+1)).1 (C54 es nb N width comps (r+1)).2 H' m') (fun j hj => ?_) ?_
 case refine_2=>
  rintro _ H3 m3 ⟨v',rfl,a1⟩;simp(disch:=try exact O3)only[W0];exact a3 (f-1) _ _ _ O0 ⟨r+1,v',O0,O2,a1⟩
 clear a3 c9;have q3:=hS.kp.cell a5 a4 l3 k3;have qp:=N68 _ _ hS.sv.hp;simp(disch:=try exact O3)only[W0,q3,qp,C89];have E:Q73 es nb N width comps (perm,lefts)=match E80 es nb N width comps lefts N 0 with
  | some (v,i)=>(perm++[(v:Int)],lefts.set i (Z2 (lefts.getD i 0) (2^v)))
  | none=>(perm,lefts):=rfl
 rw[<- an] at E;refine B1 (m:=N) (fun f L' H' m'=>∃ w,f+w=N/\L'=[v,.int .i64 (w:Int)]/\FS K b0 p rc rl N A cap es nb L c5 width v perm lefts H' m'/\E80 es nb N width comps lefts N 0=E80 es nb N width comps lefts f w) ?_ ⟨0,O0,rfl,hS,rfl⟩;rintro f3 db L3 H3 m3 ⟨w,d9,rfl,a1,Z⟩ bk
 by_cases bd:w<N
 case neg=>
  have ao:¬ (w:Int)<(N:Int):=O0;obtain rfl:f3=0:=O0;rw[Z] at E;simp(disch:=try exact O3)only[W0,ao];refine hj _ _ _ ⟨v,rfl,?_⟩;rw[E];exact a1
 have ao:(w:Int)<(N:Int):=O0;obtain⟨aj,rfl⟩:∃ f',f3=f'+1:=⟨f3-1,O0⟩
 have aa:E80 es nb N width comps lefts (aj+1) w=match D75 es nb N width comps lefts w lefts.length 0 with
  | some i=>some (w,i)
  | none=>E80 es nb N width comps lefts aj (w+1):=rfl
 rw[aa] at Z;clear aa;simp(disch:=try exact O3)only[W0,ao,a1.g7];refine B1 (m:=lefts.length) (fun f L' H' m'=>∃ i,f+i=lefts.length/\L'=[v,.int .i64 (i:Int)]/\FS K b0 p rc rl N A cap es nb L c5 width v perm lefts H' m'/\D75 es nb N width comps lefts w lefts.length 0=D75 es nb N width comps lefts w f i) ?_ ⟨0,O0,rfl,a1,rfl⟩;rintro f4 d7 L4 H4 m4 ⟨i,d8,rfl,J,W⟩ aw
 by_cases au:i<lefts.length
 case neg=>
  have Q:¬ (i:Int)<(lefts.length:Int):=O0;obtain rfl:f4=0:=O0;rw[W] at Z;simp(disch:=try exact O3)only[W0,Q];exact bk aj _ _ _ O0 ⟨w+1,O0,O2,J,Z⟩
 have Q:(i:Int)<(lefts.length:Int):=O0;obtain⟨ai,rfl⟩:∃ f',f4=f'+1:=⟨f4-1,O0⟩
 obtain⟨l,hl⟩:∃ l,lefts[i]? = some l:=⟨_,aE au⟩
 obtain⟨c,hc⟩:∃ c,comps[i]? = some c:=⟨_,aE (by have:=a9.1;omega)⟩
 obtain⟨cp,cn⟩:=a9.2 i l c hl hc;have bg:=aH hc;have ay:lefts.getD i 0=l:=by simp[aP,hl]
 have cc:comps.getD i 0=c:=by simp[aP,hc]
 have ab:D75 es nb N width comps lefts w (ai+1) i=if M72 es nb N width c l w=true then some i else D75 es nb N width comps lefts w ai (i+1):=by
  show(if M72 es nb N width (comps.getD i 0) (lefts.getD i 0) w=true then _ else _)=_;rw[ay,cc]
 rw[ab] at W;clear ab;have d0:=J.le;have a7:=J.kp;simp(disch:=try exact O3)only[W0,Q];refine V22 (B107 J.sv J.qs hN cg ce co bf (t3:=nx) (t4:=t4) (t5:=t5) (t7:=b0+1) (a:=b0) (lefts:=lefts) (comps:=comps) O0 O0 O0 O0 O0 J.g7 J.ga
  (a7.cell a5 a4 l3 k3) (a7.cell a5 a4 l4 k4) (hgK.kp a7 a5 a4) (a7.cell a5 a4 l5 k5) bt J.wd c8 hl hc bd (U c bg) cp cn (hL c bg)) ?_
 rintro _ H5 m5 ⟨rfl,c7,cj⟩;have ae:=J.step cj c7
 cases ac:M72 es nb N width c l w with
 | false=>
  rw[ac,if_neg O2] at W;simp(disch:=try exact O3)only[W0];exact aw ai _ _ _ O0 ⟨i+1,O0,O2,ae,W⟩
 | true=>
  rw[ac,if_pos rfl] at W;rw[W] at Z;rw[Z] at E;dsimp only at E;rw[ay] at E;have ck:∀(x:Int) k,K6 1 1 [.int .i64 0] [(0,.int .i64 x)] k=k [.int .i64 x]:=fun x k=>rfl
  simp(disch:=try exact O3)only[W0,ck];have ci:D0 H5 m5 (hs H5 m5 (some (.cells [.int .i64 (w:Int)] 0))) (m5+1):=(D0.refl _ _).new _ (aD _) O0;have O:=ae.ext ci;have c3:J0 (hs H5 m5 (some (.cells [.int .i64 (w:Int)] 0))) m5=some (.cells [.int .i64 (w:Int)] 0):=Z11 _ _ _;have cz:=ae.le;generalize hs H5 m5 (some (.cells [.int .i64 (w:Int)] 0))=H6 at *
  refine E72 (lo:=b0+2) (d:=m5+1) (m:=1) (l:=[.int .i64 (w:Int)]) O0 O.acc (J9 c3 rfl O0) O0 rfl O0 O0 ?_;intro bv bx bo;have V:∀ i,i≠m5+1->(i≠R5 b0 v\/i<b0+2)->J0 bv i=J0 H6 i:=by
   intro i h1 h2;rcases N29 O.acc (d:=b0) with ⟨e0,_,_⟩ | ⟨b,e0,e,h3,h4,_⟩
   .refine bo i h1 ?_
    rw[e0];exact h1
   .refine bo i h1 ?_
    rw[e] at h2;rw[e0];show i≠b;omega
  have bh:=(V (b0+1) O0 (.inr O0)).trans O.g7;have ca:=(V b0 O0 (.inr O0)).trans O.ga;have gl:=Q3 hl;have ap:2^N<=64:=aK (n:=2) O0 hN;have M44:l<4294967296:=O0;have cy:2^w<4294967296:=by have:=R27 bd;omega
  have cv:w<32:=O0;have ct:Z2 l (2^w)<4294967296:=U10 M44;have a6:∀ q,q<m5+1->q ∉ [b0,R5 b0 v]->J0 (hs bv b0 (some (.cells (K12 (lefts.set i (Z2 l (2^w)))) 0))) q=J0 H6 q:=fun q hi hn=>by
   simp at hn;rw[Z1 _ hn.1];exact V q O0 (.inl hn.2)
  have b3:∀ q ∈ [b0,m5+1],q ∈ [b0,R5 b0 v]\/m5+1<=q:=fun q hq=>by
   rcases aU.1 hq with rfl | hq
   .exact .inl O2
   .rw[dJ] at hq;subst hq;exact .inr (aD _)
  simp(disch:=try exact O3)only[W0,bh,ca,gl,V10 au];refine⟨by rw[E1];omega,hj _ _ _ ⟨_,rfl,?_⟩⟩;rw[E];refine⟨(O.sv.sub (V74 a6 b3)).ext (D0.self O0),⟨by have:=O.kp.le;omega,fun x h1 h2 h3 => ?_⟩,?_,Z11 _ _ _,?_,(O.wd.sub (V74 a6 b3)).ext (D0.self O0),O0⟩
  .rw[Z1 _ O0,V x O0 (.inr O0)]
   exact O.kp.get x h1 h2 h3
  .dsimp only
   rw[dO,Z1 _ O0];exact bh
  .have e:(perm++[(w:Int)]).length=perm.length+1:=O2
   have e2:U4 (perm++[(w:Int)])=U4 perm++[.int .i64 (w:Int)]:=by simp[U4]
   dsimp only;rw[e,e2];refine X76 (by rw[bH,X9];simp) O0 O0 ?_;rw[Z1 _ O0,bx]
end
end Go.Proofs.YtoiioigihocgbaaGreatDoor
namespace Go.Clo
theorem R98{N:Int}{A:Option Addr}{l c:Nat}{nb:List Nat}{a b:Option Nat}(h:nb.length=32)(k:VP):U11 [O8 0,O6,O9 0,O9 0,O9 0,O9 0,O9 0,O9 0,O9 0,O9 0,O9 0,O9 0,O9 0,O9 0,O9 0,O9 0,O9 0,O9 0,O9 0,O9 0,O9 0,O9 0,O9 0,O9 0,O9 0,O9 0,O9 0,O9 0,O9 0,O9 0,O9 0,O9 0,O9 0,O9 0,.map none,.map none] [(0,2),(2,32),(34,1),(35,1)] [(0,.agg ⟨[O8 N,.slice A l c]⟩),(1,.agg ⟨K12 nb⟩),(2,.map a),(3,.map b)] k=k (.agg ⟨O8 N :: .slice A l c :: (K12 nb++[.map a,.map b])⟩):=by
 match nb,h with
 | [a0,a1,a2,a3,a4,a5,a6,a7,a8,a9,a10,a11,a12,a13,a14,a15,a16,a17,a18,a19,a20,a21,a22,a23,a24,a25,a26,a27,a28,a29,a30,a31],_=>exact V14 _ _
theorem E83(N:Int)(A:Option Addr)(l c:Nat)(a b:Option Nat):∀ nb:List Nat,Z0 (O8 N :: .slice A l c :: (K12 nb++[.map a,.map b]))=true:=by
 intro nb;show Z0 (K12 nb++[.map a,.map b])=true
 induction nb with
 | nil=>rfl
 | cons x nb ih=>exact ih
theorem Sl.write{H:Y0}{nx i s:Nat}{A:Option Addr}{l r:List Value}{b:Option V3}(h:Sl H nx A l)(hg:J0 H i=some (.cells r s))(J:∀ v ∈ l,v ∉ r):Sl (Go.Clo.hs H i b) nx A l:=by
 intro j v hv;obtain⟨q,o,row,e1,e2,e3,e4⟩:=h j v hv;refine⟨q,o,row,e1,e2,?_,e4⟩;have hq:q≠i:=by
  rintro rfl;have E:row=r:=by rw[Q5,hg] at e3;exact(fA e3).symm
  subst E;exact J v (aH hv) (aH e4)
 rw[Q5,Z1 _ hq];exact e3
theorem E40(aL:List Nat)(N:Nat):∀(f l:Nat),(R8 aL N f l).length<=f
 | 0,_=>aD _
 | f+1,l=>by
  show(if l=0 then [] else _:List Nat).length<=f+1
  split
  .simp
  .simp only[cV]
   have:=E40 aL N f (Z2 l (W7 aL N N 0 (2^tz l)));omega
end Go.Clo
namespace Go.Proofs.YtoiioigihocgbaaGreatDoor
open Go.Clo
def bnd(N f:Nat):Nat:=Z2 (2^N-1) (2^f-1)
theorem E77{N f w:Nat}:(bnd N f).testBit w=true<->w<N/\f<=w:=by
 unfold bnd;rw[N1,dC,dC];simp
def Z20(es:List Nat)(N f:Nat):List Nat:=(D19 (D14 es (bnd N f)) N).filter fun c=>decide (c &&& bnd N f≠0)
theorem U24{es:List Nat}{N u w:Nat}(hN:N<=32):((B2 es N).getD u 0).testBit w=true<->u<N/\w<N/\adj es u w=true:=by
 rw[aP]
 by_cases hu:u<32
 .simp only[B2,cP,List.getElem?_range hu,Option.map_some,Option.getD_some]
  by_cases h:u<N
  .rw[if_pos h,E26];simp[h]
  .rw[if_neg h];simp[h]
 .have:(B2 es N)[u]? = none:=aT (by rw[N9];omega)
  rw[this];simp;omega
theorem M37{es:List Nat}{N:Nat}(hN:N<=32):∀ u w,((B2 es N).getD u 0).testBit w=true->((B2 es N).getD w 0).testBit u=true:=by
 intro u w h;obtain⟨h1,h2,h3⟩:=(U24 hN).1 h;exact(U24 hN).2 ⟨h2,h1,by rw[Z43];exact h3⟩
theorem M56{es:List Nat}{N:Nat}(hN:N<=6):(∀ c ∈ D19 es N,∃ v,v<N/\V53 (B2 es N) N v c)/\(D19 es N).Pairwise (fun c d=>∀ w,c.testBit w=true->d.testBit w=false) /\
  (∀ w,w<N<->∃ c ∈ D19 es N,c.testBit w=true):=by
 have E:2^N<=64:=aK (n:=2) O0 hN;have J:0<2^N:=aQ N;obtain⟨h1,h2,h3⟩:=C33 (aL:=B2 es N) (N:=N) N30 E (M37 O0) N (2^N-1) (Q15 _ _) O0 (fun u w _ hw=>by
  rw[dC];simpa using ((U24 O0).1 hw).2.1)
 refine⟨h1,h2,fun w => ?_⟩;rw[show D19 es N=R8 (B2 es N) N N (2^N-1) from rfl,<- h3 w,dC];simp
def D94(es:List Nat)(N f l:Nat):Rat:=match (Z20 es N f).find? (fun c=>decide (Z2 l c=0)) with
 | some c=>M45 N (Y25 es (B2 es N) N c) l
 | none=>0
theorem M34{l c:Nat}:Z2 l c=0<->∀ w,l.testBit w=true->c.testBit w=true:=by
 constructor
 .intro h w hw
  have:=N1 l c w;rw[h,hw,jQ] at this;simpa using this.symm
 .intro h
  apply bZ;intro w;rw[N1,jQ]
  cases hl:l.testBit w with
  | false=>rfl
  | true=>rw[h w hl];rfl
theorem J108{es:List Nat}{N f:Nat}(hN:N<=6){c:Nat}(hc:c ∈ Z20 es N f){l:Nat}(h0:l≠0)(hl:∀ w,l.testBit w=true->c.testBit w=true):D94 es N f l=M45 N (Y25 es (B2 es N) N c) l:=by
 obtain⟨u,hu⟩:=B14 h0;have J:=(M56 (es:=D14 es (bnd N f)) hN).2.1.filter (fun c=>decide (c &&& bnd N f≠0));rw[show(D19 (D14 es (bnd N f)) N).filter (fun c=>decide (c &&& bnd N f≠0))=Z20 es N f from rfl] at J;unfold D94
 cases E:(Z20 es N f).find? (fun c=>decide (Z2 l c=0)) with
 | none=>
  have:=List.find?_eq_none.1 E c hc;rw[M34.2 hl] at this;simp at this
 | some d=>
  have h1:=List.find?_some E;have h2:=List.mem_of_find?_eq_some E;have h3:=M34.1 (of_decide_eq_true h1);have:d=c:=by
   obtain⟨i,hi,rfl⟩:=gL h2;obtain⟨j,hj,rfl⟩:=gL hc;rcases Nat.lt_trichotomy i j with h | h | h
   .have:=fD.1 J i j hi hj h u (h3 u hu)
    rw[hl u hu] at this;cases this
   .subst h;rfl
   .have:=fD.1 J j i hj hi h u (hl u hu)
    rw[h3 u hu] at this;cases this
  rw[this]
def orF(es:List Nat)(i:Nat):Nat:=(es.take i).foldl (fun a e=>a ||| e) 0
theorem C47{es:List Nat}{i e:Nat}(h:es[i]? = some e):orF es (i+1)=orF es i ||| e:=by
 unfold orF;rw[C7 h,List.foldl_append];rfl
theorem X37{es:List Nat}{w:Nat}:(orF es es.length).testBit w=true<->∃ e ∈ es,e.testBit w=true:=by
 have key:∀(l:List Nat) (a:Nat),(l.foldl (fun a e=>a ||| e) a).testBit w=true<->a.testBit w=true\/∃ e ∈ l,e.testBit w=true:=by
  intro l
  induction l with
  | nil=>intro a;simp
  | cons x l ih=>
   intro a;rw[dF,ih,aV,cO];simp only[aU,exists_eq_or_imp,or_assoc]
 unfold orF;rw[List.take_length,key];simp
theorem R58{es:List Nat}{N:Nat}(h:∀ e ∈ es,e<2^N):∀ i,i<=es.length->orF es i<2^N
 | 0,_=>aQ _
 | i+1,hi=>by
  rw[C47 (aE (show i<es.length by omega))];exact Z26 (R58 h i O0) (h _ (List.getElem_mem _))
def wI(es:List Nat)(N f i:Nat):Rat:=((Z20 es N f).take i).foldl (fun w c=>gr w (M45 N (Y25 es (B2 es N) N c) c)) (fwI es N (B50 es N f (upK f (N-f))) f)
def N64(es:List Nat)(N f:Nat):Rat:=wI es N f (Z20 es N f).length
def R82(es:List Nat)(N f:Nat):List Int:=W85 es (B2 es N) N (N64 es N f) (Z20 es N f)
theorem R97{es:List Nat}{N f i c:Nat}(h:(Z20 es N f)[i]? = some c):wI es N f (i+1)=gr (wI es N f i) (M45 N (Y25 es (B2 es N) N c) c):=by
 unfold wI;rw[C7 h,List.foldl_append];rfl
theorem Q89{es nb:List Nat}{N c:Nat}(E:es.length<=8)(l:Nat):U15 (M45 N (Y25 es nb N c) l) 100000:=(K77 (Y75 _ O0) (fun v l=>B65 es N _ E) l).1
theorem W95{es:List Nat}{N f:Nat}(hf:f<=N)(E:es.length<=8):∀ i,i<=(Z20 es N f).length->U15 (wI es N f i) 100000
 | 0,_=>N84 E f (by rw[U74];exact hf)
 | i+1,hi=>by
  rw[R97 (aE (show i<(Z20 es N f).length by omega))];exact E78 (W95 hf E i O0) (Q89 E _)
def N110:Value := .agg ⟨[.bool false,.slice none 0 0,.slice none 0 0]⟩
theorem _root_.Go.Clo.Has.hsC{H:Y0}{nx q s:Nat}{A:Option Addr}{c:List Value}(h:Has H nx A):Has (hs H q (some (.cells c s))) nx A:=by
 rcases h with h | ⟨b,o,row,h1,h2,h3⟩
 .exact .inl h
 .by_cases e:b=q
  .subst e;exact .inr ⟨b,o,c,h1,h2,by simp[Q5,Z11,V3.row]⟩
  .exact .inr ⟨b,o,row,h1,h2,by unfold Q5;rw[Z1 _ e];exact h3⟩
theorem M96{N f cap:Nat}{A:Option Addr}{es:List Nat}{H:Y0}{nx:Nat}(hS:Sl H nx A (K12 es))(hN:N<=6)(hf:f<=N)(U:∀ e ∈ es,e<2^N)(ah:es.length<=8):
  Q2 gQ 16 [gv N A es.length cap,O8 (f:Int)] H nx fun r H' nx'=>D0 H nx H' nx' /\
   ((orF es es.length≠2^N-1/\r = .tuple ⟨[O6,N110,O8 9]⟩) \/
    (orF es es.length=2^N-1/\∃ B w,r = .tuple ⟨[.slice B (R82 es N f).length (R82 es N f).length,w,O8 0]⟩/\Sl H' nx' B (U4 (R82 es N f))/\RR H' nx' w (N64 es N f)/\Has H' nx' B)):=by
 have ed:2^N<=64:=aK (n:=2) O0 hN;have f3:0<2^N:=aQ N;have el:2^f<=2^N:=aK (n:=2) O0 hf;have f7:0<2^f:=aQ f;have ap:U14 es:=fun e he=>by have:=U e he;omega
 have df:Q6 (N:Int) (f:Int) es=0:=by
  unfold Q6;rw[V11 O0 O0 fun i e he=>U e (aH he)];simp;omega
 have eb:N3 N es=0:=V11 O0 O0 fun i e he=>U e (aH he)
 have d0:∀ k:VP,U11 [.bool false,O6,O6] [(0,1),(1,1),(2,1)] [] k=k (.agg ⟨[.bool false,O6,O6]⟩):=fun k=>V14 _ _
 refine spec16 ?_;unfold F16;simp(config:={ maxSteps:=2000000 }) (disch:=try exact O3)only[W0,Z0,Q0.val,C13];generalize hK:hs (hs H nx (O7 [O8 N,.slice A es.length cap])) (nx+1) (O7 [.bool false,O6,O6])=K;have k2:J0 K nx=O7 [O8 N,.slice A es.length cap]:=by rw[<- hK,gN _,Z11]
 have k5:J0 K (nx+1)=O7 [.bool false,O6,O6]:=by rw[<- hK,Z11]
 have cg:D0 H nx K (nx+1+1):=by
  rw[<- hK];exact(((D0.refl H nx).nw _:D0 H nx _ (nx+1)).nw _)
 clear hK;refine R0 (U86 N f A es cap _ _ (hS.ext cg) ap) ?_;rintro _ H3 ew ⟨rfl,b4⟩;have d1:decide (Q6 (N:Int) (f:Int) es≠0)=false:=by simp[df]
 have g2:=(b4.gt nx).trans k2;have g5:=(b4.gt (nx+1)).trans k5;have ee:=b4.le;have bf:=cg.trans b4;simp(config:={ maxSteps:=2000000 }) (disch:=try exact O3)only[W0,d1,g2];refine R0 (C90 (n:=N) O0 _ _) ?_;rintro _ _ _ ⟨rfl,rfl,rfl⟩;refine R0 (C90 (n:=f) O0 _ _) ?_;rintro _ _ _ ⟨rfl,rfl,rfl⟩;have cy:2^N-1<4294967296:=O0;have eh:2^f-1<4294967296:=O0;have ci:Z2 (2^N-1) (2^f-1)<4294967296:=U10 cy;simp(config:={ maxSteps:=2000000 }) (disch:=try exact O3)only[W0,g2,C13];rw[show Z2 (2^N-1) (2^f-1)=bnd N f from rfl] at *
 refine R0 (V99 (hS.ext bf) hN U ah ci) ?_;rintro _ H7 f5 ⟨⟨B7,rfl,dn⟩,dg⟩;have f4:=K46 es (bnd N f);refine R0 (U41 dn hN (U67 U) O0) ?_;rintro _ H8 c7 ⟨⟨B8,rfl,dv⟩,e0⟩;have a9:=dg.trans e0;have eo:=a9.le;have e4:=(a9.gt nx).trans g2;have du:=(a9.gt (nx+1)).trans g5;have da:=bf.trans a9;obtain⟨ca,fb,fc⟩:=M56 (es:=D14 es (bnd N f)) hN;have fg:(D19 (D14 es (bnd N f)) N).length<=N:=E40 _ _ _ _;have bu:Z20 es N f=(D19 (D14 es (bnd N f)) N).filter fun c=>decide (c &&& bnd N f≠0):=rfl
 generalize D19 (D14 es (bnd N f)) N=cs at *
 simp(config:={ maxSteps:=2000000 }) (disch:=try exact O3)only[W0];refine B1 (m:=cs.length) (fun m L H' nx'=>∃(i:Nat) (v:Value),m+i=cs.length/\L=[v,O8 (i:Int)]/\Acc c7 H' nx' 1 v ((cs.take i).filter fun c=>decide (c &&& bnd N f≠0)).length (K12 ((cs.take i).filter fun c=>decide (c &&& bnd N f≠0)))/\D0 H8 c7 H' nx') ?_
  ⟨0,O6,O0,rfl,Acc.nil _ _ _ _,D0.refl _ _⟩
 rintro m ih L H9 E ⟨i,v,hm,rfl,hA,a3⟩ bz;have eu:=a3.le
 by_cases hi:i<cs.length
 .have b3:(i:Int)<(cs.length:Int):=O0
  obtain⟨c,hc⟩:∃ c,cs[i]? = some c:=⟨_,aE hi⟩
  obtain⟨B,o,row,rfl,db,V,Z⟩:=(dv.ext a3).open (i:=i) (by rw[E1];omega);have q0:=Z _ _ (Q3 hc);obtain⟨cv,_,e8⟩:=ca c (aH hc);have d4:c<64:=by have:=e8.lt;omega
  have et:c<4294967296:=O0;have ep:E9 c<=6:=Q15 _ _;have W:(cs.take (i+1)).filter (fun c=>decide (c &&& bnd N f≠0))=(cs.take i).filter (fun c=>decide (c &&& bnd N f≠0))++(if c &&& bnd N f=0 then [] else [c]):=by
   rw[C7 hc,List.filter_append];congr 1
   by_cases h0:c &&& bnd N f=0<;>simp[h0]
  have fe:((cs.take i).filter fun c=>decide (c &&& bnd N f≠0)).length<=6:=by
   have:=List.length_filter_le (fun c=>decide (c &&& bnd N f≠0)) (cs.take i);rw[cK] at this;omega
  by_cases h0:c &&& bnd N f=0
  .rw[if_pos h0,gV] at W
   simp(config:={ maxSteps:=2000000 }) (disch:=try exact O3)only[W0,b3,X3 V,q0,N13,h0];exact bz (m-1) _ _ _ O0 ⟨i+1,v,O0,O2,by rw[W];exact hA,a3⟩
  .rw[if_neg h0] at W
   have e6:¬ ((c &&& bnd N f:Nat):Int)=0:=O0;simp(config:={ maxSteps:=2000000 }) (disch:=try exact O3)only[W0,b3,X3 V,q0,N13,e6];refine R0 (R44 d4 _ _) ?_;rintro _ cp al ⟨rfl,an⟩;have dk:¬ (E9 c:Int) > 8:=O0;simp(config:={ maxSteps:=2000000 }) (disch:=try exact O3)only[W0,dk,Y48];have bt:D0 cp al (hs cp al (O7 [O9 (c:Int)])) (al+1):=(D0.refl _ _).nw _;have dp:=an.le;refine Y20 (H0:=H8) (lo:=c7) (m:=1) (l:=[O9 (c:Int)]) O0 ((hA.ext an).ext bt) (J9 (Z11 _ _ _) rfl O0) O0 rfl O0 O0 ((a3.trans an).trans bt) O0 ?_;intro v' H' dl dr _;refine bz (m-1) _ _ _ O0 ⟨i+1,v',O0,O2,?_,dr⟩;rw[W,Y22,bH];exact dl
 have b3:¬ (i:Int)<(cs.length:Int):=O0;rw[D23 hi,<- bu] at hA;clear bz;obtain⟨CA,rfl,e3⟩:=hA.sl;have ag:=(a3.gt nx).trans e4;have bv:=(a3.gt (nx+1)).trans du;have a0:=da.trans a3;simp(config:={ maxSteps:=2000000 }) (disch:=try exact O3)only[W0,b3,ag];have ba:=R58 U;refine B1 (m:=es.length) (fun m L H' nx'=>∃ i:Nat,m+i=es.length/\L=[O9 (orF es i:Int),O8 (i:Int)]/\H9=H'/\E=nx') ?_ ⟨0,O0,rfl,rfl,rfl⟩;rintro m2 ez L2 _ _ ⟨i2,f8,rfl,rfl,rfl⟩ bd
 by_cases e2:i2<es.length
 .have ay:(i2:Int)<(es.length:Int):=O0
  obtain⟨e,he⟩:∃ e,es[i2]? = some e:=⟨_,aE e2⟩
  obtain⟨B,o,row,rfl,db,V,Z⟩:=(hS.ext a0).open (i:=i2) (by rw[E1];omega);have q0:=Z _ _ (Q3 he);have en:=ap.get he;have h1:=ba i2 O0;have eg:orF es i2<4294967296:=O0;simp(config:={ maxSteps:=2000000 }) (disch:=try exact O3)only[W0,ay,X3 V,q0];exact bd (m2-1) _ _ _ O0 ⟨i2+1,O0,by rw[C47 he];simp,rfl,rfl⟩
 have ay:¬ (i2:Int)<(es.length:Int):=O0;obtain rfl:i2=es.length:=O0;clear bd;simp(config:={ maxSteps:=2000000 }) (disch:=try exact O3)only[W0,ay,ag];refine R0 (C90 (n:=N) O0 _ _) ?_;rintro _ _ _ ⟨rfl,rfl,rfl⟩;have em:=ba es.length (aD _)
 by_cases c4:orF es es.length=2^N-1
 case neg=>
  have cj:¬ (orF es es.length:Int)=((2^N-1:Nat):Int):=O0;simp(config:={ maxSteps:=2000000 }) (disch:=try exact O3)only[W0,Z0,Nat.reduceAdd,cj,ne_eq,not_false_eq_true,d0,bv,D7,Y12];exact⟨a0.h0,.inl ⟨c4,rfl⟩⟩
 have aq:∀ w,w<N->∃ e ∈ es,e.testBit w=true:=fun w hw=>X37.1 (by rw[c4,dC];simpa using hw)
 simp(config:={ maxSteps:=2000000 }) (disch:=try exact O3)only[W0,c4,ne_eq,not_true_eq_false,ag,C13];have d2:D0 H nx H9 (E+8):=a0.more O0;refine R0 (W106 (n:=N) O0 A es cap _ _ (hS.ext d2) U O0 eb) ?_;rintro _ ec ab ⟨rfl,a5⟩;have dz:=a5.le;have d7:=(a5.gt nx).trans ag;have ei:=(a5.gt (nx+1)).trans bv;have dc:=N9 es N;simp(config:={ maxSteps:=2000000 }) (disch:=try exact O3)only[W0,Z0,E66,R98 dc,d7,C13];have cf:Z0 (K12 (B2 es N)++[Value.map (some (E+3)),Value.map (some (E+4))])=true:=E83 0 none 0 0 _ _ _;refine(@if_pos _ _ cf _ _ _).mpr ?_;generalize a1:hs (hs (hs ec (E+6) (O7 (O8 N :: .slice A es.length cap :: (K12 (B2 es N)++[.map (some (E+3)),.map (some (E+4))])))) (E+4) (some (.map [] 0))) (E+3) (some (.map [] 0))=H22;have s6:J0 H22 (E+6)=O7 (E75 N A es.length cap (B2 es N) (E+3) (E+4)):=by rw[<- a1,gN _,gN _,Z11];rfl
 have s4:J0 H22 (E+4)=some (.map [] 0):=by rw[<- a1,gN _,Z11]
 have s3:J0 H22 (E+3)=some (.map [] 0):=by rw[<- a1,Z11]
 have Q:D0 H9 E H22 ab:=by
  rw[<- a1];exact((((D0.sf:D0 H9 E H9 (E+8)).trans a5).h0).h0).h0
 have ef:=(Q.gt nx).trans ag;have d8:=(Q.gt (nx+1)).trans bv;clear a1;have c9:SV H22 ab (E+6) (E+3) (E+4) N A cap es (B2 es N) (D94 es N f):=
  ⟨s6,O0,O0,O0,dc,(hS.ext a0).ext Q,⟨_,U29.nil s3,fun n v h=>by cases h⟩,⟨_,U29.nil s4,fun n v h=>by cases h⟩,O0⟩
 have ax:∀ c ∈ Z20 es N f,c<2^N:=fun c hc=>by
  rw[bu] at hc;obtain⟨v,_,hI⟩:=ca c (dA.1 hc).1;exact hI.lt
 have ct:(Z20 es N f).length<=32:=by
  have:=List.length_filter_le (fun c=>decide (c &&& bnd N f≠0)) cs;rw[<- bu] at this;omega
 have hL:∀ c ∈ Z20 es N f,∀ l,l≠0->(∀ w,l.testBit w=true->c.testBit w=true)->D94 es N f l=M45 N (Y25 es (B2 es N) N c) l:=fun c hc l h0 hl=>J108 hN hc h0 hl
 have ce:=fun i hi=>W95 (es:=es) hf ah i hi
 have dh:wI es N f 0=fwI es N (B50 es N f (upK f (N-f))) f:=rfl;have e1:=fun i c h=>R97 (es:=es) (N:=N) (f:=f) (i:=i) (c:=c) h
 have c8:=e3.ext Q;have bw:=a0.trans Q;refine R0 (G95 c9 hN U ah aq hf) ?_;rintro f9 b5 J ⟨ac,bc,ak⟩;rw[<- dh] at ac;obtain⟨aj,rfl,a7⟩:=ac.num;have ea:=ak.le;have ae:D0 b5 J (hs (hs b5 J (O7 [.bool false,O6,O6])) J (O7 aj)) (J+1):=((D0.refl _ _).nw _ (m:=J+1)).h0;have dw:J0 (hs (hs b5 J (O7 [.bool false,O6,O6])) J (O7 aj)) J=O7 aj:=Z11 _ _ _;simp(config:={ maxSteps:=2000000 }) (disch:=try exact O3)only[W0,Nat.reduceAdd,a7.three,a7.one,G24 (show aj.length=[dU false,O6,O6].length from a7.three)];generalize hs (hs b5 J (O7 [.bool false,O6,O6])) J (O7 aj)=H25 at *
 have dq:=bc.ext ae;have cu:=ak.trans ae.kp;have cx:=ac.ext ae;clear ae bc ak ac;have d5:=c9.ic;have bo:=c9.il;refine B1 (m:=(Z20 es N f).length) (fun m L' H' nx'=>∃(i:Nat) (c:List Value),m+i=(Z20 es N f).length/\L'=[O8 (i:Int)]/\SV H' nx' (E+6) (E+3) (E+4) N A cap es (B2 es N) (D94 es N f)/\Kp H22 ab (E+3) (E+4) H' nx'/\J+1<=nx'/\V7 c/\J0 H' J=O7 c/\RR H' nx' (.agg ⟨c⟩) (wI es N f i)) ?_
  ⟨0,aj,O0,rfl,dq,cu,aD _,a7,dw,cx⟩
 rintro m3 fa L3 aw a2 ⟨i3,c,f6,rfl,d6,az,e7,hc,ai,a8⟩ bh;have av:=c8.kp az d5 bo
 by_cases dy:i3<(Z20 es N f).length
 .have au:(i3:Int)<((Z20 es N f).length:Int):=O0
  obtain⟨cc,c3⟩:∃ cc,(Z20 es N f)[i3]? = some cc:=⟨_,aE dy⟩
  obtain⟨B,o,row,rfl,db,V,Z⟩:=av.open (i:=i3) (by rw[E1];omega);have q0:=Z _ _ (Q3 c3);have bg:=aH c3;have cq:=ax cc bg;simp(config:={ maxSteps:=2000000 }) (disch:=try exact O3)only[W0,au,X3 V,q0,ai,X15 hc];have hX:D0 aw a2 aw (a2+7):=D0.sf;have O:=d6.ext hX;refine R0 (V88 hN U ah N30 aq cq (hL cc bg) cc cq (fun w hw=>hw) aw (a2+7) O) ?_;rintro f0 ff ej ⟨co,dj,a4⟩;have cd:=a4.cell O.ic O.il O0 ai;have dx:=a4.le;have cn:=(a8.ext hX).kp a4 O.ic O.il;refine R0 (G82 cn co (ce i3 O0) (Q89 ah _)) ?_;rintro ey fd ek ⟨bk,a6⟩;obtain⟨d9,rfl,ad⟩:=bk.num;have c6:=(a6.gt J).trans cd;have dm:=a6.le;simp(config:={ maxSteps:=2000000 }) (disch:=try exact O3)only[W0,c6,cd,X15 hc,ad.three,ad.one,G24 (show d9.length=c.length by rw[ad.three,hc.three])];refine⟨by rw[hc.three];omega,bh (m3-1) _ _ _ O0 ⟨i3+1,d9,O0,O2,(dj.ext a6).boxs c6 (V7.noU hc) O0,((az.trans (hX.kp.trans a4)).trans a6.kp).hs (.inl O0),O0,ad,Z11 _ _ _,?_⟩⟩;rw[e1 i3 cc c3];exact bk.boxs c6 (W81 hc) (.inl rfl)
 have au:¬ (i3:Int)<((Z20 es N f).length:Int):=O0;obtain rfl:i3=(Z20 es N f).length:=O0;clear bh;have hX:D0 aw a2 aw (a2+8):=D0.sf;have O:=d6.ext hX;have hb:N64 es N f=wI es N f (Z20 es N f).length:=rfl;rw[<- hb] at a8;have e9:U15 (N64 es N f) 100000:=ce _ (aD _);simp(config:={ maxSteps:=2000000 }) (disch:=try exact O3)only[W0,au,ai,X15 hc];refine R0 (R103 O hN U ah N30 aq (av.ext hX) (a8.ext hX) e9 ct ax hL) ?_;rintro _ ck b8 ⟨⟨di,rfl,cz,de⟩,aa⟩;have e5:=aa.le;have d3:=(a8.ext hX).kp aa O.ic O.il;have dt:=aa.cell O.ic O.il O0 ai;have bx:Kp H22 ab (E+3) (E+4) ck b8:=az.trans (hX.kp.trans aa);have ao:=bx.cell d5 bo O0 d8;simp(config:={ maxSteps:=2000000 }) (disch:=try exact O3)only[W0,Nat.reduceAdd,dt,X15 hc,ao,hc.three,hc.one,G24 (show c.length=[dU false,O6,O6].length from hc.three)];have dd:D0 H nx ck b8:=⟨by have:=bx.le;omega,fun q hq=>(bx.get q O0 O0 O0).trans (bw.get q hq)⟩
 refine⟨dd.h0,.inr ⟨di,_,rfl,?_,d3.boxs ao (U47 rfl) (.inl rfl),de.hsC⟩⟩;refine cz.write ao fun x hx hr => ?_
 obtain⟨y,_,rfl⟩:=gN.1 hx;simp at hr
end Go.Proofs.YtoiioigihocgbaaGreatDoor
namespace Go.Clo
def nbB(aL:List Nat)(u w:Nat):Bool:=(aL.getD u 0).testBit w
def W84(aL:List Nat)(N to within:Nat):Nat->Nat->Nat->Nat->Nat
 | 0,_,_,_=>0
 | k+1,seen,b,st=>if b=0 then 0 else if (Z2 (Q4 aL b N &&& within) (seen ||| b)).testBit to=true then st else W84 aL N to within k (seen ||| b) (Z2 (Q4 aL b N &&& within) (seen ||| b)) (st+1)
def B75(aL:List Nat)(N u w within:Nat):Nat:=W84 aL N w within N 0 (2^u) 1
theorem B102(aL:List Nat)(N to within E st:Nat):∀ k,W84 aL N to within k E 0 st=0
 | 0=>rfl
 | k+1=>if_pos rfl
def cyD(d l:Nat):Nat:=if 0<d/\(l=0\/d+2<l) then d+2 else l
def D86(aL:List Nat)(N v u w:Nat):Nat:=(Z2 (Z2 (2^N-1) (aL.getD v 0)) (2^v) ||| 2^u) ||| 2^w
def cyW(aL:List Nat)(N v u l:Nat):Nat->Nat
 | 0=>l
 | w+1=>if (nbB aL v u&&nbB aL v w && !nbB aL u w)=true then cyD (B75 aL N u w (D86 aL N v u w)) (cyW aL N v u l w) else cyW aL N v u l w
def cyU(aL:List Nat)(N v l:Nat):Nat->Nat
 | 0=>l
 | u+1=>cyW aL N v u (cyU aL N v l u) u
def cyV(aL:List Nat)(N:Nat):Nat->Nat
 | 0=>0
 | v+1=>cyU aL N v (cyV aL N v) N
def Q90(start:Nat):Nat:=4294967295-(2^(start+1)-1)
def W87(aL:List Nat)(blk last:Nat):Nat:=(blk ||| aL.getD last 0) ||| 2^last
def Z91(aL:List Nat)(N k blk start last v:Nat):Bool:=
 (Z2 (aL.getD last 0 &&& Q90 start) blk).testBit v&&decide (B75 aL N v start ((Z2 (Q90 start) (W87 aL blk last) ||| 2^v) ||| 2^start)=k)
def exF(aL:List Nat)(N start:Nat):Nat->Nat->List Nat->Nat->List Nat
 | 0,_,p,_=>p
 | k+1,last,p,blk=>match (aY N).find? (Z91 aL N (k+1) blk start last) with
  | none=>[]
  | some v=>exF aL N start k v (p++[v]) (W87 aL blk last)
def scW(aL:List Nat)(N L s:Nat):Nat->List Nat
 | 0=>[]
 | j+1=>if scW aL N L s j=[]/\s<j/\nbB aL s j=true then exF aL N s (L-2) j [s,j] 0 else scW aL N L s j
def scV(aL:List Nat)(N L:Nat):Nat->List Nat
 | 0=>[]
 | s+1=>if scV aL N L s=[] then scW aL N L s N else scV aL N L s
def scF(aL:List Nat)(N:Nat):List Nat:=if cyV aL N N=0 then [] else scV aL N (cyV aL N N) N
def X78(cl rest:Nat)(s:Nat × Bool)(e:Nat):Nat × Bool:=if Z2 cl e=0/\(s.2=false\/E9 (Z2 rest e)<E9 s.1) then(Z2 rest e,true) else s
def C75(es:List Nat)(cl rest:Nat):Nat × Bool:=es.foldl (X78 cl rest) (0,false)
def X74(cl rest:Nat)(s:Nat × Nat)(e:Nat):Nat × Nat:=if Z2 cl e=0/\Z2 rest e &&& s.2=0 then(s.1+1,s.2 ||| Z2 rest e) else s
def C82(es:List Nat)(cl rest:Nat):Nat × Nat:=es.foldl (X74 cl rest) (0,0)
def N71(rest out:Nat):Nat->Nat
 | 0=>rest
 | v+1=>if out.testBit v=true then Z2 (N71 rest out v) (2^v) else N71 rest out v
def W51(es aL:List Nat)(N:Nat):Nat->Nat->Nat->Bool
 | 0,cl,rest => !(C75 es cl rest).2
 | c+1,cl,rest => !(C75 es cl rest).2 || (decide ((C75 es cl rest).1≠0)&&decide ((C82 es cl rest).1<=c+1) &&
   (aY N).any fun v=>(C75 es cl rest).1.testBit v&&W51 es aL N c (cl ||| 2^v) (N71 rest (C75 es cl rest).1 (v+1) &&& aL.getD v 0))
def B86(P:Nat->Bool):Nat->Nat->Nat
 | 0,L=>L
 | k+1,L=>if P L=true then L else B86 P k (L+1)
def W99(es aL:List Nat)(N L v:Nat)(s:List Nat × Nat × Nat):List Nat × Nat × Nat:=
 if s.2.2.testBit v=true then
  if s.1.length<L/\W51 es aL N (L-s.1.length-1) (s.2.1 ||| 2^v) (Z2 s.2.2 (2^v) &&& aL.getD v 0)=true then(s.1++[v],s.2.1 ||| 2^v,Z2 s.2.2 (2^v) &&& aL.getD v 0)
  else(s.1,s.2.1,Z2 s.2.2 (2^v))
 else s
def W76(es aL:List Nat)(N L lk:Nat):Nat->List Nat × Nat × Nat
 | 0=>([],0,lk)
 | v+1=>W99 es aL N L v (W76 es aL N L lk v)
def D83(es aL:List Nat)(N most:Nat):List Nat:=
 if Z7 es=0\/most<B86 (fun L=>W51 es aL N L 0 (Z7 es)) (most-2) 3 then [] else(W76 es aL N (B86 (fun L=>W51 es aL N L 0 (Z7 es)) (most-2) 3) (Z7 es) N).1
def X83:List Nat->List Nat->Int
 | [],[]=>0
 | [],_ :: _ => -1
 | _ :: _,[]=>1
 | a :: l,b :: m=>if a<b then -1 else if b<a then 1 else X83 l m
def X90(cy cq:List Nat):List Nat:=if cq=[] then cy else if cy=[]\/cq.length<cy.length\/X83 cq cy<0 then cq else cy
def Z74(es aL:List Nat)(N:Nat):List Nat:=X90 (scF aL N) (D83 es aL N (if scF aL N=[] then N else(scF aL N).length))
theorem M94{cl rest:Nat}:∀(es:List Nat) (s:Nat × Nat),(0<s.1\/(s.2=0/\∃ e ∈ es,Z2 cl e=0))->0<(es.foldl (X74 cl rest) s).1
 | [],s,h=>by
  simp_all
 | x :: es,s,h=>by
  rw[dF];refine M94 es _ ?_
  grind[X74]
theorem D93{cl rest:Nat}:∀(es:List Nat) (s:Nat × Bool),(es.foldl (X78 cl rest) s).2=true->s.2=true\/∃ e ∈ es,Z2 cl e=0
 | [],s,h => .inl h
 | x :: es,s,h=>by
  rw[dF] at h;rcases D93 es _ h with h1 | ⟨e,h1,h2⟩
  .grind[X78]
  grind
theorem Z107{es:List Nat}{cl rest:Nat}(h:(C75 es cl rest).2=true):0<(C82 es cl rest).1:=by
 rcases D93 es _ h with h1 | h1
 .cases h1
 .exact M94 es _ (.inr ⟨rfl,h1⟩)
theorem X91{N cl rest:Nat}(hr:rest<2^N):∀(es:List Nat) (s:Nat × Bool),s.1<2^N->(es.foldl (X78 cl rest) s).1<2^N
 | [],s,h=>h
 | x :: es,s,h=>by
  rw[dF];refine X91 hr es _ ?_;unfold X78
  split
  .exact Z6 hr
  .exact h
theorem E98{N cl rest:Nat}(hr:rest<2^N):∀(es:List Nat) (s:Nat × Nat),s.2<2^N->(es.foldl (X74 cl rest) s).2<2^N
 | [],s,h=>h
 | x :: es,s,h=>by
  rw[dF];refine E98 hr es _ ?_;unfold X74
  split
  .exact Z26 h (Z6 hr)
  .exact h
theorem V98{cl rest:Nat}:∀(es:List Nat) (s:Nat × Nat),(es.foldl (X74 cl rest) s).1<=s.1+es.length
 | [],s=>O2
 | x :: es,s=>by
  rw[dF];have:=V98 (cl:=cl) (rest:=rest) es (X74 cl rest s x)
  grind[X74,cV]
theorem D85{N rest out:Nat}(hr:rest<2^N):∀ v,N71 rest out v<2^N
 | 0=>hr
 | v+1=>by
  unfold N71
  split
  .exact Z6 (D85 hr v)
  .exact D85 hr v
theorem W37{a b N:Nat}(h:a<2^N):a &&& b<2^N:=iF Nat.and_le_left h
end Go.Clo
namespace Go.Proofs.YtoiioigihocgbaaGreatDoor
open Go.Clo
section
variable (a0 a1 a2 a3 a4 a5:Value) (H:Y0) (nx:Nat) (k:EP)
def F65:Prop:=
 M12 a1 H nx fun b c d=>
 M2 (d+4) fun d=>
 D10 .shl u1 a2 fun e=>
 wK True (
 G3 (fun c d e f=>
 D10 .neq d.b u0 fun g=>
 K2 g (
 D10 .or d.a d.b fun g=>
 G3 (fun e f h i=>
 D10 .lss f.b a0 fun j=>
 K2 j (
 V4 (fun c=>
 D10 .shr d.b f.b fun d=>
 D10 .and d u1 fun d=>
 D10 .eql d u1 fun d=>
 K2 d (
 M3 b f.b (some 32) 1 fun b=>
 J1 b none h fun b=>
 D10 .or f.a b fun b=>
 c [b] h i) (
 c [f.a] h i)) (fun b c d=>
 D10 .add f.b i1 fun f=>
 e [b.a,f] c d)) (
 D10 .and f.a a4 fun b=>
 D10 .andNot b g fun b=>
 D10 .shr b a3 fun e=>
 D10 .and e u1 fun e=>
 D10 .eql e u1 fun e=>
 K2 e (
 Rt d.c h i k) (
 D10 .add d.c i1 fun d=>
 c [g,b,d] h i))) [u0,i0] e f) (
 Rt i0 e f k)) [u0,e,i1] c d)
def F63:Prop:=
 M12 a1 H nx fun b c d=>
 G3 (fun c d e f=>
 D10 .lss d.b a0 fun g=>
 K2 g (
 G3 (fun e f g h=>
 D10 .lss f.b a0 fun i=>
 K2 i (
 G3 (fun c g h i=>
 D10 .lss g.b f.b fun j=>
 K2 j (
 V4 (fun c=>
 V4 (fun c=>
 M3 b d.b (some 32) 1 fun e=>
 J1 e none h fun e=>
 D10 .shr e f.b fun e=>
 D10 .and e u1 fun e=>
 D10 .eql e u0 fun e=>
 K3 false e (
 M3 b d.b (some 32) 1 fun d=>
 J1 d none h fun d=>
 D10 .shr d g.b fun d=>
 D10 .and d u1 fun d=>
 D10 .eql d u0 fun d=>
 K3 false d (
 M3 b f.b (some 32) 1 fun b=>
 J1 b none h fun b=>
 D10 .shr b g.b fun b=>
 D10 .and b u1 fun b=>
 D10 .eql b u1 fun b=>
 c [b] h i) (
 c [bT] h i)) (
 c [bT] h i)) (fun e h i=>
 K2 e.a (
 c [g.a] h i) (
 M2 (i+16) fun e=>
 Y2 gQ 61 [a0] h e fun e i j=>
 M3 b d.b (some 32) 1 fun l=>
 J1 l none i fun m=>
 D10 .andNot e m fun e=>
 D10 .shl u1 d.b fun d=>
 D10 .andNot e d fun d=>
 D10 .shl u1 f.b fun e=>
 D10 .or d e fun d=>
 D10 .shl u1 g.b fun e=>
 D10 .or d e fun d=>
 wK (tB ((cE l none i m)/\(tB (cE l none h m)))) (
 J1 b (some 32) i fun b=>
 Y2 gQ 65 [a0,b,f.b,g.b,d] i j fun b d e=>
 V4 (fun c=>
 D10 .gtr b i0 fun f=>
 K3 true f (
 D10 .eql g.a i0 fun f=>
 K3 false f (
 D10 .add b (.int .i64 2) fun b=>
 D10 .lss b g.a fun b=>
 c [b] d e) (
 c [bT] d e)) (
 c [bF] d e)) (fun d e f=>
 K2 d.a (
 D10 .add b (.int .i64 2) fun b=>
 c [b] e f) (
 c [g.a] e f)))))) (fun b d e=>
 D10 .add g.b i1 fun f=>
 c [b.a,f] d e)) (
 D10 .add f.b i1 fun b=>
 e [g.a,b] h i)) [f.a,i0] g h) (
 D10 .add d.b i1 fun b=>
 c [f.a,b] g h)) [d.a,i0] e f) (
 Rt d.a e f k)) [i0,i0] c d
def F64:Prop:=
 R4 a0 0 H fun b=>
 J1 a2 none H fun c=>
 D10 .eql b c fun b=>
 K2 b (
 Rt a0 H nx k) (
 M2 (nx+11) fun b=>
 U6 a0 i0 H fun c d=>
 R4 a0 0 H fun e=>
 D10 .sub e i1 fun f=>
 U6 a0 f H fun f g=>
 wK ((tB (cE f none H g))/\((tB (R4 a0 0 H fun b=>b=e))/\(tB (tB (cE c none H d))))) (
 D10 .add d i1 fun c=>
 Y2 gQ 61 [c] H b fun b c e=>
 wUn .xor b fun b=>
 M2 (e+9) fun e=>
 M3 a3 g (some 32) 1 fun f=>
 J1 f none c fun h=>
 D10 .or a1 h fun i=>
 D10 .shl u1 g fun j=>
 D10 .or i j fun i=>
 wK (tB (tB (cE f none c h))) (
 J1 a4 none c fun f=>
 G3 (fun c e h j=>
 D10 .lss e.a f fun f=>
 K2 f (
 V4 (fun c=>
 M3 a3 g (some 32) 1 fun f=>
 J1 f none h fun f=>
 D10 .and f b fun f=>
 D10 .andNot f a1 fun f=>
 D10 .shr f e.a fun f=>
 D10 .and f u1 fun f=>
 D10 .eql f u0 fun f=>
 K2 f (
 c [] h j) (
 M2 (j+10) fun f=>
 D10 .andNot b i fun b=>
 D10 .shl u1 e.a fun g=>
 D10 .or b g fun b=>
 D10 .shl u1 d fun g=>
 D10 .or b g fun b=>
 wK True (
 M2 (f+11) fun f=>
 J1 a4 none h fun g=>
 J1 a3 (some 32) h fun j=>
 Y2 gQ 65 [g,j,e.a,d,b] h f fun b d f=>
 J1 a2 none d fun l=>
 R4 a0 0 d fun m=>
 D10 .sub l m fun n=>
 D10 .eql b n fun b=>
 wK (((R4 a0 0 d fun b=>b=m)/\(tB (R4 a0 0 h fun b=>b=m)))/\(((cE a2 none d l)/\(tB (cE a2 none h l)))/\((tA (tB (cE a3 (some 32) h j)))/\(tB (tA (tB (cE a4 none h g))))))) (
 K2 b (
 M2 (f+8) fun b=>
 J1 a5 none d fun c=>
 K6 1 1 [.int .i64 0] [(0,e.a)] fun e=>wNm f 3 (.slice 1 1) fun g=>
 E6 d (f+3) (some (.cells e 0)) fun e=>B5 a0 g 1 8 e b fun b e f=>
 M33 gQ c [b,i] e f fun b f g=>
 wK (tB (tA ((cE a5 none e c)/\(tB (cE a5 none d c))))) (
 Rt b f g k)) (
 c [] d f))))) (fun _ b d=>
 D10 .add e.a i1 fun e=>
 c [e] b d)) (
 Rt (.slice none 0 0) h j k)) [i0] c e)))
def F30:Prop:=
 M12 a0 H nx fun b c d=>
 M12 a1 c d fun c d e=>
 J1 b none d fun f=>
 J1 c (some 32) d fun g=>
 Y2 gQ 63 [f,g] d e fun d e f=>
 wAl [.int .i64 0] e f fun e f g=>
 D5 e d 1 f fun d=>
 J1 e none d fun f=>
 D10 .eql f i0 fun f=>
 K2 f (
 Rt (.slice none 0 0) d g k) (
 wAl [.nilFunc] d g fun d f g=>
 D5 d (.func (.func 64) ⟨[]⟩ ⟨[e,c,b,d]⟩) 1 f fun e=>
 J1 b none e fun f=>
 G3 (fun e g h i=>
 D10 .lss g.a f fun f=>
 K2 f (
 J1 b none h fun b=>
 G3 (fun f h i j=>
 D10 .lss h.a b fun b=>
 K2 b (
 V4 (fun b=>
 V4 (fun b=>
 D10 .gtr h.a g.a fun d=>
 K3 true d (
 M3 c g.a (some 32) 1 fun c=>
 J1 c none i fun c=>
 D10 .shr c h.a fun c=>
 D10 .and c u1 fun c=>
 D10 .eql c u1 fun c=>
 b [c] i j) (
 b [bF] i j)) (fun c e f=>
 K2 c.a (
 J1 d none e fun c=>
 D24 2 1 [.int .i64 0] [(0,g.a),(1,h.a)] e f fun d e f=>
 M33 gQ c [d,u0] e f fun c d e=>
 D9 (.eqn true (.slice 3)) [c,(.slice none 0 0)] fun f=>
 K2 f (
 Rt c d e k) (
 b [] d e)) (
 b [] e f))) (fun _ b c=>
 D10 .add h.a i1 fun d=>
 f [d] b c)) (
 D10 .add g.a i1 fun b=>
 e [b] i j)) [i0] h i) (
 Rt (.slice none 0 0) h i k)) [i0] e g)
def F91:Prop:=
 Y2 gQ 44 [a0] H nx fun b c d=>
 Rt b c d k
def F67:Prop:=
 M12 a0 H nx fun b c d=>
 K7 b 1 c fun _ b=>
 R4 b 0 c fun e=>
 G3 (fun c d f g=>
 D10 .lss d.c e fun e=>
 K2 e (
 V4 (fun c=>
 U6 b d.c f fun _ b=>
 V4 (fun c=>
 D10 .andNot a1 b fun e=>
 D10 .eql e u0 fun e=>
 K3 true e (
 wUn .not d.b fun e=>
 K3 false e (
 D10 .andNot a2 b fun b=>
 Y2 gQ 91 [b] f g fun b e f=>
 Y2 gQ 91 [d.a] e f fun d e f=>
 D10 .lss b d fun b=>
 c [b] e f) (
 c [bT] f g)) (
 c [bF] f g)) (fun e f g=>
 K2 e.a (
 D10 .andNot a2 b fun b=>
 c [b,bT] f g) (
 c [d.a,d.b] f g))) (fun b e f=>
 D10 .add d.c i1 fun d=>
 c [b.a,b.b,d] e f)) (
 Rt (.tuple ⟨[d.a,d.b]⟩) f g k)) [u0,bF,i0] c d
def F68:Prop:=
 M12 a0 H nx fun b c d=>
 K7 b 1 c fun _ b=>
 R4 b 0 c fun e=>
 G3 (fun c d f g=>
 D10 .lss d.c e fun e=>
 K2 e (
 V4 (fun c=>
 U6 b d.c f fun _ b=>
 V4 (fun c=>
 D10 .andNot a1 b fun e=>
 D10 .eql e u0 fun e=>
 K3 true e (
 D10 .andNot a2 b fun b=>
 D10 .and b d.b fun b=>
 D10 .eql b u0 fun b=>
 c [b] f g) (
 c [bF] f g)) (fun e f g=>
 K2 e.a (
 D10 .add d.a i1 fun e=>
 D10 .andNot a2 b fun b=>
 D10 .or d.b b fun b=>
 c [e,b] f g) (
 c [d.a,d.b] f g))) (fun b e f=>
 D10 .add d.c i1 fun d=>
 c [b.a,b.b,d] e f)) (
 Rt d.a f g k)) [i0,u0,i0] c d
def F66:Prop:=
 J1 a3 (some 2) H fun b=>
 Y2 gQ 67 [b,a0,a1] H nx fun b c d=>
 G9 b 0 fun e=>
 G9 b 1 fun b=>
 wUn .not b fun b=>
 K2 b (
 Rt bT c d k) (
 V4 (fun b=>
 D10 .eql e u0 fun e=>
 K3 false e (
 J1 a3 (some 2) c fun e=>
 Y2 gQ 68 [e,a0,a1] c d fun c d e=>
 D10 .gtr c a2 fun c=>
 b [c] d e) (
 b [bT] c d)) (fun b c d=>
 K2 b.a (
 Rt bF c d k) (
 K7 a3 0 c fun _ b=>
 G3 (fun c d f g=>
 D10 .lss d.b b fun b=>
 K2 b (
 V4 (fun b=>
 D10 .shr e d.b fun c=>
 D10 .and c u1 fun c=>
 D10 .eql c u0 fun c=>
 K2 c (
 b [d.a] f g) (
 D10 .shl u1 d.b fun c=>
 D10 .andNot d.a c fun c=>
 M2 (g+13) fun e=>
 J1 a4 none f fun g=>
 D10 .shl u1 d.b fun h=>
 D10 .or a0 h fun h=>
 M3 a5 d.b (some 32) 1 fun d=>
 J1 d none f fun i=>
 D10 .and c i fun j=>
 D10 .sub a2 i1 fun l=>
 M33 gQ g [h,j,l] f e fun e h j=>
 wK ((tA (tB (cE d none f i)))/\(tB (tA (tB (cE a4 none f g))))) (
 K2 e (
 Rt bT h j k) (
 b [c] h j)))) (fun b e f=>
 D10 .add d.b i1 fun d=>
 c [b.a,d] e f)) (
 Rt bF f g k)) [a1,i0] c d)))
def F31:Prop:=
 M12 a0 H nx fun b c d=>
 M12 a1 c d fun c d e=>
 K7 b 1 d fun _ f=>
 R4 f 0 d fun g=>
 G3 (fun d e h i=>
 D10 .lss e.b g fun g=>
 K2 g (
 U6 f e.b h fun _ b=>
 D10 .or e.a b fun b=>
 D10 .add e.b i1 fun c=>
 d [b,c] h i) (
 D10 .eql e.a u0 fun d=>
 K2 d (
 Rt (.slice none 0 0) h i k) (
 wAl [.nilFunc] h i fun d f g=>
 D5 d (.func (.func 66) ⟨[]⟩ ⟨[b,d,c]⟩) 1 f fun f=>
 G3 (fun f g h i=>
 V4 (fun b=>
 D10 .leq g.a a2 fun c=>
 K3 true c (
 J1 d none h fun c=>
 M33 gQ c [u0,e.a,g.a] h i fun c d e=>
 wUn .not c fun c=>
 b [c] d e) (
 b [bF] h i)) (fun h i j=>
 K2 h.a (
 D10 .add g.a i1 fun b=>
 f [b] i j) (
 D10 .gtr g.a a2 fun f=>
 K2 f (
 Rt (.slice none 0 0) i j k) (
 K7 b 0 i fun _ b=>
 G3 (fun e f h i=>
 D10 .lss f.d b fun b=>
 K2 b (
 V4 (fun b=>
 D10 .shr f.c f.d fun e=>
 D10 .and e u1 fun e=>
 D10 .eql e u0 fun e=>
 K2 e (
 b [f.a,f.b,f.c] h i) (
 D10 .shl u1 f.d fun e=>
 D10 .andNot f.c e fun e=>
 V4 (fun b=>
 M2 (i+22) fun i=>
 R4 f.a 0 h fun j=>
 D10 .lss j g.a fun l=>
 K3 true l (
 J1 d none h fun l=>
 D10 .shl u1 f.d fun m=>
 D10 .or f.b m fun m=>
 M3 c f.d (some 32) 1 fun c=>
 J1 c none h fun n=>
 D10 .and e n fun e=>
 R4 f.a 0 h fun o=>
 D10 .sub g.a o fun g=>
 D10 .sub g i1 fun g=>
 M33 gQ l [m,e,g] h i fun e g i=>
 wK ((tA (tB (R4 f.a 0 h fun b=>b=o)))/\((tA (tB (cE c none h n)))/\((tA (tB (cE d none h l)))/\(tB (tA (tB (R4 f.a 0 h fun b=>b=j))))))) (
 b [e] g i)) (
 wK (tB (tB (R4 f.a 0 h fun b=>b=j))) (
 b [bF] h i))) (fun d g h=>
 K2 d.a (
 D24 1 1 [.int .i64 0] [(0,f.d)] g h fun d g h=>
 B5 f.a d 1 8 g h fun d g h=>
 D10 .shl u1 f.d fun i=>
 D10 .or f.b i fun i=>
 M3 c f.d (some 32) 1 fun c=>
 J1 c none g fun c=>
 D10 .and e c fun c=>
 b [d,i,c] g h) (
 b [f.a,f.b,e] g h)))) (fun b c d=>
 D10 .add f.d i1 fun f=>
 e [b.a,b.b,b.c,f] c d)) (
 Rt f.a h i k)) [(.slice none 0 0),u0,e.a,i0] i j)))) [(.int .i64 3)] f g))) [u0,i0] d e
def F32:Prop:=
 R4 a0 0 H fun b=>
 G3 (fun c d e f=>
 D10 .lss d.a b fun b=>
 K2 b (
 U6 a0 d.a e fun _ b=>
 R4 a1 0 e fun g=>
 D10 .geq d.a g fun g=>
 K2 g (
 Rt i1 e f k) (
 U6 a1 d.a e fun _ g=>
 Y2 gQ 69 [b,g] e f fun b e f=>
 D10 .neq b i0 fun g=>
 K2 g (
 Rt b e f k) (
 D10 .add d.a i1 fun b=>
 c [b] e f))) (
 R4 a0 0 e fun b=>
 R4 a1 0 e fun c=>
 D10 .lss b c fun b=>
 K2 b (
 Rt (.int .i64 (-1)) e f k) (
 Rt i0 e f k))) [i0] H nx
def F12:Prop:=
 M12 a0 H nx fun b c d=>
 J1 b (some 2) c fun e=>
 Y2 gQ 27 [e] c d fun c d e=>
 D10 .neq c i0 fun c=>
 K2 c (
 Rt (.tuple ⟨[(.slice none 0 0),bF]⟩) d e k) (
 J1 b (some 2) d fun c=>
 Y2 gQ 29 [c] d e fun c d e=>
 wAl z32 d e fun d e f=>
 D5 d c 32 e fun c=>
 K7 b 0 c fun _ e=>
 J1 d (some 32) c fun g=>
 Y2 gQ 30 [e,g] c f fun c e f=>
 R4 c 0 e fun g=>
 V4 (fun c=>
 D10 .eql g i0 fun d=>
 K2 d (
 K7 b 0 e fun _ b=>
 c [b] e f) (
 c [g] e f)) (fun e f g=>
 J1 b (some 2) f fun b=>
 J1 d (some 32) f fun d=>
 Y2 gQ 31 [b,d,e.a] f g fun b d e=>
 R4 b 0 d fun f=>
 D10 .eql f i0 fun f=>
 K2 f (
 R4 c 0 d fun b=>
 D10 .gtr b i0 fun b=>
 Rt (.tuple ⟨[c,b]⟩) d e k) (
 V4 (fun f=>
 R4 c 0 d fun g=>
 D10 .eql g i0 fun g=>
 K3 false g (
 R4 b 0 d fun g=>
 R4 c 0 d fun h=>
 D10 .lss g h fun g=>
 K3 false g (
 Y2 gQ 32 [b,c] d e fun b c d=>
 D10 .lss b i0 fun b=>
 f [b] c d) (
 f [bT] d e)) (
 f [bT] d e)) (fun d e f=>
 K2 d.a (
 Rt (.tuple ⟨[b,bT]⟩) e f k) (
 Rt (.tuple ⟨[c,bT]⟩) e f k)))))
variable {a0 a1 a2 a3 a4 a5 H nx k}
theorem spec65:F65 a0 a1 a2 a3 a4 H nx k->Q2 gQ 65 [a0,a1,a2,a3,a4] H nx k:=Q12 [(13,[14])] [[11,12,13],[14,26]] []
theorem spec63:F63 a0 a1 H nx k->Q2 gQ 63 [a0,a1] H nx k:=Q12 [(16,[5]),(19,[47]),(22,[80])] [[5,12],[5,16],[5,20]] [.one (.tst (.one (.tst (.one .nil) (.one .nil))) (.one (.one (.one .nil)))),.one (.tst (.tst (.one (.one .nil)) (.one (.one .nil))) (.one (.one (.one .nil))))]
theorem spec64:F64 a0 a1 a2 a3 a4 a5 H nx k->Q2 gQ 64 [a0,a1,a2,a3,a4,a5] H nx k:=Q12 [(11,[])] [[42]] []
theorem spec30:F30 a0 a1 H nx k->Q2 gQ 30 [a0,a1] H nx k:=Q12 [(16,[]),(18,[35])] [[17],[21]] [.one (.tst (.one .nil) (.one .nil))]
theorem spec91:F91 a0 H nx k->Q2 gQ 91 [a0] H nx k:=Q12 [] [] []
theorem spec67:F67 a0 a1 a2 H nx k->Q2 gQ 67 [a0,a1,a2] H nx k:=Q12 [(6,[8,9]),(8,[35])] [[8,9,15]] [.one (.tst (.tst (.one (.one .nil)) (.one (.one .nil))) (.one (.one (.one .nil))))]
theorem spec68:F68 a0 a1 a2 H nx k->Q2 gQ 68 [a0,a1,a2] H nx k:=Q12 [(6,[7,8]),(8,[29])] [[7,8,14]] [.one (.tst (.one .nil) (.one .nil))]
theorem spec66:F66 a0 a1 a2 a3 a4 a5 H nx k->Q2 gQ 66 [a0,a1,a2,a3,a4,a5] H nx k:=Q12 [(6,[31]),(12,[1])] [[1,34]] [.one (.tst (.one .nil) (.one .nil))]
theorem spec31:F31 a0 a1 a2 H nx k->Q2 gQ 31 [a0,a1,a2] H nx k:=Q12 [(16,[39]),(26,[12,13,14]),(31,[81])] [[7,19],[11],[12,13,14,48]] [.one (.tst (.one .nil) (.one .nil)),.one (.tst (.one .nil) (.one .nil))]
theorem spec32:F32 a0 a1 H nx k->Q2 gQ 32 [a0,a1] H nx k:=Q12 [] [[11]] []
theorem spec12:F12 a0 H nx k->Q2 gQ 12 [a0] H nx k:=Q12 [(7,[6]),(13,[35])] [] [.one (.tst (.one (.tst (.one .nil) (.one .nil))) (.one (.one (.one .nil))))]
end
theorem C59{n:Nat}(hn:n<=32)(H:Y0)(nx:Nat):Q2 gQ 35 [O8 (n:Int)] H nx (Z56 (O9 ((2^n-1:Nat):Int)) H nx):=by
 refine spec35 ?_;unfold F35;simp only[W1,M26 hn,Y5];exact⟨rfl,rfl,rfl⟩
theorem G56(N free:Int)(A:Option Addr)(es:List Nat)(cap:Nat)(H:Y0)(nx:Nat)(hS:Sl H nx A (K12 es))(J:U14 es):
  Q2 gQ 33 [gv N A es.length cap,O8 free] H nx fun v H' nx'=>v=O8 (Q6 N free es)/\D0 H nx H' nx':=by
 refine spec33 ?_;unfold F33;have hE:D0 H nx (hs H nx (O7 [O8 N,.slice A es.length cap])) (nx+1):=(D0.refl H nx).nw _;simp only[W0,Z0,Q0.val,C13];refine R0 (N11 N A es cap _ _ (hS.ext hE) J) ?_;rintro _ H2 nx2 ⟨rfl,E⟩;have hg:=E.gt nx;rw[Z11] at hg;simp only[W0,hg,N13]
 by_cases h0:N3 N es=0
 .by_cases h1:free<0
  .simp only[W0,h0,h1,ne_eq,not_true_eq_false]
   exact⟨by simp[Q6,h0,h1],hE.trans E⟩
  .by_cases h2:N<free
   .simp only[W0,h0,h1,h2,ne_eq,not_true_eq_false]
    exact⟨by simp[Q6,h0,h2],hE.trans E⟩
   .simp only[W0,h0,h1,h2,ne_eq,not_true_eq_false]
    exact⟨by simp[Q6,h0,h1,h2],hE.trans E⟩
 .simp only[W0,h0,ne_eq,not_false_eq_true]
  exact⟨by simp[Q6,h0],hE.trans E⟩
theorem Z71{n:Nat}(hn:n<=32)(A:Option Addr)(es:List Nat)(cap:Nat)(H:Y0)(nx:Nat)(hS:Sl H nx A (K12 es))(a2:∀ e ∈ es,e<2^n)(a1:es.length<=64)(a7:N3 n es=0):
  Q2 gQ 34 [gv n A es.length cap] H nx fun r H' nx'=>r = .agg ⟨K12 (B2 es n)⟩/\D0 H nx H' nx':=by
 refine spec34 ?_;unfold F34;simp(disch:=omega)only[W0,Z0,Q0.val,Q27];generalize hK:hs (hs (hs H nx (O7 [O8 n,.slice A es.length cap])) (nx+1) (O7 (K12 (aF 32 0)))) (nx+1+1) (O7 (K12 (aF 32 0)))=K;have kG:J0 K nx=O7 [O8 n,.slice A es.length cap]:=by rw[<- hK,gN _,gN _,Z11]
 have kR:J0 K (nx+1)=O7 (K12 (aF 32 0)):=by rw[<- hK,gN _,Z11]
 have kA:J0 K (nx+1+1)=O7 (K12 (aF 32 0)):=by rw[<- hK,Z11]
 have a3:D0 H nx K (nx+3):=by
  rw[<- hK];exact((((D0.refl H nx).nw _:D0 H nx _ (nx+1)).nw _:D0 H nx _ (nx+1+1)).nw _)
 refine B1 (m:=n) (fun m L H' nx'=>∃(i:Nat) (l:List Nat),m+i=n/\L=[O8 (i:Int)]/\l.length=32/\(∀ v,v<32->l[v]? = some (if v<i then Q1 (adj es v) n else 0)) /\
  J0 H' (nx+1+1)=O7 (K12 l)/\D0 K (nx+2) H' nx'/\nx+3<=nx') ?_ ⟨0,aF 32 0,rfl,rfl,O2,fun v hv=>by rw[List.getElem?_replicate,if_pos hv];simp,kA,D0.sf,aD _⟩
 rintro m ih L H2 nx2 ⟨i,l,hm,rfl,hl,O,hg,E,a9⟩ a5;have g2:=(E.gt nx).trans kG;have r2:=(E.gt (nx+1)).trans kR;have J:D0 H nx H2 nx2:=⟨O0,fun q hq=>(E.gt q).trans (a3.get q hq)⟩
 simp(disch:=omega)only[W0]
 by_cases hi:i<n
 case neg=>
  have Q:¬ (i:Int)<(n:Int):=O0;have a6:i=n:=O0;subst a6;have a4:l=B2 es i:=by
   refine G32 hl (N9 es i) fun v hv => ?_
   rw[O v hv];simp[B2,hv]
  subst a4;have e1:(K12 (B2 es i)).length=32:=by rw[E1];exact hl
  have e2:(K12 (aF 32 0)).length=32:=by rw[E1];simp
  have e3:=G24 (c:=K12 (aF 32 0)) (vs:=K12 (B2 es i)) (by rw[e1,e2]);have e4:=W5 (B2 es i);simp only[W0,Q,hg,Z34 hl,e1,e2,e4,r2,e3];exact J.h0
 have Q:(i:Int)<(n:Int):=O0;simp(disch:=omega)only[W0,Q,g2,C13];refine R0 (U61 hn hi A es cap _ _ (hS.ext J) a2 a1 a7) ?_;rintro _ H3 ab ⟨rfl,U⟩;have a8:=(U.gt (nx+1+1)).trans hg;have aa:=U.le;have a0:i<l.length:=O0;have V:(K12 l).length=32:=by rw[E1];exact hl
 simp only[W0,Nat.reduceLeDiff,a8,V10 a0,V];refine⟨O0,a5 (m-1) _ _ _ O0 ⟨i+1,l.set i (Q1 (adj es i) n),O0,O2,by rw[dO];exact hl,fun v hv => ?_,by rw[Z11],((E.trans (U.less O0)).h0),O0⟩⟩;rw[cQ]
 by_cases Z:i=v
 .subst Z;rw[if_pos rfl,if_pos O0,if_pos O0]
 .rw[if_neg Z,O v hv]
  by_cases W:v<i
  .rw[if_pos W,if_pos O0]
  .rw[if_neg W,if_neg O0]
section
variable {u w:Nat}
theorem M18{l:List Value}(h:l.length=32)(k:VP):B10 l 0 (some 32) k=k (.agg ⟨l⟩):=by
 have:=K26 (l:=l) k;rwa [h] at this
structure NbL (aL:List Nat) (N:Nat):Prop where
 len:aL.length=32
 lt:∀(u x:Nat),aL[u]? = some x->x<2^N
theorem NbL.at{aL:List Nat}{N:Nat}(h:NbL aL N)(hu:u<32):∃ x,aL[u]? = some x/\x<2^N/\aL.getD u 0=x:=by
 obtain⟨x,hx⟩:∃ x,aL[u]? = some x:=⟨aL[u]'(by rw[h.len];exact hu),aE _⟩
 exact⟨x,hx,h.lt u x hx,by simp[aP,hx]⟩
section
variable {aL:List Nat} {N:Nat} (hN:N<=6) (hL:NbL aL N)
include hN hL
theorem B83 {u w within:Nat} (hu:u<N) (hw:w<N) (hwi:within<4294967296) (H:Y0) (nx:Nat):
  Q2 Tryz.prog 65 [.int .i64 (N:Int),.agg ⟨K12 aL⟩,.int .i64 (u:Int),.int .i64 (w:Int),.int .u32 (within:Int)] H nx fun r H' nx'=>r = .int .i64 (B75 aL N u w within:Int)/\D0 H nx H' nx':=by
 have hp64:2^N<=64:=Nat.pow_le_pow_right (n:=2) (by omega) hN
 have hp1:0<2^N:=Nat.two_pow_pos N
 have hu32:u<32:=by omega
 have hw32:w<32:=by omega
 refine spec65 ?_
 unfold F65
 have hE1:D0 H nx (hs H nx (some (.cells (K12 aL) 0))) (nx+1):=(D0.refl H nx).new _ (Nat.le_refl _) (by omega)
 have g1:J0 (hs H nx (some (.cells (K12 aL) 0))) nx=some (.cells (K12 aL) 0):=Z11 _ _ _
 simp (disch:=first | omega | assumption | exact G0 (by assumption) | exact U10 (by assumption) | exact X0 (by omega) | fail  ) only[W0,Q0.val,W5 aL]
 generalize hs H nx (some (.cells (K12 aL) 0))=H1 at *
 refine B1 (m:=N) (fun f L H' nx'=>∃ (c b st:Nat),L=[.int .u32 (c:Int),.int .u32 (b:Int),.int .i64 (st:Int)]/\c<2^N/\b<2^N/\N<=f+(V5 N c).length/\(∀ w,b.testBit w=true->c.testBit w=false)/\W84 aL N w within f c b st=B75 aL N u w within/\f+st=N+1/\H1=H'/\nx+1<=nx') ?_
  ⟨0,2^u,1,rfl,hp1,R27 hu,by omega,by simp,rfl,rfl,rfl,by omega⟩
 rintro f ih L _ n2 ⟨c,b,st,rfl,hc,hb,hf,hd,hcb,hst,rfl,hn2⟩ hih
 have hc32:c<4294967296:=by omega
 have hb32:b<4294967296:=by omega
 have hfin:D0 H nx H1 n2:=hE1.more hn2
 by_cases hb0:b=0
 .subst hb0
  rw[B102] at hcb
  simp (disch:=first | omega | assumption | exact G0 (by assumption) | exact U10 (by assumption) | exact X0 (by omega) | fail   ) only[W0,ne_eq,not_true_eq_false]
  exact⟨by rw[<- hcb];rfl,hfin⟩
 have hb0':¬ (b:Int)=0:=by omega
 obtain⟨f',rfl⟩:∃ f',f=f'+1:=by
  cases f with
  | zero=>exact absurd (X20 hb hd (by have:=Q15 N c;omega)) hb0
  | succ f=>exact⟨f,rfl⟩
 have hg:=R25 hb hb0 hd
 have hcb32:c ||| b<2^N:=Z26 hc hb
 rw[show W84 aL N w within (f'+1) c b st=if b=0 then 0 else if (Z2 (Q4 aL b N &&& within) (c ||| b)).testBit w=true then st else W84 aL N w within f' (c ||| b) (Z2 (Q4 aL b N &&& within) (c ||| b)) (st+1) from rfl,if_neg hb0] at hcb
 simp (disch:=first | omega | assumption | exact G0 (by assumption) | exact U10 (by assumption) | exact X0 (by omega) | fail  ) only[W0,ne_eq,hb0',not_false_eq_true]
 refine B1 (m:=N) (fun q L H' nx'=>∃ (j:Nat),q+j=N/\L=[.int .u32 (Q4 aL b j:Int),.int .i64 (j:Int)]/\H1=H'/\n2=nx') ?_ ⟨0,by omega,rfl,rfl,rfl⟩
 rintro q ih7 L _ _ ⟨j,hq,rfl,rfl,rfl⟩ hih7
 have hnl:=Z14 (b:=b) hL.lt
 by_cases hj:j<N
 case neg=>
  obtain rfl:j=N:=by omega
  have hj':¬ (j:Int)<(j:Int):=by omega
  have hnj:=hnl j
  have hx32:Q4 aL b j<4294967296:=by omega
  have hy32:c ||| b<4294967296:=by omega
  have hz32:Q4 aL b j &&& within<4294967296:=D52 hx32
  have hnd:=Z6 (n:=j) (b:=c ||| b) (W37 (b:=within) hnj)
  have hnd32:Z2 (Q4 aL b j &&& within) (c ||| b)<4294967296:=by omega
  by_cases hbit:(Z2 (Q4 aL b j &&& within) (c ||| b)).testBit w=true
  .rw[if_pos hbit] at hcb
   simp (disch:=first|omega|assumption|exact G0 (by assumption)|exact U10 (by assumption)|exact X0 (by omega)|fail) only[W0,hj',hbit]
   exact⟨by rw[hcb],hfin⟩
  .rw[if_neg hbit] at hcb
   have hbit':=Bool.eq_false_iff.2 hbit
   simp (disch:=first|omega|assumption|exact G0 (by assumption)|exact U10 (by assumption)|exact X0 (by omega)|fail) only[W0,hj',hbit']
   refine hih f' _ _ _ (by omega) ⟨c ||| b,_,st+1,rfl,hcb32,hnd,by omega,fun w hw => ?_,hcb,by omega,rfl,hn2⟩
   rw[N1,Bool.and_eq_true] at hw
   simpa using hw.2
 have hj':(j:Int)<(N:Int):=by omega
 obtain⟨x,hx,hx2,hxD⟩:=hL.at (u:=j) (by omega)
 have hx32:x<4294967296:=by omega
 have hnj:=hnl j
 have hn32:Q4 aL b j<4294967296:=by omega
 have gx:=Q3 hx
 have hstep:Q4 aL b (j+1)=if b.testBit j=true then Q4 aL b j ||| aL.getD j 0 else Q4 aL b j:=rfl
 rw[hxD] at hstep
 have hj32:j<32:=by omega
 cases hbj:b.testBit j with
 | false=>
  rw[hbj,if_neg (by simp)] at hstep
  simp (disch:=first|omega|assumption|exact G0 (by assumption)|exact U10 (by assumption)|exact X0 (by omega)|fail) only[W0,hj',N13,hbj]
  exact hih7 (q-1) _ _ _ (by omega) ⟨j+1,by omega,by rw[hstep];try simp,rfl,rfl⟩
 | true=>
  rw[hbj,if_pos rfl] at hstep
  simp (disch:=first|omega|assumption|exact G0 (by assumption)|exact U10 (by assumption)|exact X0 (by omega)|fail) only[W0,hj',N13,hbj,g1,gx]
  exact hih7 (q-1) _ _ _ (by omega) ⟨j+1,by omega,by rw[hstep];try simp,rfl,rfl⟩
theorem E97{to within:Nat}:∀(k E b st:Nat),W84 aL N to within k E b st<=st+k
 | 0,_,_,_=>Nat.zero_le _
 | k+1,E,b,st=>by
  unfold W84
  split
  .exact Nat.zero_le _
  .split
   .omega
   .have:=E97 (to:=to) (within:=within) k (E ||| b) (Z2 (Q4 aL b N &&& within) (E ||| b)) (st+1)
    omega
theorem D81{within:Nat}:B75 aL N u w within<=7:=by
 have:=E97 hN hL (to:=w) (within:=within) N 0 (2^u) 1;unfold B75;omega
theorem M44:(K12 aL).length=32:=by rw[E1];exact hL.len
theorem G107{v:Nat}(hu:u<N)(hw:w<N):D86 aL N v u w<2^N:=by
 have E:0<2^N:=aQ N;exact Z26 (Z26 (Z6 (Z6 O0)) (R27 hu)) (R27 hw)
theorem D89 (H:Y0) (nx:Nat):Q2 Tryz.prog 63 [.int .i64 (N:Int),.agg ⟨K12 aL⟩] H nx fun r H' nx'=>r = .int .i64 (cyV aL N N:Int)/\D0 H nx H' nx':=by
 have hp64:2^N<=64:=Nat.pow_le_pow_right (n:=2) (by omega) hN
 have hp1:0<2^N:=Nat.two_pow_pos N
 have h32:=M44 hN hL
 refine spec63 ?_
 unfold F63
 have hE1:D0 H nx (hs H nx (some (.cells (K12 aL) 0))) (nx+1):=(D0.refl H nx).new _ (Nat.le_refl _) (by omega)
 have g1:J0 (hs H nx (some (.cells (K12 aL) 0))) nx=some (.cells (K12 aL) 0):=Z11 _ _ _
 simp (disch:=first | omega | assumption | exact G0 (by assumption) | exact U10 (by assumption) | exact X0 (by omega) | fail   ) only[W0,Q0.val,W5 aL]
 generalize hs H nx (some (.cells (K12 aL) 0))=H1 at *
 refine B1 (m:=N) (fun m L H' nx'=>∃ v:Nat,m+v=N/\L=[.int .i64 (cyV aL N v:Int),.int .i64 (v:Int)]/\D0 H1 (nx+1) H' nx') ?_ ⟨0,by omega,rfl,D0.refl _ _⟩
 rintro m ih L H2 n2 ⟨v,hm,rfl,e2⟩ hih
 by_cases hv:v<N
 case neg=>
  obtain rfl:v=N:=by omega
  have hv':¬ (v:Int)<(v:Int):=by omega
  simp (disch:=first | omega | assumption | exact G0 (by assumption) | exact U10 (by assumption) | exact X0 (by omega) | fail   ) only[W0,hv']
  exact hE1.trans e2
 have hv':(v:Int)<(N:Int):=by omega
 simp (disch:=first | omega | assumption | exact G0 (by assumption) | exact U10 (by assumption) | exact X0 (by omega) | fail  ) only[W0,hv']
 refine B1 (m:=N) (fun m L H' nx'=>∃ u:Nat,m+u=N/\L=[.int .i64 (cyU aL N v (cyV aL N v) u:Int),.int .i64 (u:Int)]/\D0 H1 (nx+1) H' nx') ?_ ⟨0,by omega,rfl,e2⟩
 rintro m3 ih3 L H3 n3 ⟨u,hm3,rfl,e3⟩ hih3
 by_cases hu:u<N
 case neg=>
  obtain rfl:u=N:=by omega
  have hu':¬ (u:Int)<(u:Int):=by omega
  simp (disch:=first | omega | assumption | exact G0 (by assumption) | exact U10 (by assumption) | exact X0 (by omega) | fail   ) only[W0,hu']
  exact hih (m-1) _ _ _ (by omega) ⟨v+1,by omega,rfl,e3⟩
 have hu':(u:Int)<(N:Int):=by omega
 simp (disch:=first | omega | assumption | exact G0 (by assumption) | exact U10 (by assumption) | exact X0 (by omega) | fail  ) only[W0,hu']
 refine B1 (m:=u) (fun m L H' nx'=>∃ w:Nat,m+w=u/\L=[.int .i64 (cyW aL N v u (cyU aL N v (cyV aL N v) u) w:Int),.int .i64 (w:Int)]/\D0 H1 (nx+1) H' nx') ?_ ⟨0,by omega,rfl,e3⟩
 rintro m4 ih4 L H4 n4 ⟨w,hm4,rfl,e4⟩ hih4
 by_cases hw:w<u
 case neg=>
  obtain rfl:w=u:=by omega
  have hw':¬ (w:Int)<(w:Int):=by omega
  simp (disch:=first | omega | assumption | exact G0 (by assumption) | exact U10 (by assumption) | exact X0 (by omega) | fail   ) only[W0,hw']
  exact hih3 (m3-1) _ _ _ (by omega) ⟨w+1,by omega,rfl,e4⟩
 have hw':(w:Int)<(u:Int):=by omega
 have g4:=(e4.get nx (by omega)).trans g1
 obtain⟨xv,gv',xv2,xvD⟩:=hL.at (u:=v) (by omega)
 obtain⟨xu,gu',xu2,xuD⟩:=hL.at (u:=u) (by omega)
 have gv':=Q3 gv'
 have gu':=Q3 gu'
 have xv32:xv<4294967296:=by omega
 have xu32:xu<4294967296:=by omega
 have v32:v<32:=by omega
 have u32:u<32:=by omega
 have w32:w<32:=by omega
 generalize hl:cyW aL N v u (cyU aL N v (cyV aL N v) u) w=l at *
 have next:cyW aL N v u (cyU aL N v (cyV aL N v) u) (w+1)=if (nbB aL v u&&nbB aL v w && !nbB aL u w)=true then cyD (B75 aL N u w (D86 aL N v u w)) l else l:=by rw[cyW,hl]
 have bvu:nbB aL v u=xv.testBit u:=by unfold nbB;rw[xvD]
 have bvw:nbB aL v w=xv.testBit w:=by unfold nbB;rw[xvD]
 have buw:nbB aL u w=xu.testBit w:=by unfold nbB;rw[xuD]
 rw[bvu,bvw,buw] at next
 simp (disch:=first | omega | assumption | exact G0 (by assumption) | exact U10 (by assumption) | exact X0 (by omega) | fail  ) only[W0,hw']
 rw[N13]
 refine N5 (fun L H' nx'=>L=[.bool (!(xv.testBit u&&xv.testBit w && !xu.testBit w))]/\H4=H'/\n4=nx') ?_ ?_
 .intro j hj
  cases b1:xv.testBit u with
  | false=>
   simp (disch:=first|omega|assumption|exact G0 (by assumption)|exact U10 (by assumption)|exact X0 (by omega)|fail) only[W0,g4,gv',b1]
   exact hj _ _ _ ⟨by simp[b1],rfl,rfl⟩
  | true=>
   cases b2:xv.testBit w with
   | false=>
    simp (disch:=first|omega|assumption|exact G0 (by assumption)|exact U10 (by assumption)|exact X0 (by omega)|fail) only[W0,g4,gv',b1,b2]
    exact hj _ _ _ ⟨by simp[b1,b2],rfl,rfl⟩
   | true=>
    simp (disch:=first|omega|assumption|exact G0 (by assumption)|exact U10 (by assumption)|exact X0 (by omega)|fail) only[W0,g4,gv',gu',b1,b2]
    exact hj _ _ _ ⟨by simp[b1,b2],rfl,rfl⟩
 rintro L _ _ ⟨rfl,rfl,rfl⟩
 by_cases hb:(xv.testBit u&&xv.testBit w && !xu.testBit w)=true
 case neg=>
  rw[if_neg hb] at next
  rw[Bool.eq_false_iff.2 hb]
  simp (disch:=first | omega | assumption | exact G0 (by assumption) | exact U10 (by assumption) | exact X0 (by omega) | fail   ) only[W0]
  exact hih4 (m4-1) _ _ _ (by omega) ⟨w+1,by omega,by rw[next];simp,e4⟩
 rw[if_pos hb] at next
 rw[hb]
 simp (disch:=first | omega | assumption | exact G0 (by assumption) | exact U10 (by assumption) | exact X0 (by omega) | fail   ) only[W0]
 refine R0 (C51 (n:=N) (by omega) _ _) ?_
 rintro _ _ _ ⟨rfl,rfl,rfl⟩
 have a1:2^N-1<4294967296:=by omega
 have a2:Z2 (2^N-1) xv<2^N:=Z6 (by omega)
 have a3:Z2 (Z2 (2^N-1) xv) (2^v)<2^N:=Z6 a2
 have a4:Z2 (Z2 (2^N-1) xv) (2^v) ||| 2^u<2^N:=Z26 a3 (R27 hu)
 have a5:=G107 hN hL (v:=v) hu (show w<N by omega)
 have b2':Z2 (2^N-1) xv<4294967296:=by omega
 have b3':Z2 (Z2 (2^N-1) xv) (2^v)<4294967296:=by omega
 have b4':Z2 (Z2 (2^N-1) xv) (2^v) ||| 2^u<4294967296:=by omega
 have pv:2^v<4294967296:=by have:=R27 hv;omega
 have pu:2^u<4294967296:=by have:=R27 hu;omega
 have pw:2^w<4294967296:=by have:=R27 (show w<N by omega);omega
 simp (disch:=first | omega | assumption | exact G0 (by assumption) | exact U10 (by assumption) | exact X0 (by omega) | fail  ) only[W0,g4,gv',M18 h32]
 have hal:D86 aL N v u w=(Z2 (Z2 (2^N-1) xv) (2^v) ||| 2^u) ||| 2^w:=by unfold D86;rw[xvD]
 rw[<- hal]
 refine R0 (B83 hN hL hu (by omega) (by omega) _ _) ?_
 rintro _ H5 n5 ⟨rfl,h5⟩
 have e5:=(e4.more (show n4<=n4+16 by omega)).trans h5
 have hd7:=D81 hN hL (u:=u) (w:=w) (within:=D86 aL N v u w)
 generalize B75 aL N u w (D86 aL N v u w)=d at *
 have c0:decide ((d:Int) > 0)=decide (0<d):=by congr 1;apply propext;omega
 have c1:decide ((l:Int)=0)=decide (l=0):=by congr 1;apply propext;omega
 have c2:decide ((d:Int)+2<(l:Int))=decide (d+2<l):=by congr 1;apply propext;omega
 refine N5 (fun L H' nx'=>L=[.bool (decide (0<d/\(l=0\/d+2<l)))]/\H5=H'/\n5=nx') ?_ ?_
 .intro j hj
  by_cases q0:0<d
  .by_cases q1:l=0
   .simp (disch:=first | omega | assumption | exact G0 (by assumption) | exact U10 (by assumption) | exact X0 (by omega) | fail   ) only[W0,c0,decide_eq_true q0,decide_eq_true q1]
    exact hj _ _ _ ⟨by simp[q0,q1],rfl,rfl⟩
   .simp (disch:=first | omega | assumption | exact G0 (by assumption) | exact U10 (by assumption) | exact X0 (by omega) | fail  ) only[W0,c0,c2,decide_eq_true q0,decide_eq_false q1]
    exact hj _ _ _ ⟨by simp[q0,q1],rfl,rfl⟩
  .simp (disch:=first | omega | assumption | exact G0 (by assumption) | exact U10 (by assumption) | exact X0 (by omega) | fail   ) only[W0,c0,decide_eq_false q0]
   exact hj _ _ _ ⟨by simp[q0],rfl,rfl⟩
 rintro L _ _ ⟨rfl,rfl,rfl⟩
 by_cases q:0<d/\(l=0\/d+2<l)
 .have e:cyD d l=d+2:=if_pos q
  simp (disch:=first | omega | assumption | exact G0 (by assumption) | exact U10 (by assumption) | exact X0 (by omega) | fail  ) only[W0,decide_eq_true q]
  exact hih4 (m4-1) _ _ _ (by omega) ⟨w+1,by omega,by rw[next,e];simp,e5⟩
 .have e:cyD d l=l:=if_neg q
  simp (disch:=first | omega | assumption | exact G0 (by assumption) | exact U10 (by assumption) | exact X0 (by omega) | fail   ) only[W0,decide_eq_false q]
  exact hih4 (m4-1) _ _ _ (by omega) ⟨w+1,by omega,by rw[next,e];simp,e5⟩
end
end
end Go.Proofs.YtoiioigihocgbaaGreatDoor
namespace Go.Clo
theorem Q64{H:Y0}{nx b s bytes:Nat}{c:List Value}{x y:Value}{k:EP}(hg:J0 H b=some (.cells c s))(hs:s=0\/s=1)(hc:0<c.length)(hx:Src H 1 x 1 [y])(ho:Z0 [y]=true)(hb:bytes<=16)(U:c.length<=1000000)(hk:∀ H',J0 H' nx=some (.cells (c++[y]) 1)->(∀ i,i≠nx->i≠b->J0 H' i=J0 H i)->k (.slice (some ⟨nx,0,none⟩) (c.length+1) (c.length+1)) H' (nx+1)):B5 (.slice (some ⟨b,0,none⟩) c.length c.length) x 1 bytes H nx k:=by
 have Q:(2*(c.length+1)+1000)*bytes<=281474976710656:=by
  have:=eL (show 2*(c.length+1)+1000<=2*1000001+1000 by omega) hb;omega
 have hl:(c++[y]).length=(c.length+1)*1:=O2;unfold B5 Z22;rw[hx.len];dsimp only;rw[G1,V6 Q,V6 (show c.length+1<=1000000000 by omega)];simp only[Bool.and_self,cond_true];rw[hx.first,ho,E27 (show c.length<c.length+1 by omega)];simp only[cond_true,cond_false];have J:∀ k:List Value->Prop,Z5 H 1 c.length (.slice (some ⟨b,0,none⟩) c.length c.length) False k=k c:=(J9 hg O0 O0).first;rw[J,V14,hl,D13];simp only[cond_true,D22];rw[Y4,hg];simp only[aN];rcases hs with rfl | rfl
 .have E:N8 (.cells c 0) 0 c.length 1=some false:=rfl
  rw[E];dsimp only;simp only[K11];rw[G1,G1,G4];exact hk _ (Z11 _ _ _) fun i hi _=>Z1 _ hi
 .have E:N8 (.cells c 1) 0 c.length 1=some true:=by
   simp only[N8];rw[K43 (show(1:Nat)≠0 by omega),D13];simp only[cond_false,cond_true];rw[cF,eQ,D13]
  rw[E];dsimp only;rw[G4];simp only[K11];rw[G1,G1,G4];exact hk _ (Z11 _ _ _) fun i hi O=>by rw[Z1 _ hi,Z1 _ O]
theorem K103{x:Nat}(h:x<4294967296)(k:VP):wUn .xor (O9 (x:Int)) k=k (O9 ((4294967295-x:Nat):Int)):=by
 have e:unV .xor (O9 (x:Int))=some (O9 (eW.wrap (((cT 32 4294967295 ^^^ cT 32 (x:Int)).toNat:Nat):Int))):=rfl;have e1:cT 32 4294967295=BitVec.allOnes 32:=by decide
 have e3:(cT 32 4294967295 ^^^ cT 32 (x:Int)).toNat=4294967295-x:=by
  rw[e1,<- BitVec.not_def,BitVec.toNat_not,W10,eP];omega
 unfold wUn;rw[e,e3,D15 O0,J8];rfl
theorem J55{p:Nat->Bool}{N v:Nat}(h:∀ u,u<v->p u=false)(hv:v<N)(hp:p v=true):(aY N).find? p=some v:=by
 rw[List.find?_eq_some_iff_getElem];refine⟨hp,v,by simpa using hv,O2,fun j hj => ?_⟩;simp[h j hj]
theorem D58{p:Nat->Bool}{N:Nat}(h:∀ u,u<N->p u=false):(aY N).find? p=none:=by
 rw[List.find?_eq_none];intro x hx;rw[h x (by simpa using hx)];simp
structure KB (b:Nat) (H:Y0) (nx:Nat) (H':Y0) (nx':Nat):Prop where
 le:nx<=nx'
 get:∀ i,i<nx->i≠b->J0 H' i=J0 H i
theorem KB.of{b:Nat}{H:Y0}{nx:Nat}{H':Y0}{nx':Nat}(h:D0 H nx H' nx'):KB b H nx H' nx':=⟨h.le,fun i hi _=>h.get i hi⟩
def LsR(l:List Nat)(v:Value)(H:Y0)(nx:Nat):Prop:=∃ A,v = .slice A l.length l.length/\(A=none<->l=[])/\Sl H nx A (U4 (l.map fun(x:Nat)=>(x:Int)))
theorem C66(H:Y0)(nx:Nat):LsR [] O6 H nx:=⟨none,rfl,O2,Sl.nil _ _ _⟩
end Go.Clo
namespace Go.Proofs.YtoiioigihocgbaaGreatDoor
open Go.Clo
structure ExE (aL:List Nat) (N L q8 q4 q2 q12:Nat) (H:Y0) (m:Nat):Prop where
 g8:J0 H q8=some (.cells [.int .i64 (L:Int)] 0)
 g4:J0 H q4=some (.cells (K12 aL) 0)
 g2:J0 H q2=some (.cells [.int .i64 (N:Int)] 0)
 g12:J0 H q12=some (.cells [.func (.func 64) ⟨[]⟩ ⟨[.pointer (some ⟨q8,0,none⟩),.pointer (some ⟨q4,0,none⟩),.pointer (some ⟨q2,0,none⟩),.pointer (some ⟨q12,0,none⟩)]⟩] 0)
 l8:q8<m
 l4:q4<m
 l2:q2<m
 l12:q12<m
theorem ExE.step{aL:List Nat}{N L q8 q4 q2 q12:Nat}{H:Y0}{m:Nat}(h:ExE aL N L q8 q4 q2 q12 H m){H':Y0}{m':Nat}(hm:m<=m')(e:∀ i,i=q8\/i=q4\/i=q2\/i=q12->J0 H' i=J0 H i):ExE aL N L q8 q4 q2 q12 H' m':=by
 have a1:=h.l8;have a2:=h.l4;have a3:=h.l2;have a4:=h.l12;exact⟨(e _ (.inl rfl)).trans h.g8,(e _ (.inr (.inl rfl))).trans h.g4,(e _ (.inr (.inr (.inl rfl)))).trans h.g2,(e _ (.inr (.inr (.inr rfl)))).trans h.g12,O0,O0,O0,O0⟩
theorem ExE.ext{aL:List Nat}{N L q8 q4 q2 q12:Nat}{H:Y0}{m:Nat}(h:ExE aL N L q8 q4 q2 q12 H m){H':Y0}{m':Nat}(e:D0 H m H' m'):ExE aL N L q8 q4 q2 q12 H' m':=by
 have a1:=h.l8;have a2:=h.l4;have a3:=h.l2;have a4:=h.l12;exact h.step e.le fun i hi=>e.gt i
section
variable {aL:List Nat} {N:Nat} (hN:N<=6) (hL:NbL aL N)
include hN hL
theorem Z99{L q8 q4 q2 q12 start:Nat}(hs:start<N)(bv:L<=9):∀(k:Nat) (last:Nat) (p:List Nat) (blk b s:Nat) (H:Y0) (m:Nat),ExE aL N L q8 q4 q2 q12 H m->J0 H b=some (.cells (U4 (p.map fun(x:Nat)=>(x:Int))) s)->(s=0\/s=1)->b<m ->
  b≠q8/\b≠q4/\b≠q2/\b≠q12->p.length+k=L->p[0]? = some start->p[p.length-1]? = some last->last<N->blk<2^N ->
  Q2 gQ 64 [.slice (some ⟨b,0,none⟩) p.length p.length,.int .u32 (blk:Int),.pointer (some ⟨q8,0,none⟩),.pointer (some ⟨q4,0,none⟩),.pointer (some ⟨q2,0,none⟩),.pointer (some ⟨q12,0,none⟩)] H m
   fun r H' m'=>LsR (exF aL N start k last p blk) r H' m'/\KB b H m H' m':=by
 have bd:2^N<=64:=aK (n:=2) O0 hN;have bo:0<2^N:=aQ N;have a9:=M44 hN hL;intro k
 induction k with
 | zero=>
  intro last p blk b s H m hE hg hs' a0 ax b8 h0 ae aa a5;have Q:(U4 (p.map fun(x:Nat)=>(x:Int))).length=p.length:=by rw[X9,gM]
  have U:0<p.length:=(aJ.1 h0).1;have d1:decide ((p.length:Int)=(L:Int))=true:=by simp;omega
  refine spec64 ?_;unfold F64;simp(disch:=first | omega | assumption | exact G0 O1 | exact U10 O1 | exact X0 O0 | fail   )only[W0,Q0.val,hE.g8,d1];refine⟨⟨_,rfl,⟨fun h=>(by cases h),fun h => ?_⟩,fun i u hu=>⟨b,0,_,rfl,a0,by rw[Q5,hg];rfl,by rw[cF];exact hu⟩⟩,KB.of (D0.refl _ _)⟩;rw[show exF aL N start 0 last p blk=p from rfl] at h;rw[h] at U;simp at U
 | succ k ih=>
  intro last p blk b s H m hE hg hs' a0 ax b8 h0 ae aa a5;have Q:(U4 (p.map fun(x:Nat)=>(x:Int))).length=p.length:=by rw[X9,gM]
  have U:0<p.length:=(aJ.1 h0).1;have d1:decide ((p.length:Int)=(L:Int))=false:=by simp;omega
  have q0:(U4 (p.map fun(x:Nat)=>(x:Int)))[0]? = some (.int .i64 (start:Int)):=Z9 (by rw[cP,h0];rfl);have q1:(U4 (p.map fun(x:Nat)=>(x:Int)))[p.length-1]? = some (.int .i64 (last:Int)):=Z9 (by rw[cP,ae];rfl);have e1:((p.length:Int)-1).toNat=p.length-1:=O0;obtain⟨xl,gl,b5,a8⟩:=hL.at (u:=last) O0;have gl:=Q3 gl;have aw:2^(start+1)-1<4294967296:=by
   have:2^(start+1)<=2^32:=aK O0 O0;omega
  have au:blk<4294967296:=O0;have al:xl<4294967296:=O0;have o1:blk ||| xl<2^N:=Z26 a5 b5;have bc:blk ||| xl<4294967296:=O0;have o2:W87 aL blk last<2^N:=Z26 (by rw[a8];exact o1) (R27 aa);have o3:W87 aL blk last=(blk ||| xl) ||| 2^last:=by unfold W87;rw[a8]
  have pl:2^last<4294967296:=by have:=R27 aa;omega
  have bt:last<32:=O0;have ab:Q90 start<4294967296:=by unfold Q90;omega
  refine spec64 ?_;unfold F64;simp(config:={ maxSteps:=2000000 }) (disch:=first | omega | assumption | exact G0 O1 | exact U10 O1 | exact X0 O0 | fail  )only[W0,Q0.val,hE.g8,d1,hg,q0,q1,e1];refine R0 (C51 (n:=start+1) O0 _ _) ?_;rintro _ _ _ ⟨rfl,rfl,rfl⟩;simp(config:={ maxSteps:=2000000 }) (disch:=first | omega | assumption | exact G0 O1 | exact U10 O1 | exact X0 O0 | fail  )only[W0,K103 aw,hE.g4,gl,hE.g2];rw[show 4294967295-(2^(start+1)-1)=Q90 start from rfl,<- o3];generalize av:Q90 start=lg at *
  generalize ad:W87 aL blk last=af at *
  have bg:af<4294967296:=O0;refine B1 (m:=N) (fun q L' H' m'=>∃ v:Nat,q+v=N/\L'=[.int .i64 (v:Int)]/\(∀ u,u<v->Z91 aL N (k+1) blk start last u=false)/\D0 H m H' m') ?_ ⟨0,O0,rfl,fun u h=>O0,D0.self O0⟩;rintro q bk L' H2 m2 ⟨v,hq,rfl,a7,e2⟩ a6;have J:=hE.ext e2;have bu:=(e2.get b a0).trans hg
  by_cases hv:v<N
  case neg=>
   obtain rfl:v=N:=O0;have V:¬ (v:Int)<(v:Int):=O0;simp(disch:=first | omega | assumption | exact G0 O1 | exact U10 O1 | exact X0 O0 | fail   )only[W0,V];rw[exF,D58 a7];exact⟨C66 _ _,KB.of e2⟩
  have V:(v:Int)<(N:Int):=O0;have bx:v<32:=O0;have Z:xl &&& lg<4294967296:=D52 al;have an:Z2 (xl &&& lg) blk<4294967296:=U10 Z;have ak:Z91 aL N (k+1) blk start last v=((Z2 (xl &&& lg) blk).testBit v&&decide (B75 aL N v start ((Z2 lg af ||| 2^v) ||| 2^start)=k+1)):=by
   unfold Z91;rw[a8,av,ad]
  have next:Z91 aL N (k+1) blk start last v=false->∀ u,u<v+1->Z91 aL N (k+1) blk start last u=false:=fun h u hu=>by
   by_cases e:u=v
   .subst e;exact h
   .exact a7 u O0
  rw[ak] at next
  cases O:(Z2 (xl &&& lg) blk).testBit v with
  | false=>
   simp(disch:=try exact O4)only[W0,V,N13,J.g4,gl,O];exact a6 (q-1) _ _ _ O0 ⟨v+1,O0,O2,next (by rw[O];rfl),e2⟩
  | true=>
   have n1:Z2 lg af<4294967296:=U10 ab;have pv:2^v<4294967296:=by have:=R27 hv;omega
   have ps:2^start<4294967296:=by have:=R27 hs;omega
   have n2:Z2 lg af ||| 2^v<4294967296:=M54 n1 pv;have n3:(Z2 lg af ||| 2^v) ||| 2^start<4294967296:=M54 n2 ps;have bh:start<32:=O0;simp(config:={ maxSteps:=2000000 }) (disch:=try exact O4)only[W0,V,N13,J.g4,gl,O,J.g2,M18 a9];refine R0 (B83 hN hL hv hs n3 _ _) ?_;rintro _ H3 m3 ⟨rfl,h3⟩;have e3:=(e2.more (show m2<=m2+21 by omega)).trans h3;have E:=hE.ext e3;have aq:=(e3.get b a0).trans hg;have bw:=D81 hN hL (u:=v) (w:=start) (within:=(Z2 lg af ||| 2^v) ||| 2^start);generalize B75 aL N v start ((Z2 lg af ||| 2^v) ||| 2^start)=d at *
   have ag:(L:Int)-(p.length:Int)=((k+1:Nat):Int):=O0
   by_cases ac:d=k+1
   .subst ac
    simp(config:={ maxSteps:=2000000 }) (disch:=first | omega | assumption | exact G0 O1 | exact U10 O1 | exact X0 O0 | fail  )only[W0,E.g8,J.g8,E.g12,ag];have az:∀(x:Int) k,K6 1 1 [.int .i64 0] [(0,.int .i64 x)] k=k [.int .i64 x]:=fun x k=>rfl
    rw[az];have W:D0 H3 m3 (Go.Clo.hs H3 (m3+3) (some (.cells [.int .i64 (v:Int)] 0))) (m3+8):=(D0.refl _ _).new _ O0 O0;have g4:J0 (Go.Clo.hs H3 (m3+3) (some (.cells [.int .i64 (v:Int)] 0))) (m3+3)=some (.cells [.int .i64 (v:Int)] 0):=Z11 _ _ _;generalize Go.Clo.hs H3 (m3+3) (some (.cells [.int .i64 (v:Int)] 0))=H4 at *
    have ay:J0 H4 b=some (.cells (U4 (p.map fun(x:Nat)=>(x:Int))) s):=(W.get b (by have:=e3.le;omega)).trans aq;obtain⟨n9,aj⟩:∃ n9,n9=m3+8:=⟨_,rfl⟩
    rw[<- aj] at W;rw[<- aj];have ap:∀ kk:EP,(∀ H',J0 H' (n9)=some (.cells (U4 ((p++[v]).map fun(x:Nat)=>(x:Int))) 1)->(∀ i,i≠n9->i≠b->J0 H' i=J0 H4 i)->kk (.slice (some ⟨n9,0,none⟩) (p++[v]).length (p++[v]).length) H' (n9+1)) ->
      B5 (.slice (some ⟨b,0,none⟩) p.length p.length) (.slice (some ⟨m3+3,0,none⟩) 1 1) 1 8 H4 (n9) kk:=fun kk ao=>by
     have:=Q64 (nx:=n9) (k:=kk) (bytes:=8) ay hs' (by rw[Q];exact U) (J9 (cap:=1) g4 rfl O0) rfl O0 (by rw[Q];omega) (fun H' q1 q2=>by
      rw[Q];have:=ao H' (by rw[q1];simp[U4]) q2;simpa using this)
     rwa [Q] at this
    refine ap _ ?_;intro H5 g5 f5;have bf:=e3.le;have ah:ExE aL N L q8 q4 q2 q12 H5 (n9+1):=(E.ext W).step O0 fun i hi=>by
     have a1:=E.l8;have a2:=E.l4;have a3:=E.l2;have a4:=E.l12;exact f5 i O0 O0
    have b1:=E.l8;have b2:=E.l4;have b3:=E.l2;have b4:=E.l12;refine V22 (ih v (p++[v]) af (n9) 1 H5 (n9+1) ah g5 (.inr rfl) O0 ⟨O0,O0,O0,O0⟩ O5 (by rw[bQ U];exact h0) O2 hv O0) ?_;rintro r H6 m6 ⟨h6,k6⟩;simp(disch:=first | omega | assumption | exact G0 O1 | exact U10 O1 | exact X0 O0 | fail   )only[W0,ah.g12];rw[exF,J55 a7 hv (by rw[ak,O,decide_eq_true rfl];rfl),ad];refine⟨h6,⟨by have:=k6.le;omega,fun i hi ba => ?_⟩⟩;rw[k6.get i O0 O0,f5 i O0 ba,W.get i O0];exact e3.get i hi
   .have ai:decide ((d:Int)=((k+1:Nat):Int))=false:=by simp;omega
    simp(config:={ maxSteps:=2000000 }) (disch:=first | omega | assumption | exact G0 O1 | exact U10 O1 | exact X0 O0 | fail  )only[W0,E.g8,J.g8,ag,ai];exact a6 (q-1) _ _ _ O0 ⟨v+1,O0,O2,next (by rw[O,decide_eq_false ac];rfl),e3⟩
end
end Go.Proofs.YtoiioigihocgbaaGreatDoor
namespace Go.Clo
theorem N34(t:TypeId)(A:Option Addr)(n c:Nat)(k:VP):D9 (.eqn true (.slice t)) [.slice A n c,O6] k=k (.bool A.isSome):=by
 have e:VF.ev (.eqn true (.slice t)) [.slice A n c,O6]=some (.bool A.isSome):=by cases A<;>rfl
 unfold D9;rw[e,J8];rfl
def Cyg(l:Nat):Prop:=l<=9/\(l=0\/3<=l)
theorem C110{d l:Nat}(hd:d<=7)(h:Cyg l):Cyg (cyD d l):=by
 unfold cyD
 split
 .exact⟨O0,.inr O0⟩
 .exact h
theorem Y100{aL:List Nat}{N v u l:Nat}(hd:∀ u w within,B75 aL N u w within<=7)(h:Cyg l):∀ w,Cyg (cyW aL N v u l w)
 | 0=>h
 | w+1=>by
  unfold cyW
  split
  .exact C110 (hd _ _ _) (Y100 hd h w)
  .exact Y100 hd h w
theorem E106{aL:List Nat}{N v l:Nat}(hd:∀ u w within,B75 aL N u w within<=7)(h:Cyg l):∀ u,Cyg (cyU aL N v l u)
 | 0=>h
 | u+1=>Y100 hd (E106 hd h u) u
theorem U93{aL:List Nat}{N:Nat}(hd:∀ u w within,B75 aL N u w within<=7):∀ v,Cyg (cyV aL N v)
 | 0=>⟨by show 0<=9;omega,.inl rfl⟩
 | v+1=>E106 hd (U93 hd v) N
theorem Q93{aL:List Nat}{N L s j:Nat}(h:scW aL N L s j≠[]):∀ d,scW aL N L s (j+d)=scW aL N L s j
 | 0=>rfl
 | d+1=>by
  have ih:=Q93 h d;rw[<- eH,scW,if_neg (fun hh=>h (by rw[<- ih];exact hh.1)),ih]
theorem R95{aL:List Nat}{N L s:Nat}(h:scV aL N L s≠[]):∀ d,scV aL N L (s+d)=scV aL N L s
 | 0=>rfl
 | d+1=>by
  have ih:=R95 h d;rw[<- eH,scV,if_neg (fun hh=>h (by rw[<- ih];exact hh)),ih]
end Go.Clo
namespace Go.Proofs.YtoiioigihocgbaaGreatDoor
open Go.Clo
section
variable {aL:List Nat} {N:Nat} (hN:N<=6) (hL:NbL aL N)
include hN hL
theorem C85 (H:Y0) (nx:Nat):Q2 Tryz.prog 30 [.int .i64 (N:Int),.agg ⟨K12 aL⟩] H nx fun r H' nx'=>LsR (scF aL N) r H' nx'/\D0 H nx H' nx':=by
 have hp64:2^N<=64:=Nat.pow_le_pow_right (n:=2) (by omega) hN
 have hp1:0<2^N:=Nat.two_pow_pos N
 have h32:=M44 hN hL
 have hcy:=U93 (aL:=aL) (N:=N) (fun u w within=>D81 hN hL) N
 refine spec30 ?_
 unfold F30
 simp (disch:=first | omega | assumption | exact G0 (by assumption) | exact U10 (by assumption) | exact X0 (by omega) | fail  ) only[W0,Q0.val,W5 aL]
 have hE0:D0 H nx (hs (hs H nx (some (.cells [.int .i64 (N:Int)] 0))) (nx+1) (some (.cells (K12 aL) 0))) (nx+1+1):=((D0.refl H nx).new _ (Nat.le_refl _) (m:=nx+1) (by omega)).new _ (by omega) (by omega)
 have g2:J0 (hs (hs H nx (some (.cells [.int .i64 (N:Int)] 0))) (nx+1) (some (.cells (K12 aL) 0))) nx=some (.cells [.int .i64 (N:Int)] 0):=by rw[Z1 _ (by omega),Z11]
 have g4:J0 (hs (hs H nx (some (.cells [.int .i64 (N:Int)] 0))) (nx+1) (some (.cells (K12 aL) 0))) (nx+1)=some (.cells (K12 aL) 0):=Z11 _ _ _
 generalize hs (hs H nx (some (.cells [.int .i64 (N:Int)] 0))) (nx+1) (some (.cells (K12 aL) 0))=H1 at *
 simp (disch:=first | omega | assumption | exact G0 (by assumption) | exact U10 (by assumption) | exact X0 (by omega) | fail   ) only[M18 h32]
 refine R0 (D89 hN hL _ _) ?_
 rintro _ H3 n3 ⟨rfl,h3⟩
 have g23:=(h3.get nx (by omega)).trans g2
 have g43:=(h3.get (nx+1) (by omega)).trans g4
 have hle3:=h3.le
 have hput:∀ a b:Value,B12 [a] 0 [b]=[b]:=fun _ _=>rfl
 simp (disch:=first | omega | assumption | exact G0 (by assumption) | exact U10 (by assumption) | exact X0 (by omega) | fail  ) only[W0,hput]
 have hE5:D0 H3 n3 (hs (hs H3 n3 (some (.cells [.int .i64 0] 0))) n3 (some (.cells [.int .i64 (cyV aL N N:Int)] 0))) (n3+1):=((D0.refl H3 n3).new _ (Nat.le_refl _) (m:=n3+1) (by omega)).hs (Nat.le_refl _)
 have g8:J0 (hs (hs H3 n3 (some (.cells [.int .i64 0] 0))) n3 (some (.cells [.int .i64 (cyV aL N N:Int)] 0))) n3=some (.cells [.int .i64 (cyV aL N N:Int)] 0):=Z11 _ _ _
 generalize hs (hs H3 n3 (some (.cells [.int .i64 0] 0))) n3 (some (.cells [.int .i64 (cyV aL N N:Int)] 0))=H5 at *
 have hE05:=(hE0.trans h3).trans hE5
 unfold scF
 generalize cyV aL N N=L at *
 by_cases hL0:L=0
 .simp (disch:=first | omega | assumption | exact G0 (by assumption) | exact U10 (by assumption) | exact X0 (by omega) | fail   ) only[W0,decide_eq_true hL0]
  rw[if_pos hL0]
  exact⟨C66 _ _,hE05⟩
 rw[if_neg hL0]
 have g25:=(hE5.get nx (by omega)).trans g23
 have g45:=(hE5.get (nx+1) (by omega)).trans g43
 simp (disch:=first | omega | assumption | exact G0 (by assumption) | exact U10 (by assumption) | exact X0 (by omega) | fail   ) only[W0,decide_eq_false hL0,g23]
 have hE7:D0 H5 (n3+1) (hs (hs H5 (n3+1) (some (.cells [.nilFunc] 0))) (n3+1) (some (.cells [.func (.func 64) ⟨[]⟩ ⟨[.pointer (some ⟨n3,0,none⟩),.pointer (some ⟨nx+1,0,none⟩),.pointer (some ⟨nx,0,none⟩),.pointer (some ⟨n3+1,0,none⟩)]⟩] 0))) (n3+1+1):=((D0.refl H5 (n3+1)).new _ (Nat.le_refl _) (m:=n3+1+1) (by omega)).hs (Nat.le_refl _)
 have g12:J0 (hs (hs H5 (n3+1) (some (.cells [.nilFunc] 0))) (n3+1) (some (.cells [.func (.func 64) ⟨[]⟩ ⟨[.pointer (some ⟨n3,0,none⟩),.pointer (some ⟨nx+1,0,none⟩),.pointer (some ⟨nx,0,none⟩),.pointer (some ⟨n3+1,0,none⟩)]⟩] 0))) (n3+1)=some (.cells [.func (.func 64) ⟨[]⟩ ⟨[.pointer (some ⟨n3,0,none⟩),.pointer (some ⟨nx+1,0,none⟩),.pointer (some ⟨nx,0,none⟩),.pointer (some ⟨n3+1,0,none⟩)]⟩] 0):=Z11 _ _ _
 generalize hs (hs H5 (n3+1) (some (.cells [.nilFunc] 0))) (n3+1) (some (.cells [.func (.func 64) ⟨[]⟩ ⟨[.pointer (some ⟨n3,0,none⟩),.pointer (some ⟨nx+1,0,none⟩),.pointer (some ⟨nx,0,none⟩),.pointer (some ⟨n3+1,0,none⟩)]⟩] 0))=H7 at *
 have g27:=(hE7.get nx (by omega)).trans g25
 have g47:=(hE7.get (nx+1) (by omega)).trans g45
 have g87:=(hE7.get n3 (by omega)).trans g8
 have hX:ExE aL N L n3 (nx+1) nx (n3+1) H7 (n3+1+1):=⟨g87,g47,g27,g12,by omega,by omega,by omega,by omega⟩
 have hE07:=hE05.trans hE7
 clear g12 g27 g47 g87 g25 g45 g8
 refine B1 (m:=N) (fun m L' H' nx'=>∃ s:Nat,m+s=N/\L'=[.int .i64 (s:Int)]/\scV aL N L s=[]/\D0 H7 (n3+1+1) H' nx') ?_ ⟨0,by omega,rfl,rfl,D0.refl _ _⟩
 rintro m ih L1 H8 n8 ⟨s,hm,rfl,hsV,e8⟩ hih
 have hX8:=hX.ext e8
 by_cases hs:s<N
 case neg=>
  obtain rfl:s=N:=by omega
  have hs':¬ (s:Int)<(s:Int):=by omega
  simp (disch:=first | omega | assumption | exact G0 (by assumption) | exact U10 (by assumption) | exact X0 (by omega) | fail   ) only[W0,hs']
  rw[hsV]
  exact⟨C66 _ _,hE07.trans e8⟩
 have hs':(s:Int)<(N:Int):=by omega
 simp (disch:=first | omega | assumption | exact G0 (by assumption) | exact U10 (by assumption) | exact X0 (by omega) | fail  ) only[W0,hs',hX8.g2]
 refine B1 (m:=N) (fun m L' H' nx'=>∃ j:Nat,m+j=N/\L'=[.int .i64 (j:Int)]/\scW aL N L s j=[]/\D0 H7 (n3+1+1) H' nx') ?_ ⟨0,by omega,rfl,rfl,e8⟩
 rintro m2 ih2 L1 H9 n9 ⟨j,hm2,rfl,hsW,e9⟩ hih2
 have hX9:=hX.ext e9
 by_cases hj:j<N
 case neg=>
  obtain rfl:j=N:=by omega
  have hj':¬ (j:Int)<(j:Int):=by omega
  simp (disch:=first | omega | assumption | exact G0 (by assumption) | exact U10 (by assumption) | exact X0 (by omega) | fail   ) only[W0,hj']
  exact hih (m-1) _ _ _ (by omega) ⟨s+1,by omega,by simp,by rw[scV,if_pos hsV];exact hsW,e9⟩
 have hj':(j:Int)<(N:Int):=by omega
 obtain⟨xs,gs,xs2,xsD⟩:=hL.at (u:=s) (by omega)
 have gs:=Q3 gs
 have xs32:xs<4294967296:=by omega
 have j32:j<32:=by omega
 have hnb:nbB aL s j=xs.testBit j:=by unfold nbB;rw[xsD]
 have next:scW aL N L s (j+1)=if s<j/\xs.testBit j=true then exF aL N s (L-2) j [s,j] 0 else []:=by
  rw[scW,hnb,hsW]
  by_cases h:s<j/\xs.testBit j=true
  .rw[if_pos ⟨rfl,h⟩,if_pos h]
  .rw[if_neg (fun hh=>h hh.2),if_neg h]
 have c1:decide ((j:Int) > (s:Int))=decide (s<j):=by congr 1;apply propext;omega
 simp (disch:=first | omega | assumption | exact G0 (by assumption) | exact U10 (by assumption) | exact X0 (by omega) | fail  ) only[W0,hj']
 rw[N13]
 refine N5 (fun L' H' nx'=>L'=[.bool (decide (s<j)&&xs.testBit j)]/\H9=H'/\n9=nx') ?_ ?_
 .intro jj hjj
  by_cases q:s<j
  .simp (disch:=first|omega|assumption|exact G0 (by assumption)|exact U10 (by assumption)|exact X0 (by omega)|fail) only[W0,c1,decide_eq_true q,hX9.g4,gs]
   exact hjj _ _ _ ⟨by simp[q],rfl,rfl⟩
  .simp (disch:=first | omega | assumption | exact G0 (by assumption) | exact U10 (by assumption) | exact X0 (by omega) | fail   ) only[W0,c1,decide_eq_false q]
   exact hjj _ _ _ ⟨by simp[q],rfl,rfl⟩
 rintro L1 _ _ ⟨rfl,rfl,rfl⟩
 by_cases hb:s<j/\xs.testBit j=true
 case neg=>
  have hb':(decide (s<j)&&xs.testBit j)=false:=by
   rw[Bool.eq_false_iff]
   intro h
   rw[Bool.and_eq_true,decide_eq_true_iff] at h
   exact hb h
  rw[hb']
  simp (disch:=first | omega | assumption | exact G0 (by assumption) | exact U10 (by assumption) | exact X0 (by omega) | fail   ) only[W0]
  exact hih2 (m2-1) _ _ _ (by omega) ⟨j+1,by omega,by simp,by rw[next,if_neg hb],e9⟩
 have hb':(decide (s<j)&&xs.testBit j)=true:=by rw[Bool.and_eq_true,decide_eq_true_iff];exact hb
 rw[hb']
 rw[if_pos hb] at next
 have hbs:∀ (x y:Int) k,K6 2 1 [.int .i64 0] [(0,.int .i64 x),(1,.int .i64 y)] k=k [.int .i64 x,.int .i64 y]:=fun x y k=>rfl
 simp (disch:=first | omega | assumption | exact G0 (by assumption) | exact U10 (by assumption) | exact X0 (by omega) | fail   ) only[W0,hX9.g12,hbs]
 have hE10:D0 H9 n9 (Go.Clo.hs H9 n9 (some (.cells [.int .i64 (s:Int),.int .i64 (j:Int)] 0))) (n9+1):=(D0.refl _ _).new _ (Nat.le_refl _) (by omega)
 have g10:J0 (Go.Clo.hs H9 n9 (some (.cells [.int .i64 (s:Int),.int .i64 (j:Int)] 0))) n9=some (.cells [.int .i64 (s:Int),.int .i64 (j:Int)] 0):=Z11 _ _ _
 generalize Go.Clo.hs H9 n9 (some (.cells [.int .i64 (s:Int),.int .i64 (j:Int)] 0))=H10 at *
 have hle9:=e9.le
 refine V22 (Z99 hN hL hs hcy.1 (L-2) j [s,j] 0 n9 0 H10 (n9+1) (hX9.ext hE10) g10 (.inl rfl) (by omega) ⟨by omega,by omega,by omega,by omega⟩ (by have:=hcy.2;simp;omega) rfl rfl hj hp1) ?_
 rintro _ H11 n11 ⟨⟨A,rfl,hAn,hAS⟩,k11⟩
 rw[<- next] at hAn hAS ⊢
 have e11:D0 H7 (n3+1+1) H11 n11:=⟨by have:=k11.le;omega,fun i hi=>by rw[k11.get i (by omega) (by omega),hE10.get i (by omega)];exact e9.get i hi⟩
 by_cases hA:scW aL N L s (j+1)=[]
 .have hAn':=hAn.2 hA
  subst hAn'
  rw[hA]
  simp (disch:=first | omega | assumption | exact G0 (by assumption) | exact U10 (by assumption) | exact X0 (by omega) | fail   ) only[W0,N34,Option.isSome_none]
  exact hih2 (m2-1) _ _ _ (by omega) ⟨j+1,by omega,by simp,hA,e11⟩
 .have hAs:A.isSome=true:=by
   cases A with
   | none=>exact absurd (hAn.1 rfl) hA
   | some a=>rfl
  have k1:=Q93 hA (N-(j+1))
  rw[show j+1+(N-(j+1))=N by omega] at k1
  have k0:scV aL N L (s+1)=scW aL N L s (j+1):=by rw[scV,if_pos hsV,k1]
  have k2:=R95 (by rw[k0];exact hA:scV aL N L (s+1)≠[]) (N-(s+1))
  rw[show s+1+(N-(s+1))=N by omega] at k2
  simp (disch:=first | omega | assumption | exact G0 (by assumption) | exact U10 (by assumption) | exact X0 (by omega) | fail   ) only[W0,N34,hAs]
  rw[k2,k0]
  exact⟨⟨A,rfl,hAn,hAS⟩,hE07.trans e11⟩
end
section
variable {cl e i rest:Nat} {es:List Nat}
theorem Z95{x:Nat}(hx:x<64)(H:Y0)(nx:Nat):Q2 gQ 91 [O9 (x:Int)] H nx fun r H' nx'=>r=O8 (E9 x:Int)/\D0 H nx H' nx':=by
 refine spec91 ?_;unfold F91;refine R0 (R44 hx H nx) ?_;rintro _ H1 n1 ⟨rfl,h1⟩;simp only[W0];exact h1
def U82(es:List Nat)(cl rest i:Nat):Nat × Bool:=(es.take i).foldl (X78 cl rest) (0,false)
theorem C102(h:es[i]? = some e):U82 es cl rest (i+1)=X78 cl rest (U82 es cl rest i) e:=by
 unfold U82;rw[C7 h,List.foldl_append];rfl
def R80(es:List Nat)(cl rest i:Nat):Nat × Nat:=(es.take i).foldl (X74 cl rest) (0,0)
theorem C100(h:es[i]? = some e):R80 es cl rest (i+1)=X74 cl rest (R80 es cl rest i) e:=by
 unfold R80;rw[C7 h,List.foldl_append];rfl
section
variable {es aL:List Nat} {N:Nat} (hN:N<=6) (hsm:∀ e ∈ es,e<2^N) (hle:es.length<=8)
include hN hsm hle
theorem V86{cl rest:Nat}(a1:cl<2^N)(hr:rest<2^N)(A:Option Addr)(cap:Nat)(H:Y0)(nx:Nat)(hS:Sl H nx A (K12 es)):
  Q2 gQ 67 [gv (N:Int) A es.length cap,O9 (cl:Int),O9 (rest:Int)] H nx fun r H' nx'=>r = .tuple ⟨[O9 ((C75 es cl rest).1:Int),.bool (C75 es cl rest).2]⟩/\D0 H nx H' nx':=by
 have a2:2^N<=64:=aK (n:=2) O0 hN;have Z:0<2^N:=aQ N;refine spec67 ?_;unfold F67;have V:D0 H nx (hs H nx (O7 [O8 (N:Int),.slice A es.length cap])) (nx+1):=(D0.refl H nx).nw _;simp only[W0,Z0,Q0.val];generalize hs H nx (O7 [O8 (N:Int),.slice A es.length cap])=H1 at *
 refine B1 (m:=es.length) (fun m L H' nx'=>∃ i:Nat,m+i=es.length/\L=[O9 ((U82 es cl rest i).1:Int),.bool (U82 es cl rest i).2,O8 (i:Int)]/\D0 H1 (nx+1) H' nx') ?_ ⟨0,O0,rfl,D0.refl _ _⟩;rintro m ih L H2 n2 ⟨i,hm,rfl,e2⟩ a0
 by_cases hi:i<es.length
 case neg=>
  obtain rfl:i=es.length:=O0;have E:¬ (es.length:Int)<(es.length:Int):=O0;simp only[W0,E];have e:U82 es cl rest es.length=C75 es cl rest:=by unfold U82 C75;rw[List.take_length]
  rw[e];exact⟨rfl,V.trans e2⟩
 have E:(i:Int)<(es.length:Int):=O0;obtain⟨e,he⟩:∃ e,es[i]? = some e:=⟨_,aE hi⟩
 have a8:=hsm e (aH he);obtain⟨B,o,row,rfl,a4,U,Q⟩:=(hS.ext (V.trans e2)).open (i:=i) (by rw[E1];omega);have q0:=Q _ _ (Q3 he);have hb:=X91 (cl:=cl) hr (es.take i) (0,false) Z;have next:=C102 (cl:=cl) (rest:=rest) he;change (U82 es cl rest i).1<2^N at hb;generalize U82 es cl rest i=s at *
 obtain⟨b,cov⟩:=s;dsimp only at hb ⊢;have a7:Z2 rest e<2^N:=Z6 hr;have a5:Z2 cl e<2^N:=Z6 a1;have a6:e<4294967296:=O0;have a3:cl<4294967296:=O0;have W:rest<4294967296:=O0;have z1:decide ((Z2 cl e:Int)=0)=decide (Z2 cl e=0):=by congr 1;apply propext;omega
 simp(disch:=omega)only[W0,E,X3 U,q0];refine N5 (fun L' H' nx'=>L'=[O9 ((X78 cl rest (b,cov) e).1:Int),.bool (X78 cl rest (b,cov) e).2]/\D0 H1 (nx+1) H' nx') ?_ ?_
 case refine_2=>
  rintro L H3 n3 ⟨rfl,e3⟩;exact a0 (m-1) _ _ _ O0 ⟨i+1,O0,by rw[next];simp,e3⟩
 intro j hj;refine N5 (fun L' H' nx'=>L'=[.bool (decide (Z2 cl e=0)&&(!cov || decide (E9 (Z2 rest e)<E9 b)))]/\D0 H1 (nx+1) H' nx') ?_ ?_
 .intro jj J
  by_cases k0:Z2 cl e=0
  .cases cov with
   | false=>
    simp only[W0,decide_eq_true k0];exact J _ _ _ ⟨by simp[k0],e2⟩
   | true=>
    simp only[W0,decide_eq_true k0];refine R0 (Z95 O0 _ _) ?_;rintro _ H3 n3 ⟨rfl,h3⟩;refine R0 (Z95 O0 _ _) ?_;rintro _ H4 n4 ⟨rfl,h4⟩;have c1:decide ((E9 (Z2 rest e):Int)<(E9 b:Int))=decide (E9 (Z2 rest e)<E9 b):=by congr 1;apply propext;omega
    simp only[W0,c1];exact J _ _ _ ⟨by simp[k0],(e2.trans h3).trans h4⟩
  .simp only[W0,decide_eq_false k0]
   exact J _ _ _ ⟨by simp[k0],e2⟩
 rintro L H3 n3 ⟨rfl,e3⟩
 by_cases hc:Z2 cl e=0/\(cov=false\/E9 (Z2 rest e)<E9 b)
 .have O:(decide (Z2 cl e=0)&&(!cov || decide (E9 (Z2 rest e)<E9 b)))=true:=by
   rw[aG,cO,decide_eq_true_iff,decide_eq_true_iff];exact⟨hc.1,hc.2.imp (fun h=>by rw[h];rfl) id⟩
  have hs:X78 cl rest (b,cov) e=(Z2 rest e,true):=if_pos hc;rw[hs] at hj;rw[O];simp only[W0];exact hj _ _ _ ⟨rfl,e3⟩
 .have O:(decide (Z2 cl e=0)&&(!cov || decide (E9 (Z2 rest e)<E9 b)))=false:=by
   rw[bN];intro h;rw[aG,cO,decide_eq_true_iff,decide_eq_true_iff] at h;exact hc ⟨h.1,h.2.imp (fun h=>by simpa using h) id⟩
  have hs:X78 cl rest (b,cov) e=(b,cov):=if_neg hc;rw[hs] at hj;rw[O];simp only[W0];exact hj _ _ _ ⟨rfl,e3⟩
theorem M84{cl rest:Nat}(a0:cl<2^N)(hr:rest<2^N)(A:Option Addr)(cap:Nat)(H:Y0)(nx:Nat)(hS:Sl H nx A (K12 es)):
  Q2 gQ 68 [gv (N:Int) A es.length cap,O9 (cl:Int),O9 (rest:Int)] H nx fun r H' nx'=>r=O8 ((C82 es cl rest).1:Int)/\D0 H nx H' nx':=by
 have a1:2^N<=64:=aK (n:=2) O0 hN;have Z:0<2^N:=aQ N;refine spec68 ?_;unfold F68;have U:D0 H nx (hs H nx (O7 [O8 (N:Int),.slice A es.length cap])) (nx+1):=(D0.refl H nx).nw _;simp only[W0,Z0,Q0.val];generalize hs H nx (O7 [O8 (N:Int),.slice A es.length cap])=H1 at *
 refine B1 (m:=es.length) (fun m L H' nx'=>∃ i:Nat,m+i=es.length/\L=[O8 ((R80 es cl rest i).1:Int),O9 ((R80 es cl rest i).2:Int),O8 (i:Int)]/\H1=H'/\nx+1=nx') ?_ ⟨0,O0,rfl,rfl,rfl⟩;rintro m ih L _ _ ⟨i,hm,rfl,rfl,rfl⟩ O
 by_cases hi:i<es.length
 case neg=>
  obtain rfl:i=es.length:=O0;have E:¬ (es.length:Int)<(es.length:Int):=O0;simp only[W0,E];have e:R80 es cl rest es.length=C82 es cl rest:=by unfold R80 C82;rw[List.take_length]
  rw[e];exact⟨rfl,U⟩
 have E:(i:Int)<(es.length:Int):=O0;obtain⟨e,he⟩:∃ e,es[i]? = some e:=⟨_,aE hi⟩
 have a9:=hsm e (aH he);obtain⟨B,o,row,rfl,a5,V,Q⟩:=(hS.ext U).open (i:=i) (by rw[E1];omega);have q0:=Q _ _ (Q3 he);have hb:=E98 (cl:=cl) hr (es.take i) (0,0) Z;have J:=V98 (cl:=cl) (rest:=rest) (es.take i) (0,0);have next:=C100 (cl:=cl) (rest:=rest) he;rw[cK] at J;change (R80 es cl rest i).2<2^N at hb;change (R80 es cl rest i).1<=0+_ at J;generalize R80 es cl rest i=s at *
 obtain⟨c,us⟩:=s;dsimp only at hb J ⊢;have a8:Z2 rest e<2^N:=Z6 hr;have a6:Z2 cl e<2^N:=Z6 a0;have a7:e<4294967296:=O0;have a3:cl<4294967296:=O0;have W:rest<4294967296:=O0;have a2:Z2 rest e<4294967296:=O0;have a4:us<4294967296:=O0;have z1:decide ((Z2 cl e:Int)=0)=decide (Z2 cl e=0):=by congr 1;apply propext;omega
 have z2:decide (((Z2 rest e &&& us:Nat):Int)=0)=decide (Z2 rest e &&& us=0):=by congr 1;apply propext;omega
 simp(disch:=omega)only[W0,E,X3 V,q0];rw[N13]
 by_cases k0:Z2 cl e=0
 .by_cases k1:Z2 rest e &&& us=0
  .have hs:X74 cl rest (c,us) e=(c+1,us ||| Z2 rest e):=if_pos ⟨k0,k1⟩
   simp only[W0,N13,decide_eq_true k0,decide_eq_true k1];exact O (m-1) _ _ _ O0 ⟨i+1,O0,by rw[next,hs];simp,rfl,rfl⟩
  .have hs:X74 cl rest (c,us) e=(c,us):=if_neg fun h=>k1 h.2
   simp only[W0,N13,decide_eq_true k0,decide_eq_false k1];exact O (m-1) _ _ _ O0 ⟨i+1,O0,by rw[next,hs];simp,rfl,rfl⟩
 .have hs:X74 cl rest (c,us) e=(c,us):=if_neg fun h=>k0 h.1
  simp only[W0,N13,decide_eq_false k0];exact O (m-1) _ _ _ O0 ⟨i+1,O0,by rw[next,hs];simp,rfl,rfl⟩
end
structure PoE (es aL:List Nat) (N:Nat) (A:Option Addr) (cap q2 q17 q4:Nat) (H:Y0) (m:Nat):Prop where
 g2:J0 H q2=some (.cells [.int .i64 (N:Int),.slice A es.length cap] 0)
 g4:J0 H q4=some (.cells (K12 aL) 0)
 g17:J0 H q17=some (.cells [.func (.func 66) ⟨[]⟩ ⟨[.pointer (some ⟨q2,0,none⟩),.pointer (some ⟨q17,0,none⟩),.pointer (some ⟨q4,0,none⟩)]⟩] 0)
 eS:Sl H m A (K12 es)
 l2:q2<m
 l4:q4<m
 l17:q17<m
theorem PoE.ext{es aL:List Nat}{N:Nat}{A:Option Addr}{cap q2 q17 q4:Nat}{H:Y0}{m:Nat}(h:PoE es aL N A cap q2 q17 q4 H m){H':Y0}{m':Nat}(e:D0 H m H' m'):PoE es aL N A cap q2 q17 q4 H' m':=by
 have a1:=h.l2;have a2:=h.l4;have a3:=h.l17;have a4:=e.le;exact⟨(e.get _ a1).trans h.g2,(e.get _ a2).trans h.g4,(e.get _ a3).trans h.g17,h.eS.ext e,O0,O0,O0⟩
section
variable {es aL:List Nat} {N:Nat} (hN:N<=6) (hsm:∀ e ∈ es,e<2^N) (hle:es.length<=8) (hL:NbL aL N)
include hN hsm hle hL
theorem C84{A:Option Addr}{cap q2 q17 q4:Nat}:∀(c cl rest:Nat) (H:Y0) (m:Nat),c<=100->cl<2^N->rest<2^N->PoE es aL N A cap q2 q17 q4 H m ->
  Q2 gQ 66 [.int .u32 (cl:Int),.int .u32 (rest:Int),.int .i64 (c:Int),.pointer (some ⟨q2,0,none⟩),.pointer (some ⟨q17,0,none⟩),.pointer (some ⟨q4,0,none⟩)] H m
   fun r H' m'=>r = .bool (W51 es aL N c cl rest)/\D0 H m H' m':=by
 have ag:2^N<=64:=aK (n:=2) O0 hN;have ac:0<2^N:=aQ N;intro c
 induction c with
 | zero=>
  intro cl rest H m a3 O hr hP;refine spec66 ?_;unfold F66;simp(disch:=first | omega | assumption | exact G0 O1 | exact U10 O1 | exact X0 O0 | fail  )only[W0,hP.g2,C13];refine R0 (V86 hN hsm hle O hr A cap _ _ hP.eS) ?_;rintro _ H1 n1 ⟨rfl,h1⟩;have Q:=hP.ext h1;have hd:=Z107 (es:=es) (cl:=cl) (rest:=rest);unfold W51;generalize C75 es cl rest=s at *
  obtain⟨out,cov⟩:=s;dsimp only at hd ⊢
  cases cov with
  | false=>
   simp(disch:=first | omega | assumption | exact G0 O1 | exact U10 O1 | exact X0 O0 | fail   )only[W0];exact h1
  | true=>
   have hd:=hd rfl;simp(disch:=first | omega | assumption | exact G0 O1 | exact U10 O1 | exact X0 O0 | fail   )only[W0];refine N5 (fun L' H' nx'=>L'=[.bool true]/\D0 H m H' nx') ?_ ?_
   .intro jj U
    by_cases k0:out=0
    .subst k0
     simp(disch:=first | omega | assumption | exact G0 O1 | exact U10 O1 | exact X0 O0 | fail   )only[W0];exact U _ _ _ ⟨rfl,h1⟩
    .simp(disch:=first | omega | assumption | exact G0 O1 | exact U10 O1 | exact X0 O0 | fail   )only[W0,decide_eq_false k0,Q.g2,C13]
     refine R0 (M84 hN hsm hle O hr A cap _ _ Q.eS) ?_;rintro _ H2 n2 ⟨rfl,h2⟩;simp(disch:=first | omega | assumption | exact G0 O1 | exact U10 O1 | exact X0 O0 | fail   )only[W0];exact U _ _ _ ⟨by simp;omega,h1.trans h2⟩
   .rintro L H2 n2 ⟨rfl,h2⟩
    simp(disch:=first | omega | assumption | exact G0 O1 | exact U10 O1 | exact X0 O0 | fail   )only[W0];exact h2
 | succ c ih=>
  intro cl rest H m a3 O hr hP;refine spec66 ?_;unfold F66;simp(disch:=first | omega | assumption | exact G0 O1 | exact U10 O1 | exact X0 O0 | fail  )only[W0,hP.g2,C13];refine R0 (V86 hN hsm hle O hr A cap _ _ hP.eS) ?_;rintro _ H1 n1 ⟨rfl,h1⟩;have Q:=hP.ext h1;unfold W51;have W:=X91 (cl:=cl) hr es (0,false) ac;change (C75 es cl rest).1<2^N at W;generalize C75 es cl rest=s at *
  obtain⟨out,cov⟩:=s;dsimp only at W ⊢
  cases cov with
  | false=>
   simp(disch:=first | omega | assumption | exact G0 O1 | exact U10 O1 | exact X0 O0 | fail   )only[W0];exact⟨rfl,h1⟩
  | true=>
   simp(disch:=first | omega | assumption | exact G0 O1 | exact U10 O1 | exact X0 O0 | fail   )only[W0];refine N5 (fun L' H' nx'=>L'=[.bool (!(decide (out≠0)&&decide ((C82 es cl rest).1<=c+1)))]/\D0 H m H' nx') ?_ ?_
   .intro jj U
    by_cases k0:out=0
    .subst k0
     simp(disch:=first | omega | assumption | exact G0 O1 | exact U10 O1 | exact X0 O0 | fail   )only[W0];exact U _ _ _ ⟨O2,h1⟩
    .simp(disch:=first | omega | assumption | exact G0 O1 | exact U10 O1 | exact X0 O0 | fail   )only[W0,decide_eq_false k0,Q.g2,C13]
     refine R0 (M84 hN hsm hle O hr A cap _ _ Q.eS) ?_;rintro _ H2 n2 ⟨rfl,h2⟩;have z2:decide (((C82 es cl rest).1:Int) > ((c+1:Nat):Int)) = !decide ((C82 es cl rest).1<=c+1):=by
      rw[eX,decide_eq_true_iff,cJ,decide_eq_false_iff_not];omega
     simp(disch:=first | omega | assumption | exact G0 O1 | exact U10 O1 | exact X0 O0 | fail   )only[W0,z2];exact U _ _ _ ⟨by simp[k0],h1.trans h2⟩
   rintro L H2 n2 ⟨rfl,h2⟩;have a9:=hP.ext h2
   cases al:decide (out≠0)&&decide ((C82 es cl rest).1<=c+1) with
   | false=>
    simp(disch:=first | omega | assumption | exact G0 O1 | exact U10 O1 | exact X0 O0 | fail   )only[W0];exact⟨rfl,h2⟩
   | true=>
    simp(disch:=first | omega | assumption | exact G0 O1 | exact U10 O1 | exact X0 O0 | fail   )only[W0,a9.g2];refine B1 (m:=N) (fun q L' H' nx'=>∃ v:Nat,q+v=N/\L'=[.int .u32 (N71 rest out v:Int),.int .i64 (v:Int)]/\(∀ u,u<v->(out.testBit u&&W51 es aL N c (cl ||| 2^u) (N71 rest out (u+1) &&& aL.getD u 0))=false)/\D0 H m H' nx') ?_ ⟨0,O0,rfl,fun u h=>O0,h2⟩;rintro q ak L' H3 n3 ⟨v,hq,rfl,a5,e3⟩ a0;have a2:=hP.ext e3;have an:=D85 (out:=out) hr v;have Z:=D85 (out:=out) hr (v+1)
    by_cases hv:v<N
    case neg=>
     obtain rfl:v=N:=O0;have V:¬ (v:Int)<(v:Int):=O0;simp(disch:=first | omega | assumption | exact G0 O1 | exact U10 O1 | exact X0 O0 | fail   )only[W0,V];refine⟨?_,e3⟩;have:((aY v).any fun u=>out.testBit u&&W51 es aL v c (cl ||| 2^u) (N71 rest out (u+1) &&& aL.getD u 0))=false:=by
      rw[bN];intro h;obtain⟨u,a7,a6⟩:=dY.1 h;rw[a5 u (by simpa using a7)] at a6
      cases a6
     rw[this];rfl
    have V:(v:Int)<(N:Int):=O0;have ad:v<32:=O0;have ab:out<4294967296:=O0;have next:(out.testBit v&&W51 es aL N c (cl ||| 2^v) (N71 rest out (v+1) &&& aL.getD v 0))=false->∀ u,u<v+1->(out.testBit u&&W51 es aL N c (cl ||| 2^u) (N71 rest out (u+1) &&& aL.getD u 0))=false:=fun h u hu=>by
     by_cases e:u=v
     .subst e;exact h
     .exact a5 u O0
    obtain⟨xv,a4,ao,aa⟩:=hL.at ad;have a4:=Q3 a4;have E:N71 rest out (v+1)=if out.testBit v=true then Z2 (N71 rest out v) (2^v) else N71 rest out v:=rfl
    cases J:out.testBit v with
    | false=>
     rw[J,if_neg O2] at E;simp(disch:=try exact O4)only[W0,V,N13,J];exact a0 (q-1) _ _ _ O0 ⟨v+1,O0,by rw[E];simp,next (by rw[J];rfl),e3⟩
    | true=>
     rw[J,if_pos rfl] at E;rw[E] at Z;have a8:=R27 hv;have pv:2^v<4294967296:=O0;have ah:cl<4294967296:=O0;have ai:N71 rest out v<4294967296:=O0;have ap:Z2 (N71 rest out v) (2^v)<4294967296:=O0;have aj:xv<4294967296:=O0;have ae:cl ||| 2^v<2^N:=Z26 O a8;have rv:Z2 (N71 rest out v) (2^v) &&& xv<2^N:=W37 Z;have ec:((c+1:Nat):Int)-1=(c:Int):=O0;simp(disch:=try exact O4)only[W0,V,N13,J,a2.g17,a2.g4,a4,ec];refine V22 (ih (cl ||| 2^v) (Z2 (N71 rest out v) (2^v) &&& xv) H3 (n3+13) O0 ae rv (a2.ext (D0.self O0))) ?_;rintro _ H4 n4 ⟨rfl,h4⟩;have e4:=(e3.more (show n3<=n3+13 by omega)).trans h4;have a1:W51 es aL N c (cl ||| 2^v) (N71 rest out (v+1) &&& aL.getD v 0)=W51 es aL N c (cl ||| 2^v) (Z2 (N71 rest out v) (2^v) &&& xv):=by rw[E,aa]
     cases hp:W51 es aL N c (cl ||| 2^v) (Z2 (N71 rest out v) (2^v) &&& xv) with
     | true=>
      simp(disch:=first | omega | assumption | exact G0 O1 | exact U10 O1 | exact X0 O0 | fail   )only[W0];refine⟨?_,e4⟩;have:((aY N).any fun u=>out.testBit u&&W51 es aL N c (cl ||| 2^u) (N71 rest out (u+1) &&& aL.getD u 0))=true:=dY.2 ⟨v,by simpa using hv,by rw[J,a1,hp];rfl⟩;rw[this];rfl
     | false=>
      simp(disch:=first | omega | assumption | exact G0 O1 | exact U10 O1 | exact X0 O0 | fail   )only[W0];exact a0 (q-1) _ _ _ O0 ⟨v+1,O0,by rw[E];simp,next (by rw[J,a1,hp];rfl),e4⟩
end
end
end Go.Proofs.YtoiioigihocgbaaGreatDoor
namespace Go.Clo
theorem R104{es:List Nat}{i e:Nat}(h:es[i]? = some e):(es.take (i+1)).foldl (· ||| ·) 0=(es.take i).foldl (· ||| ·) 0 ||| e:=by
 rw[take_next' h,List.foldl_append];rfl
where
 take_next' {α:Type} {l:List α} {i:Nat} {x:α} (h:l[i]? = some x):l.take (i+1)=l.take i++[x]:=by
  rw[List.take_add_one,h];rfl
theorem K88{N:Nat}:∀ {es:List Nat} {a:Nat},(∀ e ∈ es,e<2^N)->a<2^N->es.foldl (· ||| ·) a<2^N
 | [],a,_,h=>h
 | e :: es,a,h,ha=>by
  rw[dF];exact K88 (fun x hx=>h x (by simp[hx])) (Z26 ha (h e O2))
def G80(lo:Nat)(H:Y0)(nx:Nat)(v:Value)(l:List Nat):Prop:=Acc lo H nx 1 v l.length (U4 (l.map fun(x:Nat)=>(x:Int)))/\(l=[]->v = .slice none 0 0)
theorem G80.ext{lo:Nat}{H:Y0}{nx:Nat}{v:Value}{l:List Nat}{H':Y0}{nx':Nat}(h:G80 lo H nx v l)(e:D0 H nx H' nx'):G80 lo H' nx' v l:=⟨h.1.ext e,h.2⟩
theorem G80.ls{lo:Nat}{H:Y0}{nx:Nat}{v:Value}{l:List Nat}(h:G80 lo H nx v l):LsR l v H nx:=by
 obtain⟨A,rfl,hS⟩:=h.1.sl;refine⟨A,rfl,⟨fun e => ?_,fun e => ?_⟩,hS⟩
 .subst e
  cases l with
  | nil=>rfl
  | cons x l=>
   obtain⟨b,o,row,e,_⟩:=hS.open (i:=0) (by simp[U4])
   cases e
 .have:=h.2 e
  injection this
theorem G80.app{lo:Nat}{H:Y0}{nx b cap v:Nat}{sv:Value}{l:List Nat}{H0:Y0}{k:EP}(hA:G80 lo H nx sv l)(hg:J0 H b=O7 [O8 (v:Int)])(J:l.length<=1000)(hE:D0 H0 lo H nx)(E:lo<=nx)(hk:∀ v' H',G80 lo H' (nx+1) v' (l++[v])->D0 H0 lo H' (nx+1)->k v' H' (nx+1)):B5 sv (.slice (some ⟨b,0,none⟩) 1 cap) 1 8 H nx k:=by
 refine Y20 (H0:=H0) O0 hA.1 (J9 (cap:=cap) hg rfl O0) O0 rfl O0 O0 hE E ?_;intro v' H' a1 a2 _;refine hk v' H' ⟨?_,fun e=>by simp at e⟩ a2;have e:U4 (l.map fun(x:Nat)=>(x:Int))++[O8 (v:Int)]=U4 ((l++[v]).map fun(x:Nat)=>(x:Int)):=by simp[U4]
 rw[e] at a1;rw[bH];exact a1
theorem V90{es aL:List Nat}{N L lk:Nat}(E:lk<2^N):∀ v,v<=N->(W76 es aL N L lk v).2.1<2^N/\(W76 es aL N L lk v).2.2<2^N/\(W76 es aL N L lk v).1.length<=v
 | 0,_=>⟨aQ N,E,aD _⟩
 | v+1,hv=>by
  obtain⟨h1,h2,h3⟩:=V90 (es:=es) (aL:=aL) (L:=L) E v O0;have pv:2^v<2^N:=R27 O0;unfold W76 W99
  split
  .split
   .exact⟨Z26 h1 pv,W37 (Z6 h2),by simp;omega⟩
   .exact⟨h1,Z6 h2,by show(W76 es aL N L lk v).1.length<=v+1;omega⟩
  .exact⟨h1,h2,O0⟩
end Go.Clo
namespace Go.Proofs.YtoiioigihocgbaaGreatDoor
open Go.Clo
section
variable {es aL:List Nat} {N:Nat} (hN:N<=6) (hsm:∀ e ∈ es,e<2^N) (hle:es.length<=8) (hL:NbL aL N)
include hN hsm hle hL
theorem D84{most:Nat}(b4:most<=50)(A:Option Addr)(cap:Nat)(H:Y0)(nx:Nat)(hS:Sl H nx A (K12 es)):
  Q2 gQ 31 [gv (N:Int) A es.length cap,.agg ⟨K12 aL⟩,.int .i64 (most:Int)] H nx fun r H' nx'=>LsR (D83 es aL N most) r H' nx'/\D0 H nx H' nx':=by
 have b5:2^N<=64:=aK (n:=2) O0 hN;have ae:0<2^N:=aQ N;have ad:∀ a b:Value,B12 [a] 0 [b]=[b]:=fun _ _=>rfl
 refine spec31 ?_;unfold F31;have a3:D0 H nx (hs (hs H nx (some (.cells [.int .i64 (N:Int),.slice A es.length cap] 0))) (nx+1) (some (.cells (K12 aL) 0))) (nx+1+1):=((D0.refl H nx).new _ (aD _) (m:=nx+1) O0).new _ O0 O0;have g2:J0 (hs (hs H nx (some (.cells [.int .i64 (N:Int),.slice A es.length cap] 0))) (nx+1) (some (.cells (K12 aL) 0))) nx=some (.cells [.int .i64 (N:Int),.slice A es.length cap] 0):=by rw[Z1 _ O0,Z11]
 have g4:J0 (hs (hs H nx (some (.cells [.int .i64 (N:Int),.slice A es.length cap] 0))) (nx+1) (some (.cells (K12 aL) 0))) (nx+1)=some (.cells (K12 aL) 0):=Z11 _ _ _;simp(disch:=first | omega | assumption | exact G0 O1 | exact U10 O1 | exact X0 O0 | fail  )only[W0,Z0,Q0.val,W5 aL];generalize hs (hs H nx (some (.cells [.int .i64 (N:Int),.slice A es.length cap] 0))) (nx+1) (some (.cells (K12 aL) 0))=H1 at *
 refine B1 (m:=es.length) (fun m L' H' nx'=>∃ i:Nat,m+i=es.length/\L'=[.int .u32 ((es.take i).foldl (· ||| ·) 0:Nat),.int .i64 (i:Int)]/\H1=H'/\nx+1+1=nx') ?_ ⟨0,O0,rfl,rfl,rfl⟩;rintro m ih L1 _ _ ⟨i,hm,rfl,rfl,rfl⟩ ag;have a5:=K88 (es:=es.take i) (a:=0) (fun e he=>hsm e (List.mem_of_mem_take he)) ae
 by_cases hi:i<es.length
 .have W:(i:Int)<(es.length:Int):=O0
  obtain⟨e,he⟩:∃ e,es[i]? = some e:=⟨_,aE hi⟩
  have bo:=hsm e (aH he);have c8:e<4294967296:=O0;have ba:(es.take i).foldl (· ||| ·) 0<4294967296:=O0;obtain⟨B,o,row,rfl,c7,ah,aa⟩:=(hS.ext a3).open (i:=i) (by rw[E1];omega);have q0:=aa _ _ (Q3 he);simp(disch:=first | omega | assumption | exact G0 O1 | exact U10 O1 | exact X0 O0 | fail  )only[W0,W,X3 ah,q0];exact ag (m-1) _ _ _ O0 ⟨i+1,O0,by rw[R104 he];simp,rfl,rfl⟩
 have W:¬ (i:Int)<(es.length:Int):=O0;rw[gJ O0] at a5;rw[gJ (show es.length<=i by omega)];clear ag;have ao:es.foldl (· ||| ·) 0=Z7 es:=rfl;rw[ao] at a5 ⊢;unfold D83;generalize Z7 es=lk at *
 by_cases h0:lk=0
 .simp(disch:=first | omega | assumption | exact G0 O1 | exact U10 O1 | exact X0 O0 | fail   )only[W0,W,decide_eq_true h0]
  rw[if_pos (.inl h0)];exact⟨C66 _ _,a3⟩
 simp(disch:=first | omega | assumption | exact G0 O1 | exact U10 O1 | exact X0 O0 | fail   )only[W0,W,decide_eq_false h0,ad];have a2:D0 H1 (nx+1+1) (hs (hs H1 (nx+1+1) (some (.cells [.nilFunc] 0))) (nx+1+1) (some (.cells [.func (.func 66) ⟨[]⟩ ⟨[.pointer (some ⟨nx,0,none⟩),.pointer (some ⟨nx+1+1,0,none⟩),.pointer (some ⟨nx+1,0,none⟩)]⟩] 0))) (nx+1+1+1):=((D0.refl H1 (nx+1+1)).new _ (aD _) (m:=nx+1+1+1) O0).hs (aD _);have g17:J0 (hs (hs H1 (nx+1+1) (some (.cells [.nilFunc] 0))) (nx+1+1) (some (.cells [.func (.func 66) ⟨[]⟩ ⟨[.pointer (some ⟨nx,0,none⟩),.pointer (some ⟨nx+1+1,0,none⟩),.pointer (some ⟨nx+1,0,none⟩)]⟩] 0))) (nx+1+1)=some (.cells [.func (.func 66) ⟨[]⟩ ⟨[.pointer (some ⟨nx,0,none⟩),.pointer (some ⟨nx+1+1,0,none⟩),.pointer (some ⟨nx+1,0,none⟩)]⟩] 0):=Z11 _ _ _;generalize hs (hs H1 (nx+1+1) (some (.cells [.nilFunc] 0))) (nx+1+1) (some (.cells [.func (.func 66) ⟨[]⟩ ⟨[.pointer (some ⟨nx,0,none⟩),.pointer (some ⟨nx+1+1,0,none⟩),.pointer (some ⟨nx+1,0,none⟩)]⟩] 0))=H3 at *
 have hX:PoE es aL N A cap nx (nx+1+1) (nx+1) H3 (nx+1+1+1):=⟨(a2.get nx O0).trans g2,(a2.get (nx+1) O0).trans g4,g17,(hS.ext a3).ext a2,O0,O0,O0⟩
 have a6:=a3.trans a2;clear g2 g4 g17;generalize hP:(fun L=>W51 es aL N L 0 lk)=P;have au:∀ L,P L=W51 es aL N L 0 lk:=fun L=>by rw[<- hP]
 generalize a8:B86 P (most-2) 3=full;refine B1 (m:=most) (fun m L' H' nx'=>∃ k L:Nat,L'=[.int .i64 (L:Int)]/\B86 P k L=full/\(k+L=most+1\/(k=0/\most<L))/\(L<=most->m+L=most+3)/\3<=L/\L<=most+3/\D0 H3 (nx+1+1+1) H' nx') ?_
  ⟨most-2,3,rfl,a8,O0,O0,O0,O0,D0.refl _ _⟩
 rintro m4 bx L1 H4 n4 ⟨k,L,rfl,E,aw,c6,bv,bz,e4⟩ ab;have ac:=hX.ext e4;have bt:∀(r:Prop),(L<=most->P L=true->r)->(most<L->r)->(L<=most->P L=false->r)->r:=fun r h1 h2 h3=>by
  by_cases h:L<=most
  .cases hp:P L with
   | true=>exact h1 h hp
   | false=>exact h3 h hp
  .exact h2 O0
 have c1:decide ((L:Int)<=(most:Int))=decide (L<=most):=by congr 1;apply propext;omega
 have c2:decide ((L:Int) > (most:Int))=decide (most<L):=by congr 1;apply propext;omega
 refine N5 (fun L' H' nx'=>L'=[.bool (decide (L<=most) && !P L)]/\D0 H3 (nx+1+1+1) H' nx') ?_ ?_
 .intro jj V
  by_cases O:L<=most
  .simp(disch:=first | omega | assumption | exact G0 O1 | exact U10 O1 | exact X0 O0 | fail   )only[W0,c1,decide_eq_true O,ac.g17]
   refine V22 (C84 hN hsm hle hL L 0 lk H4 n4 O0 ae a5 ac) ?_;rintro _ H5 n5 ⟨rfl,h5⟩;simp(disch:=first | omega | assumption | exact G0 O1 | exact U10 O1 | exact X0 O0 | fail   )only[W0];exact V _ _ _ ⟨by simp[O,au],e4.trans h5⟩
  .simp(disch:=first | omega | assumption | exact G0 O1 | exact U10 O1 | exact X0 O0 | fail   )only[W0,c1,decide_eq_false O]
   exact V _ _ _ ⟨by simp[O],e4⟩
 rintro L1 H5 n5 ⟨rfl,e5⟩;have a7:=hX.ext e5
 by_cases Q:L<=most/\P L=false
 .have hg:(decide (L<=most) && !P L)=true:=by simp[Q.1,Q.2]
  rw[hg];simp(disch:=first | omega | assumption | exact G0 O1 | exact U10 O1 | exact X0 O0 | fail  )only[W0];obtain⟨k',rfl⟩:∃ k',k=k'+1:=⟨k-1,O0⟩
  rw[B86,if_neg (by rw[Q.2];simp)] at E;exact ab (m4-1) _ _ _ O0 ⟨k',L+1,O2,E,O0,O0,O0,O0,e5⟩
 have hg:(decide (L<=most) && !P L)=false:=by
  rw[bN];intro h;rw[aG,decide_eq_true_iff] at h;exact Q ⟨h.1,by simpa using h.2⟩
 rw[hg];have ak:full=L:=by
  rcases aw with h | ⟨h,_⟩
  .cases k with
   | zero=>exact E.symm
   | succ k=>
    have hp:P L=true:=by
     cases hp:P L with
     | true=>rfl
     | false=>exact absurd ⟨O0,hp⟩ Q
    rw[B86,if_pos hp] at E;exact E.symm
  .subst h;exact E.symm
 by_cases O:L<=most
 case neg=>
  simp(disch:=first | omega | assumption | exact G0 O1 | exact U10 O1 | exact X0 O0 | fail   )only[W0,c2,decide_eq_true (show most<L by omega)];rw[if_pos (.inr O0)];exact⟨C66 _ _,a6.trans e5⟩
 rw[if_neg (by rw[ak];omega),ak];simp(disch:=first | omega | assumption | exact G0 O1 | exact U10 O1 | exact X0 O0 | fail   )only[W0,c2,decide_eq_false (show ¬ most<L by omega),a7.g2];refine B1 (m:=N) (fun q L' H' nx'=>∃(v:Nat) (sv:Value),q+v=N/\L'=[sv,.int .u32 ((W76 es aL N L lk v).2.1:Int),.int .u32 ((W76 es aL N L lk v).2.2:Int),.int .i64 (v:Int)]/\G80 n5 H' nx' sv (W76 es aL N L lk v).1/\D0 H5 n5 H' nx') ?_
  ⟨0,_,O0,rfl,⟨Acc.nil _ _ _ _,fun _=>rfl⟩,D0.refl _ _⟩
 rintro q bh L1 H6 n6 ⟨v,sv,hq,rfl,hA,e6⟩ U;have a0:=a7.ext e6
 by_cases hv:v<N
 case neg=>
  obtain rfl:v=N:=O0;have a1:¬ (v:Int)<(v:Int):=O0;simp(disch:=first | omega | assumption | exact G0 O1 | exact U10 O1 | exact X0 O0 | fail   )only[W0,a1];exact⟨hA.ls,(a6.trans e5).trans e6⟩
 have a1:(v:Int)<(N:Int):=O0;obtain⟨b1,b2,b3⟩:=V90 (es:=es) (aL:=aL) (L:=L) a5 v O0;have next:W76 es aL N L lk (v+1)=W99 es aL N L v (W76 es aL N L lk v):=rfl;generalize W76 es aL N L lk v=s at *
 obtain⟨l,cl,r⟩:=s;unfold W99 at next;dsimp only at b1 b2 b3 hA next ⊢;obtain⟨SA,rfl,c4,ca⟩:=hA.ls;obtain⟨xv,a4,bu,aq⟩:=hL.at (u:=v) O0;have a4:=Q3 a4;have ap:=R27 hv;have pv:2^v<4294967296:=O0;have b8:cl<4294967296:=O0;have bw:r<4294967296:=O0;have av:Z2 r (2^v)<2^N:=Z6 b2;have bc:Z2 r (2^v)<4294967296:=O0;have bf:xv<4294967296:=O0;have aj:cl ||| 2^v<2^N:=Z26 b1 ap;have al:Z2 r (2^v) &&& xv<2^N:=W37 av;have c9:v<32:=O0;have bg:=e6.le;rw[aq] at next
 cases J:r.testBit v with
 | false=>
  rw[J,if_neg O2] at next;simp(disch:=try exact O4)only[W0,a1,N13,J];exact U (q-1) _ _ _ O0 ⟨v+1,.slice SA l.length l.length,O0,by rw[next];simp,by rw[next];exact hA,e6⟩
 | true=>
  rw[J,if_pos rfl] at next;simp(disch:=try exact O4)only[W0,a1,J];rw[N13];have c3:decide ((l.length:Int)<(L:Int))=decide (l.length<L):=by congr 1;apply propext;omega
  refine N5 (fun L' H' nx'=>L'=[.bool (decide (l.length<L)&&W51 es aL N (L-l.length-1) (cl ||| 2^v) (Z2 r (2^v) &&& xv))]/\D0 H6 n6 H' nx') ?_ ?_
  .intro jj V
   by_cases Z:l.length<L
   .have ec:(L:Int)-(l.length:Int)-1=((L-l.length-1:Nat):Int):=O0
    simp(disch:=first | omega | assumption | exact G0 O1 | exact U10 O1 | exact X0 O0 | fail  )only[W0,c3,decide_eq_true Z,a0.g17,a0.g4,a4,ec];refine V22 (C84 hN hsm hle hL (L-l.length-1) (cl ||| 2^v) (Z2 r (2^v) &&& xv) H6 (n6+22) O0 aj al (a0.ext (D0.self O0))) ?_;rintro _ H7 n7 ⟨rfl,h7⟩;exact V _ _ _ ⟨by simp[Z],h7.less O0⟩
   .simp(disch:=first | omega | assumption | exact G0 O1 | exact U10 O1 | exact X0 O0 | fail   )only[W0,c3,decide_eq_false Z]
    exact V _ _ _ ⟨by simp[Z],D0.self O0⟩
  rintro L1 H7 n7 ⟨rfl,e7⟩;have bk:=a0.ext e7;have bd:=e7.le
  by_cases hc:l.length<L/\W51 es aL N (L-l.length-1) (cl ||| 2^v) (Z2 r (2^v) &&& xv)=true
  .have a9:(decide (l.length<L)&&W51 es aL N (L-l.length-1) (cl ||| 2^v) (Z2 r (2^v) &&& xv))=true:=by rw[aG,decide_eq_true_iff];exact hc
   rw[a9];rw[if_pos hc] at next;have ay:∀(x:Int) k,K6 1 1 [.int .i64 0] [(0,.int .i64 x)] k=k [.int .i64 x]:=fun x k=>rfl
   simp(disch:=first | omega | assumption | exact G0 O1 | exact U10 O1 | exact X0 O0 | fail   )only[W0,ay];have ai:D0 H7 n7 (Go.Clo.hs H7 n7 (some (.cells [.int .i64 (v:Int)] 0))) (n7+1):=(D0.refl _ _).new _ (aD _) O0;have g8:J0 (Go.Clo.hs H7 n7 (some (.cells [.int .i64 (v:Int)] 0))) n7=some (.cells [.int .i64 (v:Int)] 0):=Z11 _ _ _;generalize Go.Clo.hs H7 n7 (some (.cells [.int .i64 (v:Int)] 0))=H8 at *
   have az:=(e6.trans e7).trans ai;refine G80.app (H0:=H5) (hA.ext (e7.trans ai)) g8 O0 az O0 ?_;intro v9 H9 an e9;have ax:=a7.ext e9;simp(disch:=first | omega | assumption | exact G0 O1 | exact U10 O1 | exact X0 O0 | fail  )only[W0,ax.g4,a4];exact U (q-1) _ _ _ O0 ⟨v+1,v9,O0,by rw[next];simp,by rw[next];exact an,e9⟩
  .have a9:(decide (l.length<L)&&W51 es aL N (L-l.length-1) (cl ||| 2^v) (Z2 r (2^v) &&& xv))=false:=by
    rw[bN];intro h;rw[aG,decide_eq_true_iff] at h;exact hc h
   rw[a9];rw[if_neg hc] at next;simp(disch:=first | omega | assumption | exact G0 O1 | exact U10 O1 | exact X0 O0 | fail   )only[W0];exact U (q-1) _ _ _ O0 ⟨v+1,.slice SA l.length l.length,O0,by rw[next];simp,by rw[next];exact hA.ext e7,e6.trans e7⟩
end
section
variable {i:Nat}
theorem W91{α:Type}{l:List α}{x:α}(h:l[i]? = some x):l.drop i=x :: l.drop (i+1):=by
 obtain⟨hi,rfl⟩:=aJ.1 h;exact List.drop_eq_getElem_cons hi
theorem E94{l:List Nat}{x:Nat}(h:l[i]? = some x):(U4 (l.map fun(x:Nat)=>(x:Int)))[i]? = some (O8 (x:Int)):=Z9 (by rw[cP,h];rfl)
theorem J6(l:List Nat):(U4 (l.map fun(x:Nat)=>(x:Int))).length=l.length:=by rw[X9,gM]
theorem B96{a b:List Nat}{A B:Option Addr}{ca cb:Nat}{H:Y0}{nx:Nat}(hA:Sl H nx A (U4 (a.map fun(x:Nat)=>(x:Int))))(hB:Sl H nx B (U4 (b.map fun(x:Nat)=>(x:Int))))(ha:a.length<=1000)(hb:b.length<=1000):
  Q2 gQ 32 [.slice A a.length ca,.slice B b.length cb] H nx fun r H' nx'=>r=O8 (X83 a b)/\D0 H nx H' nx':=by
 refine spec32 ?_;unfold F32;simp only[W0];refine B1 (m:=a.length) (fun m L H' nx'=>∃ i:Nat,m+i=a.length/\L=[O8 (i:Int)]/\X83 a b=X83 (a.drop i) (b.drop i)/\i<=b.length/\H=H'/\nx=nx') ?_ ⟨0,O0,rfl,rfl,O0,rfl,rfl⟩;rintro m ih L _ _ ⟨i,hm,rfl,E,a5,rfl,rfl⟩ a1
 by_cases hi:i<a.length
 .have O:(i:Int)<(a.length:Int):=O0
  obtain⟨x,hx⟩:∃ x,a[i]? = some x:=⟨_,aE hi⟩
  obtain⟨P,o,row,rfl,a4,U,a0⟩:=hA.open (i:=i) (by rw[J6];omega);have q0:=a0 _ _ (E94 hx);rw[W91 hx] at E
  by_cases hj:i<b.length
  .have J:¬ (i:Int) ≥ (b.length:Int):=O0
   obtain⟨y,hy⟩:∃ x,b[i]? = some x:=⟨_,aE hj⟩
   obtain⟨P2,o2,a3,rfl,a2,Z,W⟩:=hB.open (i:=i) (by rw[J6];omega);have q1:=W _ _ (E94 hy);rw[W91 hy] at E;simp(disch:=omega)only[W0,O,J,X3 U,X3 Z,q0,q1];refine R0 (Y81 (x:Int) (y:Int) H nx) ?_;rintro _ _ _ ⟨rfl,rfl,rfl⟩;rw[show X83 (x :: a.drop (i+1)) (y :: b.drop (i+1))=if x<y then -1 else if y<x then 1 else X83 (a.drop (i+1)) (b.drop (i+1)) from rfl] at E
   by_cases h1:x<y
   .have Q:(x:Int)<(y:Int):=O0
    rw[if_pos Q] ;rw[if_pos h1] at E;have d:decide ((-1:Int)≠0)=true:=by decide
    simp only[W0,d];exact⟨by rw[E],D0.refl _ _⟩
   .by_cases h2:y<x
    .have Q:¬ (x:Int)<(y:Int):=O0
     have V:(y:Int)<(x:Int):=O0;rw[if_neg Q,if_pos V];rw[if_neg h1,if_pos h2] at E;have d:decide ((1:Int)≠0)=true:=by decide
     simp only[W0,d];exact⟨by rw[E],D0.refl _ _⟩
    .have Q:¬ (x:Int)<(y:Int):=O0
     have V:¬ (y:Int)<(x:Int):=O0;rw[if_neg Q,if_neg V];rw[if_neg h1,if_neg h2] at E;have d:decide ((0:Int)≠0)=false:=by decide
     simp only[W0,d];exact a1 (m-1) _ _ _ O0 ⟨i+1,O0,O2,E,O0,rfl,rfl⟩
  .have J:(i:Int) ≥ (b.length:Int):=O0
   rw[cM (show b.length<=i by omega)] at E;simp(disch:=omega)only[W0,O,J,X3 U,q0];exact⟨by rw[E];rfl,D0.refl _ _⟩
 .have O:¬ (i:Int)<(a.length:Int):=O0
  obtain rfl:i=a.length:=O0;rw[cM (aD _)] at E
  by_cases hj:a.length<b.length
  .have J:(a.length:Int)<(b.length:Int):=O0
   simp only[W0,O,J];obtain⟨y,hy⟩:∃ x,b[a.length]? = some x:=⟨_,aE hj⟩
   rw[W91 hy] at E;exact⟨by rw[E];rfl,D0.refl _ _⟩
  .have J:¬ (a.length:Int)<(b.length:Int):=O0
   rw[cM (show b.length<=a.length by omega)] at E;simp only[W0,O,J];exact⟨by rw[E];rfl,D0.refl _ _⟩
theorem R60(es:List Nat)(N:Nat):NbL (B2 es N) N:=⟨N9 es N,N30⟩
theorem C98{aL:List Nat}{N start:Nat}:∀(k last:Nat) (p:List Nat) (blk:Nat),(exF aL N start k last p blk).length<=p.length+k
 | 0,last,p,blk=>aD _
 | k+1,last,p,blk=>by
  unfold exF
  split
  .simp
  .have:=C98 (aL:=aL) (N:=N) (start:=start) k ‹_› (p++[‹_›]) (W87 aL blk last)
   rw[bH] at this;simp only[gU] at this;omega
theorem K98{aL:List Nat}{N L s:Nat}:∀ j,(scW aL N L s j).length<=L+2
 | 0=>by simp[scW]
 | j+1=>by
  unfold scW
  split
  .have:=C98 (aL:=aL) (N:=N) (start:=s) (L-2) j [s,j] 0
   simp only[cV,List.length_nil] at this;omega
  .exact K98 j
theorem Z90{aL:List Nat}{N L:Nat}:∀ s,(scV aL N L s).length<=L+2
 | 0=>by simp[scV]
 | s+1=>by
  unfold scV
  split
  .exact K98 N
  .exact Z90 s
theorem K95{es aL:List Nat}{N most:Nat}(h:Z7 es<2^N):(D83 es aL N most).length<=N:=by
 unfold D83
 split
 .simp
 .exact(V90 h N (aD _)).2.2
theorem G79{N:Nat}(hN:N<=6)(A:Option Addr)(es:List Nat)(cap:Nat)(Z:∀ e ∈ es,e<2^N)(al:es.length<=8)(H:Y0)(nx:Nat)(hS:Sl H nx A (K12 es)):
  Q2 gQ 12 [gv (N:Int) A es.length cap] H nx fun r H' nx'=>(∃ v,r = .tuple ⟨[v,.bool (decide (Z74 es (B2 es N) N≠[]))]⟩/\LsR (Z74 es (B2 es N) N) v H' nx')/\D0 H nx H' nx':=by
 have ax:2^N<=64:=aK (n:=2) O0 hN;have an:0<2^N:=aQ N;have a5:U14 es:=fun e he=>by have:=Z e he;omega
 have aw:N3 N es=0:=V11 O0 O0 fun i e he=>Z e (aH he)
 refine spec12 ?_;unfold F12;have a6:D0 H nx (hs H nx (O7 [O8 N,.slice A es.length cap])) (nx+1):=(D0.refl H nx).nw _;have k1:J0 (hs H nx (O7 [O8 N,.slice A es.length cap])) nx=O7 [O8 N,.slice A es.length cap]:=Z11 _ _ _;simp only[W0,Z0,Q0.val,C13];generalize hs H nx (O7 [O8 N,.slice A es.length cap])=K at *
 refine R0 (N11 N A es cap _ _ (hS.ext a6) a5) ?_;rintro _ H2 nx2 ⟨rfl,a2⟩;have d1:decide (N3 N es≠0)=false:=by simp[aw]
 have g2:=(a2.gt nx).trans k1;have b5:=a2.le;simp only[W0,d1,g2,C13];refine R0 (Q65 O0 A es cap _ _ (hS.ext (a6.trans a2)) Z O0) ?_;rintro _ H3 E ⟨rfl,a4⟩;have g3:=(a4.gt nx).trans g2;have ay:=a4.le;have e1:(K12 (B2 es N)).length=32:=by rw[E1];exact N9 es N
 have e2:(K12 (aF 32 0)).length=32:=by rw[E1];simp
 have e3:=G24 (c:=K12 (aF 32 0)) (vs:=K12 (B2 es N)) (by rw[e1,e2]);have e4:=W5 (B2 es N);rw[Q27];have aa:D0 H3 E (hs (hs H3 E (O7 (K12 (aF 32 0)))) E (O7 (K12 (B2 es N)))) (E+1):=((D0.refl _ _).nw _ (m:=E+1)).h0;have a7:J0 (hs (hs H3 E (O7 (K12 (aF 32 0)))) E (O7 (K12 (B2 es N)))) E=O7 (K12 (B2 es N)):=Z11 _ _ _;have ac:J0 (hs (hs H3 E (O7 (K12 (aF 32 0)))) E (O7 (K12 (B2 es N)))) nx=O7 [O8 N,.slice A es.length cap]:=(aa.gt nx).trans g3;simp only[W0,e1,e2,e3,e4,ac,M18 e1];generalize hs (hs H3 E (O7 (K12 (aF 32 0)))) E (O7 (K12 (B2 es N)))=H4 at *
 have a3:=((a6.trans a2).trans a4).trans aa;have hL:=R60 es N;generalize B2 es N=aL at *
 refine R0 (C85 hN hL _ _) ?_;rintro _ H5 aq ⟨ap,a0⟩;have ba:=Z90 (aL:=aL) (N:=N) (L:=cyV aL N N) N;have b4:=(U93 (aL:=aL) (N:=N) (fun u w within=>D81 hN hL) N).1;have az:(scF aL N).length<=11:=by
  unfold scF
  split
  .simp
  .omega
 have g5:=(a0.gt nx).trans ac;have au:=(a0.gt E).trans a7;have b3:=a0.le;have aj:Z7 es<2^N:=K88 Z an;have O:Z74 es aL N=X90 (scF aL N) (D83 es aL N (if scF aL N=[] then N else(scF aL N).length)):=rfl;generalize Z74 es aL N=ob at *
 generalize scF aL N=cy at *
 obtain⟨C,rfl,ab,av⟩:=ap;obtain⟨most,J⟩:∃ most,most=if cy=[] then N else cy.length:=⟨_,rfl⟩
 rw[<- J] at O;have ae:most<=50:=by rw[J];split<;>omega
 have cz:decide (cy.length=0)=decide (cy=[]):=by
  congr 1;apply propext;exact dT
 simp only[W0];refine N5 (fun L' H' nx'=>L'=[O8 (most:Int)]/\H5=H'/\aq=nx') ?_ ?_
 .intro jj V
  by_cases h:cy=[]
  .rw[if_pos h] at J
   simp only[W0,cz,decide_eq_true h,g5];exact V _ _ _ ⟨by rw[J],rfl,rfl⟩
  .rw[if_neg h] at J
   simp only[W0,cz,decide_eq_false h];exact V _ _ _ ⟨by rw[J],rfl,rfl⟩
 rintro L1 _ _ ⟨rfl,rfl,rfl⟩;simp only[W0,g5,au,C13,M18 e1];have ai:=hS.ext (a3.trans a0);refine R0 (D84 hN Z al hL ae A cap _ _ ai) ?_;rintro _ H6 ag ⟨ak,ad⟩;have b8:=K95 (es:=es) (aL:=aL) (N:=N) (most:=most) aj;generalize D83 es aL N most=cq at *
 have W:=(a3.trans a0).trans ad;obtain⟨Q,rfl,ah,a9⟩:=ak;have a1:=av.ext ad;have a8:decide (cq.length=0)=decide (cq=[]):=by
  congr 1;apply propext;exact dT
 by_cases h1:cq=[]
 .have cg:decide ((cy.length:Int) > 0)=decide (cy≠[]):=by
   congr 1;apply propext
   constructor
   .rintro h rfl;simp at h
   .intro h;have:=List.length_pos_iff.2 h;omega
  rw[X90,if_pos h1] at O;subst O;simp only[W0,a8,decide_eq_true h1,cg];exact⟨⟨_,rfl,C,rfl,ab,a1⟩,W⟩
 rw[X90,if_neg h1] at O;simp only[W0,a8,decide_eq_false h1];have cl:decide ((cq.length:Int)<(cy.length:Int))=decide (cq.length<cy.length):=by congr 1;apply propext;omega
 refine N5 (fun L' H' nx'=>L'=[.bool (decide (cy=[]\/cq.length<cy.length\/X83 cq cy<0))]/\D0 H6 ag H' nx') ?_ ?_
 .intro jj V
  by_cases h2:cy=[]
  .simp only[W0,cz,decide_eq_true h2]
   exact V _ _ _ ⟨by simp[h2],D0.refl _ _⟩
  by_cases h3:cq.length<cy.length
  .simp only[W0,cz,decide_eq_false h2,cl,decide_eq_true h3]
   exact V _ _ _ ⟨by simp[h3],D0.refl _ _⟩
  simp only[W0,cz,decide_eq_false h2,cl,decide_eq_false h3];refine R0 (B96 a9 a1 O0 O0) ?_;rintro _ H7 ao ⟨rfl,U⟩;simp only[W0];exact V _ _ _ ⟨by simp[h2,h3],U⟩
 rintro L1 H7 ao ⟨rfl,U⟩
 by_cases h2:cy=[]\/cq.length<cy.length\/X83 cq cy<0
 .rw[if_pos h2] at O
  subst O;simp only[W0,decide_eq_true h2];exact⟨⟨_,by rw[decide_eq_true (show ob≠[] from h1)],Q,rfl,ah,a9.ext U⟩,W.trans U⟩
 .rw[if_neg h2] at O
  subst O;simp only[W0,decide_eq_false h2];exact⟨⟨_,by rw[decide_eq_true (show ob≠[] from fun h=>h2 (.inl h))],C,rfl,ab,a1.ext U⟩,W.trans U⟩
end
end Go.Proofs.YtoiioigihocgbaaGreatDoor
namespace Go.Clo
section
variable {k last:Nat}
def shG(aL:List Nat)(inn far lim:Nat):Nat->Nat->Nat->Nat->Option (Nat × Nat)
 | 0,_,_,_=>none
 | k+1,seen,b,st=>if b=0\/(lim≠0/\lim<st) then none else if Q4 aL b 32 &&& far≠0 then some (st,Q4 aL b 32 &&& far) else shG aL inn far lim k (seen ||| b) (Z2 (Q4 aL b 32 &&& inn) (seen ||| b)) (st+1)
def U5(aL:List Nat)(inn last:Nat):Nat->Nat
 | 0=>last
 | k+1=>Q4 aL (U5 aL inn last k) 32 &&& inn
def Q7(aL:List Nat)(inn last len first:Nat):Nat->Nat
 | 0=>first
 | k+1=>tz (U5 aL inn last (len-1-k) &&& aL.getD (Q7 aL inn last len first k) 0)
def lev(aL:List Nat)(inn b:Nat):Nat->Nat
 | 0=>b
 | k+1=>Q4 aL (lev aL inn b k) 32 &&& inn
section
variable {aL:List Nat} {inn far lim:Nat}
theorem K15{b0:Nat}:∀(k E b st:Nat) {r:Nat × Nat},(∀ w,b.testBit w=true->(lev aL inn b0 (st-2)).testBit w=true)->2<=st->shG aL inn far lim k E b st=some r ->
  2<=r.1/\(lim≠0->r.1<=lim)/\r.2≠0/\(∀ w,r.2.testBit w=true->far.testBit w=true)/\∃ u z,(lev aL inn b0 (r.1-2)).testBit u=true/\r.2.testBit z=true/\(aL.getD u 0).testBit z=true
 | 0,E,b,st,r,_,_,h=>by cases h
 | k+1,E,b,st,r,hb,h2,h=>by
  unfold shG at h
  split at h
  .cases h
  .rename_i h3
   split at h
   .rename_i h4
    cases h
    obtain⟨z,hz⟩:=B14 h4
    grind[Y7]
   .refine K15 k _ _ (st+1) (fun w hw => ?_) O0 h
    rw[N1,aG,bI,aG] at hw;rw[show st+1-2=(st-2)+1 by omega,lev,bI,aG]
    grind[u1,Y7]
theorem R42{N:Nat}(hi:inn<2^N)(hl:last<2^N):∀ k,U5 aL inn last k<2^N
 | 0=>hl
 | k+1=>iF Nat.and_le_right hi
theorem R50{b:Nat}(hb:∀ w,b.testBit w=true->inn.testBit w=true):∀ k w,(lev aL inn b k).testBit w=true->inn.testBit w=true
 | 0,w,h=>hb w h
 | k+1,w,h=>by
  grind[lev]
variable (hsym:∀ u w,(aL.getD u 0).testBit w=true->(aL.getD w 0).testBit u=true) (h32:∀ u w,(aL.getD u 0).testBit w=true->w<32)
include hsym h32
theorem B51{b last:Nat}(hb:∀ w,b.testBit w=true->inn.testBit w=true):∀(j i:Nat),(∃ y,(lev aL inn b j).testBit y=true/\(U5 aL inn last i).testBit y=true)->∃ y,b.testBit y=true/\(U5 aL inn last (i+j)).testBit y=true
 | 0,i,⟨y,h1,h2⟩=>⟨y,h1,h2⟩
 | j+1,i,⟨y,h1,h2⟩=>by
  rw[lev,bI,aG] at h1;obtain⟨u,u1,u2,u3⟩:=Y7.1 h1.1;have:=B51 hb j (i+1) ⟨u,u2,by
   rw[U5,bI,aG];exact⟨Y7.2 ⟨y,h32 _ _ u3,h2,hsym _ _ u3⟩,R50 hb j u u2⟩⟩
  grind
theorem G55{first E st:Nat}{r:Nat × Nat}(h:shG aL inn far lim k E (aL.getD first 0 &&& inn) 2=some r):aL.getD first 0 &&& U5 aL inn r.2 (r.1-1)≠0:=by
 have hb:∀ w,(aL.getD first 0 &&& inn).testBit w=true->inn.testBit w=true:=fun w hw=>by
  simp_all
 obtain⟨h1,h2,h3,h4,u,z,h5,h6,h7⟩:=K15 (b0:=aL.getD first 0 &&& inn) k E _ 2 (fun w hw=>hw) (aD _) h;obtain⟨y,y1,y2⟩:=B51 hsym h32 hb (last:=r.2) (r.1-2) 1 ⟨u,h5,by
  rw[U5,bI,aG];exact⟨Y7.2 ⟨z,h32 _ _ h7,h6,hsym _ _ h7⟩,R50 hb _ u h5⟩⟩
 rw[show 1+(r.1-2)=r.1-1 by omega] at y2;rw[bI,aG] at y1;intro e;have:(aL.getD first 0 &&& U5 aL inn r.2 (r.1-1)).testBit y=true:=by grind
 rw[e] at this;simp at this
theorem V61{E:Nat}(h:(U5 aL inn last (k+1)).testBit E=true):U5 aL inn last k &&& aL.getD E 0≠0:=by
 rw[U5,bI,aG] at h;obtain⟨u,u1,u2,u3⟩:=Y7.1 h.1;intro e;have:(U5 aL inn last k &&& aL.getD E 0).testBit u=true:=by grind
 rw[e] at this;simp at this
end
def shN(i:Nat)(r:Option (Nat × Nat))(s:Nat × (Nat->Nat)):Nat × (Nat->Nat):=match r with
 | none=>s
 | some (st,last)=>(st,fun x=>if x=i then last else if s.1=0\/st<s.1 then 0 else s.2 x)
def N14(aL:List Nat)(f i:Nat):Nat:=Z2 (Z2 (2^f-1) (aL.getD i 0)) (2^i)
def J4(aL:List Nat)(N inn f:Nat):Nat->Nat × (Nat->Nat)
 | 0=>(0,fun _=>0)
 | i+1=>shN i (shG aL inn (N14 aL f i) (J4 aL N inn f i).1 N 0 (aL.getD i 0 &&& inn) 2) (J4 aL N inn f i)
theorem E47{aL:List Nat}{N inn f:Nat}:∀(i x:Nat),(J4 aL N inn f i).2 x≠0->x<i/\∃ lim,shG aL inn (N14 aL f x) lim N 0 (aL.getD x 0 &&& inn) 2=some ((J4 aL N inn f i).1,(J4 aL N inn f i).2 x)
 | 0,x,h=>absurd rfl h
 | i+1,x,h=>by
  have ih:=E47 (aL:=aL) (N:=N) (inn:=inn) (f:=f) i x
  cases hr:shG aL inn (N14 aL f i) (J4 aL N inn f i).1 N 0 (aL.getD i 0 &&& inn) 2 with
  | none=>
   have e:J4 aL N inn f (i+1)=J4 aL N inn f i:=by rw[J4,hr];rfl
   grind
  | some r=>
   obtain⟨st,last⟩:=r;have e:J4 aL N inn f (i+1)=(st,fun x=>if x=i then last else if (J4 aL N inn f i).1=0\/st<(J4 aL N inn f i).1 then 0 else(J4 aL N inn f i).2 x):=by rw[J4,hr];rfl
   rw[e] at h ⊢;dsimp only at h ⊢
   by_cases hx:x=i
   .grind
   .rw[if_neg hx] at h ⊢
    split at h
    .exact absurd rfl h
    .rename_i h3
     obtain⟨h1,lim,h2⟩:=ih h;obtain⟨_,h4,_⟩:=K15 (b0:=aL.getD i 0 &&& inn) N 0 _ 2 (fun w hw=>hw) (aD _) hr
     grind
theorem J58{aL:List Nat}{inn last N first len:Nat}(hN:N<=6)(J:∀(u x:Nat),aL[u]? = some x->x<2^N)(hsym:∀ u w,(aL.getD u 0).testBit w=true->(aL.getD w 0).testBit u=true)(hi:inn<2^N)(E:last<2^N)(hf:first<N)(O:U5 aL inn last (len-1) &&& aL.getD first 0≠0):∀ k,k<len->Q7 aL inn last len first k<N/\U5 aL inn last (len-1-k) &&& aL.getD (Q7 aL inn last len first k) 0≠0
 | 0,_=>⟨hf,O⟩
 | k+1,hk=>by
  have Q:2^N<=64:=aK (n:=2) O0 hN;obtain⟨h1,h2⟩:=J58 hN J hsym hi E hf O k O0;have hx:U5 aL inn last (len-1-k) &&& aL.getD (Q7 aL inn last len first k) 0<2^N:=iF Nat.and_le_left (R42 hi E _);have hb:=V33 (x:=U5 aL inn last (len-1-k) &&& aL.getD (Q7 aL inn last len first k) 0) O0 O0;have hl:=B54 (x:=U5 aL inn last (len-1-k) &&& aL.getD (Q7 aL inn last len first k) 0) O0 O0 hx;rw[bI,aG] at hb;have e:len-1-k=(len-1-(k+1))+1:=O0;rw[e] at hb;have h32:∀ u w,(aL.getD u 0).testBit w=true->w<32:=fun u w h=>by
   cases hg:aL[u]? with
   | none=>simp_all
   | some x=>
    rw[aP,hg] at h;have:=R7 (J u x hg) h;omega
  refine⟨hl,?_⟩;exact V61 hsym h32 (by rw[<- e];rw[<- e] at hb;exact hb.1)
def K10(N f:Nat):Nat:=Z2 (2^N-1) (2^f-1)
def K24(aL:List Nat)(N f:Nat):Option (List Nat):=
 match (aY f).find? fun x=>decide ((J4 aL N (K10 N f) f f).2 x≠0) with
 | none=>none
 | some x=>some ((aY ((J4 aL N (K10 N f) f f).1+1)).map (Q7 aL (K10 N f) ((J4 aL N (K10 N f) f f).2 x) (J4 aL N (K10 N f) f f).1 x))
end
end Go.Clo
namespace Go.Proofs.YtoiioigihocgbaaGreatDoor
open Go.Clo
section
variable (a0 a1 a2:Value) (H:Y0) (nx:Nat) (k:EP)
def F71:Prop:=
 M12 a0 H nx fun b c d=>
 G3 (fun c d e f=>
 D10 .lss d.b (.int .i64 32) fun g=>
 K2 g (
 V4 (fun c=>
 D10 .shr a1 d.b fun g=>
 D10 .and g u1 fun g=>
 D10 .eql g u1 fun g=>
 K2 g (
 M3 b d.b (some 32) 1 fun b=>
 J1 b none e fun b=>
 D10 .or d.a b fun b=>
 c [b] e f) (
 c [d.a] e f)) (fun b e f=>
 D10 .add d.b i1 fun d=>
 c [b.a,d] e f)) (
 Rt d.a e f k)) [u0,i0] c d
def F36:Prop:=
 M12 a0 H nx fun b c d=>
 M64 none <| J3 (.map [] 0) .map c d fun c d e=>
 G3 (fun d e f g=>
 D10 .lss e.b a2 fun h=>
 K2 h (
 V4 (fun d=>
 M2 (g+10) fun g=>
 Y2 gQ 35 [a2] f g fun g h i=>
 M3 b e.b (some 32) 1 fun j=>
 J1 j none h fun l=>
 D10 .andNot g l fun g=>
 D10 .shl u1 e.b fun m=>
 D10 .andNot g m fun g=>
 wK (tB ((cE j none h l)/\(tB (cE j none f l)))) (
 M3 b e.b (some 32) 1 fun f=>
 J1 f none h fun f=>
 D10 .and f a1 fun f=>
 G3 (fun f h i j=>
 V4 (fun b=>
 D10 .neq h.c u0 fun c=>
 K3 true c (
 D10 .eql h.a i0 fun c=>
 K3 false c (
 D10 .leq h.d h.a fun c=>
 b [c] i j) (
 b [bT] i j)) (
 b [bF] i j)) (fun i j l=>
 K2 i.a (
 D10 .or h.b h.c fun i=>
 J1 b (some 32) j fun b=>
 Y2 gQ 71 [b,h.c] j l fun b j l=>
 D10 .and b g fun g=>
 D10 .neq g u0 fun m=>
 K2 m (
 V4 (fun b=>
 V4 (fun b=>
 D10 .eql h.a i0 fun c=>
 K3 false c (
 D10 .lss h.d h.a fun c=>
 b [c] j l) (
 b [bT] j l)) (fun d e f=>
 K2 d.a (
 M41 c e fun c=>
 b [h.d] c f) (
 b [h.a] e f))) (fun b f h=>
 W56 (.int .i64) c e.b g f h fun _ c e=>
 d [b.a] c e)) (
 D10 .and b a1 fun b=>
 D10 .andNot b i fun b=>
 D10 .add h.d i1 fun c=>
 f [h.a,i,b,c] j l)) (
 d [h.a] j l))) [e.a,u0,f,(.int .i64 2)] h i)) (fun b c f=>
 D10 .add e.b i1 fun e=>
 d [b.a,e] c f)) (
 Rt (.tuple ⟨[e.a,c]⟩) f g k)) [i0,i0] d e
def F26:Prop:=
 D9 (.eqn false (.slice 3)) [a0,(.slice none 0 0)] fun b=>
 K2 b (
 Rt (.slice none 0 0) H nx k) (
 D24 0 1 [.int .i64 0] [] H nx fun b c d=>
 B5 b a0 1 8 c d fun b c d=>
 Rt b c d k)
def F39:Prop:=
 M12 a0 H nx fun b c d=>
 J1 b (some 3) c fun b=>
 D5 a1 b 3 c fun b=>
 D5 a2 bT 1 b fun b=>
 Rt bF b d k
def F38:Prop:=
 M12 a0 H nx fun b c d=>
 J1 b (some 2) c fun e=>
 Y2 gQ 74 [e,a1] c d fun c d e=>
 wUn .not c fun c=>
 K2 c (
 Rt (.tuple ⟨[]⟩) d e k) (
 G29 a1 a1 [.int .u32 0] d e fun c d e=>
 G3 (fun d e f g=>
 D10 .lss e.a a1 fun h=>
 K2 h (
 J1 b (some 2) f fun b=>
 Y2 gQ 70 [b,e.a] f g fun b f g=>
 M3 c e.a none 1 fun c=>
 D5 c b 1 f fun b=>
 D10 .add e.a i1 fun c=>
 d [c] b g) (
 G3 (fun b d e f=>
 D10 .lss d.a a1 fun g=>
 K2 g (
 D10 .add d.a i1 fun g=>
 G3 (fun e f g h=>
 D10 .lss f.a a1 fun i=>
 K2 i (
 V4 (fun b=>
 U6 c d.a g fun _ e=>
 D10 .shr e f.a fun e=>
 D10 .and e u1 fun e=>
 D10 .eql e u1 fun e=>
 K2 e (
 b [] g h) (
 M2 (h+10) fun e=>
 U6 c d.a g fun h i=>
 U6 c f.a g fun c j=>
 D10 .and i j fun l=>
 wK ((tB (cE c none g j))/\(tB (tB (cE h none g i)))) (
 D10 .add f.a i1 fun c=>
 G3 (fun c e g h=>
 D10 .lss e.a a1 fun i=>
 K2 i (
 V4 (fun b=>
 D10 .shr l e.a fun c=>
 D10 .and c u1 fun c=>
 D10 .eql c u1 fun c=>
 K3 true c (
 U11 [.int .i64 0,.int .i64 0,.int .i64 0] [(0,1),(1,1),(2,1)] [(0,d.a),(1,f.a),(2,e.a)] fun c=>
 M33 gQ a2 [c] g h fun c d e=>
 wUn .not c fun c=>
 b [c] d e) (
 b [bF] g h)) (fun b d f=>
 K2 b.a (
 Rt (.tuple ⟨[]⟩) d f k) (
 D10 .add e.a i1 fun b=>
 c [b] d f))) (
 b [] g h)) [c] g e))) (fun _ b c=>
 D10 .add f.a i1 fun d=>
 e [d] b c)) (
 D10 .add d.a i1 fun c=>
 b [c] g h)) [g] e f) (
 Rt (.tuple ⟨[]⟩) e f k)) [i0] f g)) [i0] d e)
def F15:Prop:=
 M12 a0 H nx fun b c d=>
 wAl [.int .i64 0,.int .i64 0,.int .i64 0] c d fun c d e=>
 wAl [.int .i64 0,.int .i64 0,.int .i64 0] d e fun d e f=>
 wAl [.bool false] e f fun e f g=>
 D5 e bF 1 f fun f=>
 J1 b (some 2) f fun b=>
 Y2 gQ 38 [b,a1,(.func (.func 39) ⟨[]⟩ ⟨[d,e]⟩)] f g fun _ b f=>
 M2 (f+4) fun f=>
 J1 d (some 3) b fun g=>
 J1 e none b fun h=>
 D5 c g 3 b fun i=>
 wK (((cE e none i h)/\(tB (cE e none b h)))/\(tB (tA (tB (cE d (some 3) b g))))) (
 J1 c (some 3) i fun b=>
 Rt (.tuple ⟨[b,h]⟩) i f k)
def F28:Prop:=
 M12 a0 H nx fun b c d=>
 G3 (fun c d e f=>
 K7 b 0 e fun _ g=>
 D10 .lss d.a g fun g=>
 K2 g (
 K7 b 1 e fun _ b=>
 W8 .u64 d.a fun g=>
 D10 .shl u1 g fun g=>
 Y2 gQ 62 [b,g] e f fun b e f=>
 wUn .not b fun b=>
 K2 b (
 Rt bF e f k) (
 D10 .add d.a i1 fun b=>
 c [b] e f)) (
 Rt bT e f k)) [i0] c d
def F11:Prop:=
 M12 a0 H nx fun b c d=>
 J1 b (some 2) c fun e=>
 Y2 gQ 27 [e] c d fun c d e=>
 D10 .neq c i0 fun f=>
 K2 f (
 Rt c d e k) (
 V4 (fun c=>
 D10 .lss a1 i0 fun f=>
 K3 false f (
 K7 b 0 d fun _ b=>
 D10 .gtr a1 b fun b=>
 c [b] d e) (
 c [bT] d e)) (fun c d e=>
 K2 c.a (
 Rt (.int .i64 3) d e k) (
 J1 b (some 2) d fun b=>
 Y2 gQ 28 [b] d e fun b c d=>
 wUn .not b fun b=>
 K2 b (
 Rt (.int .i64 9) c d k) (
 Rt i0 c d k))))
def F25:Prop:=
 M12 a0 H nx fun b c d=>
 J1 b (some 2) c fun e=>
 Y2 gQ 27 [e] c d fun c d e=>
 D10 .neq c i0 fun f=>
 K2 f (
 Rt c d e k) (
 V4 (fun c=>
 D10 .lss a1 i0 fun f=>
 K3 false f (
 K7 b 0 d fun _ b=>
 D10 .gtr a1 b fun b=>
 c [b] d e) (
 c [bT] d e)) (fun c d e=>
 K2 c.a (
 Rt (.int .i64 3) d e k) (
 K7 b 1 d fun _ c=>
 R4 c 0 d fun f=>
 G3 (fun d e g h=>
 D10 .lss e.b f fun f=>
 K2 f (
 U6 c e.b g fun _ b=>
 D10 .or e.a b fun b=>
 D10 .add e.b i1 fun c=>
 d [b,c] g h) (
 K7 b 0 g fun _ c=>
 D10 .shl u1 c fun c=>
 D10 .sub c u1 fun c=>
 D10 .neq e.a c fun d=>
 K2 d (
 Rt (.int .i64 9) g h k) (
 M2 (h+9) fun d=>
 J1 b (some 2) g fun e=>
 D10 .shl u1 a1 fun f=>
 D10 .sub f u1 fun f=>
 D10 .andNot c f fun c=>
 Y2 gQ 43 [e,c] g d fun c d f=>
 wNm h 7 .ptr fun i=>
 E6 d (h+7) (some (.cells [.int .i64 0,.slice none 0 0] 0)) fun d=>D5 i c 2 d fun c=>
 wK (tB (tA (tA (tB (cE b (some 2) g e))))) (
 J1 i (some 2) c fun b=>
 Y2 gQ 42 [b] c f fun b c d=>
 R4 b 0 c fun e=>
 G3 (fun c d f g=>
 D10 .lss d.a e fun e=>
 K2 e (
 U6 b d.a f fun _ b=>
 Y2 gQ 44 [b] f g fun b e f=>
 D10 .gtr b (.int .i64 8) fun b=>
 K2 b (
 Rt (.int .i64 12) e f k) (
 D10 .add d.a i1 fun b=>
 c [b] e f)) (
 Rt i0 f g k)) [i0] c d)))) [u0,i0] d e)))
def F10:Prop:=
 M12 a0 H nx fun b c d=>
 wAl [.int .i64 0,.slice none 0 0,.slice none 0 0] c d fun c d e=>
 J1 b (some 2) d fun f=>
 Y2 gQ 25 [f,a1] d e fun d e f=>
 D10 .neq d i0 fun g=>
 K2 g (
 U11 [.int .i64 0,.slice none 0 0,.slice none 0 0] [(0,1),(1,1),(2,1)] [] fun b=>
 D5 c b 3 e fun b=>
 J1 c (some 3) b fun c=>
 Rt (.tuple ⟨[c,d]⟩) b f k) (
 J1 b (some 2) e fun d=>
 Y2 gQ 12 [d] e f fun d e f=>
 G9 d 0 fun g=>
 G9 d 1 fun d=>
 K2 d (
 Y2 gQ 26 [g] e f fun b d e=>
 U11 [.int .i64 0,.slice none 0 0,.slice none 0 0] [(0,1),(1,1),(2,1)] [(0,i1),(2,b)] fun b=>
 D5 c b 3 d fun b=>
 J1 c (some 3) b fun c=>
 Rt (.tuple ⟨[c,i0]⟩) b e k) (
 J1 b (some 2) e fun d=>
 Y2 gQ 14 [d,a1] e f fun d e f=>
 G9 d 0 fun g=>
 G9 d 1 fun d=>
 K2 d (
 Y2 gQ 26 [g] e f fun b d e=>
 U11 [.int .i64 0,.slice none 0 0,.slice none 0 0] [(0,1),(1,1),(2,1)] [(0,(.int .i64 2)),(2,b)] fun b=>
 D5 c b 3 d fun b=>
 J1 c (some 3) b fun c=>
 Rt (.tuple ⟨[c,i0]⟩) b e k) (
 J1 b (some 2) e fun d=>
 Y2 gQ 15 [d,a1] e f fun d e f=>
 G9 d 0 fun g=>
 G9 d 1 fun d=>
 wAl [.int .i64 0,.int .i64 0,.int .i64 0] e f fun e f h=>
 D5 e g 3 f fun f=>
 K2 d (
 D90 e 3 1 none none none fun b=>
 Y2 gQ 26 [b] f h fun b d e=>
 U11 [.int .i64 0,.slice none 0 0,.slice none 0 0] [(0,1),(1,1),(2,1)] [(0,(.int .i64 3)),(2,b)] fun b=>
 D5 c b 3 d fun b=>
 J1 c (some 3) b fun c=>
 Rt (.tuple ⟨[c,i0]⟩) b e k) (
 J1 b (some 2) f fun b=>
 Y2 gQ 16 [b,a1] f h fun b d e=>
 G9 b 0 fun f=>
 G9 b 1 fun g=>
 G9 b 2 fun b=>
 wAl zR d e fun d e h=>
 D5 d g 3 e fun d=>
 D10 .neq b i0 fun e=>
 K2 e (
 U11 [.int .i64 0,.slice none 0 0,.slice none 0 0] [(0,1),(1,1),(2,1)] [] fun e=>
 D5 c e 3 d fun d=>
 J1 c (some 3) d fun c=>
 Rt (.tuple ⟨[c,b]⟩) d h k) (
 U11 [.int .i64 0,.slice none 0 0,.slice none 0 0] [(0,1),(1,1),(2,1)] [(0,i0),(1,f)] fun b=>
 D5 c b 3 d fun b=>
 J1 c (some 3) b fun c=>
 Rt (.tuple ⟨[c,i0]⟩) b h k)))))
def F14:Prop:=
 M12 a0 H nx fun b c d=>
 J1 b (some 2) c fun e=>
 Y2 gQ 33 [e,a1] c d fun c d e=>
 D10 .neq c i0 fun c=>
 K2 c (
 Rt (.tuple ⟨[(.slice none 0 0),bF]⟩) d e k) (
 J1 b (some 2) d fun c=>
 Y2 gQ 34 [c] d e fun c d e=>
 wAl z32 d e fun d e f=>
 D5 d c 32 e fun c=>
 K7 b 0 c fun _ b=>
 Y2 gQ 35 [b] c f fun b c e=>
 Y2 gQ 35 [a1] c e fun c e f=>
 D10 .andNot b c fun b=>
 J1 d (some 32) e fun c=>
 Y2 gQ 36 [c,b,a1] e f fun c e f=>
 G9 c 0 fun g=>
 G9 c 1 fun c=>
 G3 (fun e f h i=>
 D10 .lss f.a a1 fun j=>
 K2 j (
 wLk (.int .i64) u0 c f.a false h fun j=>
 D10 .neq j u0 fun j=>
 K2 j (
 J1 d (some 32) h fun d=>
 wLk (.int .i64) u0 c f.a false h fun c=>
 Y2 gQ 37 [d,b,f.a,c,g] h i fun b c d=>
 Rt (.tuple ⟨[b,bT]⟩) c d k) (
 D10 .add f.a i1 fun b=>
 e [b] h i)) (
 Rt (.tuple ⟨[(.slice none 0 0),bF]⟩) h i k)) [i0] e f)
variable {a0 a1 a2 H nx k}
theorem spec71:F71 a0 a1 H nx k->Q2 gQ 71 [a0,a1] H nx k:=Q12 [(6,[5])] [[5,7]] []
theorem spec36:F36 a0 a1 a2 H nx k->Q2 gQ 36 [a0,a1,a2] H nx k:=Q12 [(7,[8]),(14,[46]),(21,[8]),(22,[66])] [[8,19],[8,12,13,14]] [.one (.tst (.tst (.one (.one .nil)) (.one (.one .nil))) (.one (.one (.one .nil)))),.one (.tst (.one .nil) (.one .nil))]
theorem spec26:F26 a0 H nx k->Q2 gQ 26 [a0] H nx k:=Q12 [] [] []
theorem spec39:F39 a0 a1 a2 H nx k->Q2 gQ 39 [a0,a1,a2] H nx k:=Q12 [] [] []
theorem spec38:F38 a0 a1 a2 H nx k->Q2 gQ 38 [a0,a1,a2] H nx k:=Q12 [(18,[]),(26,[77])] [[19],[30],[9],[11]] [.one (.tst (.one .nil) (.one .nil))]
theorem spec15:F15 a0 a1 H nx k->Q2 gQ 15 [a0,a1] H nx k:=Q12 [] [] []
theorem spec28:F28 a0 H nx k->Q2 gQ 28 [a0] H nx k:=Q12 [] [[3]] []
theorem spec11:F11 a0 a1 H nx k->Q2 gQ 11 [a0,a1] H nx k:=Q12 [(6,[18])] [] [.one (.tst (.one .nil) (.one .nil))]
theorem spec25:F25 a0 a1 H nx k->Q2 gQ 25 [a0,a1] H nx k:=Q12 [(6,[25])] [[6,29],[54]] [.one (.tst (.one .nil) (.one .nil))]
theorem spec10:F10 a0 a1 H nx k->Q2 gQ 10 [a0,a1] H nx k:=Q12 [] [] []
theorem spec14:F14 a0 a1 H nx k->Q2 gQ 14 [a0,a1] H nx k:=Q12 [] [[31]] []
end
def Y64:Code->Code
 | .seq a _=>a
 | c=>c
def J62:Code->Code
 | .seq _ b=>b
 | c=>c
def cw:Code:=Tryz.f37.body.getD .skip
def q0:Code:=Y64 cw
def q1:Code:=Y64 (J62 cw)
def q2:Code:=Y64 (J62 (J62 cw))
def mkC(c:Code)(ls:List (List Nat)):D:=match R18 gQ 58 c with
 | some c=>V12 c 0 [] ls [] fun d _ _ _ _=>d
 | none => .skip
def b0:D:=mkC q0 []
def b1:D:=mkC q1 []
def b2:D:=mkC q2 [[11,20]]
theorem c0:R18 gQ 58 q0=some b0.erase:=by kernel_rfl
theorem c1:R18 gQ 58 q1=some b1.erase:=by kernel_rfl
theorem c2:R18 gQ 58 q2=some b2.erase:=by kernel_rfl
theorem o0:b0.ok 58 6=true:=by kernel_rfl
theorem o1:b1.ok 58 6=true:=by kernel_rfl
theorem o2:b2.ok 58 6=true:=by kernel_rfl
def F37(a0 a1 a2 a3 a4:Value)(H:Y0)(nx:Nat)(k:EP):Prop:=
 E5 a0 fun t1=>J3 (.cells t1 0) .ptr H nx fun t2 H1 ac=>
 K6 1 1 [.int .u32 0] [(0,a3)] fun t3=>J3 (.cells t3 0) (.slice 1 1) H1 ac fun t4 H2 nx2=>
 D10 .sub a4 (.int .i64 1) fun t5=>
 G3 (fun t6 t7 H3 E=>
 D10 .lss (t7.getD 1 undef) t5 fun t8=>
 K2 t8 (
 M2 (E+14) fun a6=>
 J1 t2 (some 32) H3 fun t9=>
 R4 (t7.getD 0 undef) 0 H3 fun O=>
 D10 .sub O (.int .i64 1) fun a7=>
 M3 (t7.getD 0 undef) a7 none 1 fun Q=>
 J1 Q none H3 fun J=>
 Y2 gQ 71 [t9,J] H3 a6 fun Z H5 ag=>
 D10 .and Z a1 fun aa=>
 K6 1 1 [.int .u32 0] [(0,aa)] fun a8=>wNm E 11 (.slice 1 1) fun a9=>
 E6 H5 (E+11) (some (.cells a8 0)) fun H6=>B5 (t7.getD 0 undef) a9 1 4 H6 ag fun ad H7 U=>
 (((((True)/\((True)/\((J1 Q none H3 fun W=>W=J)/\True)))/\(((True)/\((True)/\((R4 (t7.getD 0 undef) 0 H3 fun a5=>a5=O)/\True)))/\(((True)/\((True)/\((J1 t2 (some 32) H3 fun V=>V=t9)/\True)))/\True))))/\(
 D10 .add (t7.getD 1 undef) (.int .i64 1) fun ab=>
 t6 [ad,ab] H7 U))\/False) (
 M0 (.tuple ⟨[t2,(t7.getD 0 undef),a2]⟩) fun ae=>k ae H3 E)) [t4,(.int .i64 0)] H2 nx2
def R61:List (X × Option (Option Nat)):=[(.s 5,none),(.s 11,none),(.s 2,none)]
theorem e37(a0 a1 a2 a3 a4:Value)(H:Y0)(nx:Nat)(k:EP):J27 6 [a0,a1,a2,a3,a4] 0 .leaf (fun T=>wD gQ 6 b0 T H nx (fun T H nx=>wD gQ 6 b1 T H nx (fun T H nx=>wD gQ 6 b2 T H nx (G14 gQ R61 False k) (fun _ _ _ _=>False) (fun _ _ _=>False)) (fun _ _ _ _=>False) (fun _ _ _=>False)) (fun _ _ _ _=>False) (fun _ _ _=>False))=F37 a0 a1 a2 a3 a4 H nx k:=by kernel_rfl
end Go.Proofs.YtoiioigihocgbaaGreatDoor
namespace Go.Clo
theorem B47{P:Program}{n d:Nat}(hm:P.follows .mixedOrders=true)(hn:n<=2^d){G6:Code}{c:D}(hc:R18 P n G6=some c.erase)(O:c.ok n d=true){T:K0 Value}{H:Y0}{nx:Nat}(hw:WF d T){k:K Prop}(h:wD P d c T H nx k (fun _ _ _ _=>False) (fun _ _ _=>False)):∃ T' H' nx',k T' H' nx'/\WF d T'/\R47 P d n G6 T H nx .n T' H' nx':=by
 obtain⟨o,T',H',nx',h1,J,_,E⟩:=W45 hm hn G6 c hc O T H nx k _ _ hw h
 cases o with
 | n=>exact⟨T',H',nx',h1,J,E⟩
 | x id=>exact h1.elim
 | r=>exact h1.elim
end Go.Clo
namespace Go.Proofs.YtoiioigihocgbaaGreatDoor
open Go.Clo
section
variable {aL:List Nat} {N:Nat} (hN:N<=6) (hL:NbL aL N)
include hN hL
theorem Z35 {b:Nat} (hb:b<4294967296) (H:Y0) (nx:Nat):Q2 Tryz.prog 71 [.agg ⟨K12 aL⟩,.int .u32 (b:Int)] H nx fun r H' nx'=>r = .int .u32 (Q4 aL b 32:Int)/\D0 H nx H' nx':=by
 have hp64:2^N<=64:=Nat.pow_le_pow_right (n:=2) (by omega) hN
 refine spec71 ?_
 unfold F71
 have hE1:D0 H nx (hs H nx (some (.cells (K12 aL) 0))) (nx+1):=(D0.refl H nx).new _ (Nat.le_refl _) (by omega)
 have g1:J0 (hs H nx (some (.cells (K12 aL) 0))) nx=some (.cells (K12 aL) 0):=Z11 _ _ _
 simp (disch:=first | omega | assumption | exact G0 (by assumption) | exact U10 (by assumption) | exact X0 (by omega) | fail   ) only[W0,Q0.val,W5 aL]
 generalize hs H nx (some (.cells (K12 aL) 0))=H1 at *
 refine B1 (m:=32) (fun q L H' nx'=>∃ (j:Nat),q+j=32/\L=[.int .u32 (Q4 aL b j:Int),.int .i64 (j:Int)]/\H1=H'/\nx+1=nx') ?_ ⟨0,by omega,rfl,rfl,rfl⟩
 rintro q ih7 L _ _ ⟨j,hq,rfl,rfl,rfl⟩ hih7
 have hnl:=Z14 (b:=b) hL.lt
 by_cases hj:j<32
 case neg=>
  obtain rfl:j=32:=by omega
  simp (disch:=first | omega | assumption | exact G0 (by assumption) | exact U10 (by assumption) | exact X0 (by omega) | fail  ) only[W0]
  exact hE1
 have hj':(j:Int)<32:=by omega
 obtain⟨x,hx,hx2,hxD⟩:=hL.at (u:=j) hj
 have hx32:x<4294967296:=by omega
 have hnj:=hnl j
 have hn32:Q4 aL b j<4294967296:=by omega
 have gx:=Q3 hx
 have hstep:Q4 aL b (j+1)=if b.testBit j=true then Q4 aL b j ||| aL.getD j 0 else Q4 aL b j:=rfl
 rw[hxD] at hstep
 cases hbj:b.testBit j with
 | false=>
  rw[hbj,if_neg (by simp)] at hstep
  simp (disch:=first|omega|assumption|exact G0 (by assumption)|exact U10 (by assumption)|exact X0 (by omega)|fail) only[W0,hj',N13,hbj]
  exact hih7 (q-1) _ _ _ (by omega) ⟨j+1,by omega,by rw[hstep];try simp,rfl,rfl⟩
 | true=>
  rw[hbj,if_pos rfl] at hstep
  simp (disch:=first|omega|assumption|exact G0 (by assumption)|exact U10 (by assumption)|exact X0 (by omega)|fail) only[W0,hj',N13,hbj,g1,gx]
  exact hih7 (q-1) _ _ _ (by omega) ⟨j+1,by omega,by rw[hstep];try simp,rfl,rfl⟩
def C12(aL:List Nat)(inn last len:Nat):List Nat:=(aY len).map (U5 aL inn last)
omit hN hL in
theorem G45(inn last len:Nat):(C12 aL inn last len).length=len:=by simp[C12]
omit hN hL in
theorem G44{inn last len i:Nat}(h:i<len):(C12 aL inn last len)[i]? = some (U5 aL inn last i):=by simp[C12,h]
omit hN hL in
theorem J57(inn last len:Nat):C12 aL inn last (len+1)=C12 aL inn last len++[U5 aL inn last len]:=by simp[C12,List.range_succ]
theorem J59{inn last first len:Nat}(hi:inn<2^N)(a3:last<2^N)(hf:first<100)(h1:1<=len)(aa:len<=100)(H:Y0)(nx:Nat):
  F37 (.agg ⟨K12 aL⟩) (O9 (inn:Int)) (O8 (first:Int)) (O9 (last:Int)) (O8 (len:Int)) H nx fun v H' nx'=>
   ∃ S s,v = .tuple ⟨[.pointer (some ⟨nx,0,none⟩),.slice (some ⟨S,0,none⟩) len len,O8 (first:Int)]⟩/\J0 H' nx=O7 (K12 aL)/\J0 H' S=some (.cells (K12 (C12 aL inn last len)) s)/\nx<nx'/\S<nx':=by
 have a8:2^N<=64:=aK (n:=2) O0 hN;have a4:=M44 hN hL;unfold F37;have J:∀(x:Int) k,K6 1 1 [O9 0] [(0,O9 x)] k=k [O9 x]:=fun x k=>rfl
 simp(disch:=omega)only[W0,Q0.val,W5 aL,J];have g1:J0 (hs (hs H nx (O7 (K12 aL))) (nx+1) (O7 [O9 (last:Int)])) nx=O7 (K12 aL):=by rw[gN _,Z11]
 have g2:J0 (hs (hs H nx (O7 (K12 aL))) (nx+1) (O7 [O9 (last:Int)])) (nx+1)=O7 [O9 (last:Int)]:=Z11 _ _ _;generalize hs (hs H nx (O7 (K12 aL))) (nx+1) (O7 [O9 (last:Int)])=H1 at *
 refine B1 (m:=len-1) (fun m L' H' nx'=>∃(i S s:Nat),m+i+1=len/\L'=[.slice (some ⟨S,0,none⟩) (i+1) (i+1),O8 (i:Int)]/\J0 H' nx=O7 (K12 aL)/\J0 H' S=some (.cells (K12 (C12 aL inn last (i+1))) s)/\(s=0\/s=1)/\nx<nx'/\S<nx'/\S≠nx) ?_
  ⟨0,nx+1,0,O0,rfl,g1,by rw[g2];rfl,.inl rfl,O0,O0,O0⟩
 rintro m ih L1 H2 n2 ⟨i,S,s,hm,rfl,k1,k2,hs',a7,Q,ad⟩ a5;have W:=G45 (aL:=aL) inn last (i+1)
 by_cases ah:i+1<len
 case neg=>
  obtain rfl:len=i+1:=O0;have E:¬ (i:Int)<((i+1:Nat):Int)-1:=O0;simp only[W0,E];exact⟨S,s,rfl,k1,k2,a7,Q⟩
 have E:(i:Int)<(len:Int)-1:=O0;have q0:=Q3 (G44 (aL:=aL) (inn:=inn) (last:=last) (show i<i+1 by omega));have e1:(((i+1:Nat):Int)-1).toNat=i:=O0;have ag:U5 aL inn last i<2^N:=R42 hi a3 i;have a9:=Z14 (b:=U5 aL inn last i) hL.lt 32;have ae:Q4 aL (U5 aL inn last i) 32<4294967296:=O0;have ac:inn<4294967296:=O0;simp(config:={ maxSteps:=2000000 }) (disch:=omega)only[W0,E,k1,k2,q0,e1,M18 a4];refine R0 (Z35 hN hL O0 H2 (n2+14)) ?_;rintro _ H3 n3 ⟨rfl,h3⟩;have ab:=h3.le;have a1:=(h3.gt nx).trans k1;have a6:=(h3.gt S).trans k2;simp(config:={ maxSteps:=2000000 }) (disch:=omega)only[W0,J];have es:Q4 aL (U5 aL inn last i) 32 &&& inn=U5 aL inn last (i+1):=rfl;rw[es];have g5:J0 (hs H3 (n2+11) (O7 [O9 (U5 aL inn last (i+1):Int)])) (n2+11)=O7 [O9 (U5 aL inn last (i+1):Int)]:=Z11 _ _ _;have Z:J0 (hs H3 (n2+11) (O7 [O9 (U5 aL inn last (i+1):Int)])) nx=O7 (K12 aL):=by rw[gN _];exact a1
 have a0:J0 (hs H3 (n2+11) (O7 [O9 (U5 aL inn last (i+1):Int)])) S=some (.cells (K12 (C12 aL inn last (i+1))) s):=by rw[gN _];exact a6
 generalize hs H3 (n2+11) (O7 [O9 (U5 aL inn last (i+1):Int)])=H5 at *
 have O:(K12 (C12 aL inn last (i+1))).length=i+1:=by rw[E1,W]
 have V:∀ kk:EP,(∀ H',J0 H' n3=some (.cells (K12 (C12 aL inn last (i+1+1))) 1)->(∀ j,j≠n3->j≠S->J0 H' j=J0 H5 j)->kk (.slice (some ⟨n3,0,none⟩) (i+1+1) (i+1+1)) H' (n3+1)) ->
   B5 (.slice (some ⟨S,0,none⟩) (i+1) (i+1)) (.slice (some ⟨n2+11,0,none⟩) 1 1) 1 4 H5 n3 kk:=fun kk U=>by
  have:=Q64 (nx:=n3) (k:=kk) (bytes:=4) a0 hs' O0 (J9 (cap:=1) g5 rfl O0) rfl O0 O0 (fun H' q1 q2=>by
   rw[O];exact U H' (by rw[q1,J57 inn last (i+1),Y22];rfl) q2)
  rwa [O] at this
 refine V _ ?_;intro H7 g7 f7;have a2:=(f7 nx O0 O0).trans Z;exact a5 (m-1) _ _ _ O0 ⟨i+1,n3,1,O0,O2,a2,g7,.inr rfl,O0,O0,O0⟩
end
section
open Go.RowKit Go.Shelf
theorem R70(a:Array Value)(h:a.size=58):∃ x0 x1 x2 x3 x4 x5 x6 x7 x8 x9 a7 a1 a5 ab au aa b8 ah bf a4 an W a0 ad aw a3 a2 a6 ae Z az ap J bc aq ay bg V aj a9 al E bd b5 U Q ao ai ax ak b4 b3 a8 ac av O ba ag,a = #[x0,x1,x2,x3,x4,x5,x6,x7,x8,x9,a7,a1,a5,ab,au,aa,b8,ah,bf,a4,an,W,a0,ad,aw,a3,a2,a6,ae,Z,az,ap,J,bc,aq,ay,bg,V,aj,a9,al,E,bd,b5,U,Q,ao,ai,ax,ak,b4,b3,a8,ac,av,O,ba,ag]:=by
 obtain⟨l⟩:=a;simp only[List.size_toArray] at h;obtain _ | ⟨x0,l⟩:=l
 .simp at h
 obtain _ | ⟨x1,l⟩:=l
 .simp at h
 obtain _ | ⟨x2,l⟩:=l
 .simp at h
 obtain _ | ⟨x3,l⟩:=l
 .simp at h
 obtain _ | ⟨x4,l⟩:=l
 .simp at h
 obtain _ | ⟨x5,l⟩:=l
 .simp at h
 obtain _ | ⟨x6,l⟩:=l
 .simp at h
 obtain _ | ⟨x7,l⟩:=l
 .simp at h
 obtain _ | ⟨x8,l⟩:=l
 .simp at h
 obtain _ | ⟨x9,l⟩:=l
 .simp at h
 obtain _ | ⟨a7,l⟩:=l
 .simp at h
 obtain _ | ⟨a1,l⟩:=l
 .simp at h
 obtain _ | ⟨a5,l⟩:=l
 .simp at h
 obtain _ | ⟨ab,l⟩:=l
 .simp at h
 obtain _ | ⟨au,l⟩:=l
 .simp at h
 obtain _ | ⟨aa,l⟩:=l
 .simp at h
 obtain _ | ⟨b8,l⟩:=l
 .simp at h
 obtain _ | ⟨ah,l⟩:=l
 .simp at h
 obtain _ | ⟨bf,l⟩:=l
 .simp at h
 obtain _ | ⟨a4,l⟩:=l
 .simp at h
 obtain _ | ⟨an,l⟩:=l
 .simp at h
 obtain _ | ⟨W,l⟩:=l
 .simp at h
 obtain _ | ⟨a0,l⟩:=l
 .simp at h
 obtain _ | ⟨ad,l⟩:=l
 .simp at h
 obtain _ | ⟨aw,l⟩:=l
 .simp at h
 obtain _ | ⟨a3,l⟩:=l
 .simp at h
 obtain _ | ⟨a2,l⟩:=l
 .simp at h
 obtain _ | ⟨a6,l⟩:=l
 .simp at h
 obtain _ | ⟨ae,l⟩:=l
 .simp at h
 obtain _ | ⟨Z,l⟩:=l
 .simp at h
 obtain _ | ⟨az,l⟩:=l
 .simp at h
 obtain _ | ⟨ap,l⟩:=l
 .simp at h
 obtain _ | ⟨J,l⟩:=l
 .simp at h
 obtain _ | ⟨bc,l⟩:=l
 .simp at h
 obtain _ | ⟨aq,l⟩:=l
 .simp at h
 obtain _ | ⟨ay,l⟩:=l
 .simp at h
 obtain _ | ⟨bg,l⟩:=l
 .simp at h
 obtain _ | ⟨V,l⟩:=l
 .simp at h
 obtain _ | ⟨aj,l⟩:=l
 .simp at h
 obtain _ | ⟨a9,l⟩:=l
 .simp at h
 obtain _ | ⟨al,l⟩:=l
 .simp at h
 obtain _ | ⟨E,l⟩:=l
 .simp at h
 obtain _ | ⟨bd,l⟩:=l
 .simp at h
 obtain _ | ⟨b5,l⟩:=l
 .simp at h
 obtain _ | ⟨U,l⟩:=l
 .simp at h
 obtain _ | ⟨Q,l⟩:=l
 .simp at h
 obtain _ | ⟨ao,l⟩:=l
 .simp at h
 obtain _ | ⟨ai,l⟩:=l
 .simp at h
 obtain _ | ⟨ax,l⟩:=l
 .simp at h
 obtain _ | ⟨ak,l⟩:=l
 .simp at h
 obtain _ | ⟨b4,l⟩:=l
 .simp at h
 obtain _ | ⟨b3,l⟩:=l
 .simp at h
 obtain _ | ⟨a8,l⟩:=l
 .simp at h
 obtain _ | ⟨ac,l⟩:=l
 .simp at h
 obtain _ | ⟨av,l⟩:=l
 .simp at h
 obtain _ | ⟨O,l⟩:=l
 .simp at h
 obtain _ | ⟨ba,l⟩:=l
 .simp at h
 obtain _ | ⟨ag,l⟩:=l
 .simp at h
 obtain _ | ⟨y,l⟩:=l
 .exact⟨x0,x1,x2,x3,x4,x5,x6,x7,x8,x9,a7,a1,a5,ab,au,aa,b8,ah,bf,a4,an,W,a0,ad,aw,a3,a2,a6,ae,Z,az,ap,J,bc,aq,ay,bg,V,aj,a9,al,E,bd,b5,U,Q,ao,ai,ax,ak,b4,b3,a8,ac,av,O,ba,ag,rfl⟩
 .simp at h
def Z8(aL:List Nat)(inn first last len:Nat):List Value:=[.agg ⟨K12 aL⟩,.int .u32 (inn:Int),.int .i64 (first:Int),.int .u32 (last:Int),.int .i64 (len:Int)]
theorem J25:∀ l:List Nat,(K12 l).all M4=true
 | []=>rfl
 | x :: l=>J25 l
theorem V64{aL:List Nat}{N:Nat}(hN:N<=6)(hL:NbL aL N){inn last first len:Nat}(hi:inn<2^N)(W:last<2^N)(hf:first<100)(h1:1<=len)(E:len<=100)(w:World)(hg:GlW w)(Q:Exit->Act->World->Prop)(rest:Code)(hk:∀(a:Act) (w':World) (B0 o0 S os cs:Nat),a.defers=[]->a.tmps.size=58->a.tmps.getD 2 undef=O8 (first:Int)->a.tmps.getD 5 undef = .pointer (some ⟨B0,o0,none⟩)->a.tmps.getD 11 undef = .slice (some ⟨S,os,none⟩) len cs ->
   (∀ u x:Nat,aL[u]? = some x->w'.cell? ⟨B0,o0+u,none⟩=some (O9 (x:Int)))->(∀ i,i<len->w'.cell? ⟨S,os+i,none⟩=some (O9 (U5 aL inn last i:Int)))->GlW w'->RowKit.Below w.heap.size w w' ->
   B0<w'.heap.size->S<w'.heap.size->rest.wpIn Fence.wide 5 gQ Q a w'):
  (Code.seq q0 (.seq q1 (.seq q2 rest))).wpIn Fence.wide 5 gQ Q { tmps:=(Z8 aL inn first last len).toArray++fN (58-(Z8 aL inn first last len).toArray.size) undef,defers:=[] } w:=by
 have U:=J59 hN hL hi W hf h1 E .leaf 0;rw[<- e37,Z24] at U;have hn:58<=2^6:=by decide
 have Z:(Z8 aL inn first last len).length<=58:=by show 5<=58;decide
 have wl:WF 6 (.leaf:K0 Value):=trivial;have w0:WF 6 (R17 6 (Z8 aL inn first last len) 0 .leaf):=Y19 6 _ 0 .leaf wl;obtain⟨T1,H1,n1,r1,w1,k1⟩:=B47 mixed hn c0 o0 w0 U;obtain⟨T2,H2,n2,r2,w2,k2⟩:=B47 mixed hn c1 o1 w1 r1;obtain⟨T3,H3,n3,r3,w3,k3⟩:=B47 mixed hn c2 o2 w2 r2;have er:G14 gQ R61 False (fun v H' nx'=>∃ S s,v = .tuple ⟨[.pointer (some ⟨0,0,none⟩),.slice (some ⟨S,0,none⟩) len len,O8 (first:Int)]⟩/\J0 H' 0=O7 (K12 aL)/\J0 H' S=some (.cells (K12 (C12 aL inn last len)) s)/\0<nx'/\S<nx') T3 H3 n3 =
   ∃ S s,Value.tuple ⟨[(tg T3 5).getD undef,(tg T3 11).getD undef,(tg T3 2).getD undef]⟩ = .tuple ⟨[.pointer (some ⟨0,0,none⟩),.slice (some ⟨S,0,none⟩) len len,O8 (first:Int)]⟩/\J0 H3 0=O7 (K12 aL)/\J0 H3 S=some (.cells (K12 (C12 aL inn last len)) s)/\0<n3/\S<n3:=by
  unfold G14 R61;simp only[W24,G2,Y5];have es:∀ i,ev T3 (.s i)=(tg T3 i).getD undef:=fun i=>by
   show tgK T3 i (id undef) id=_;rw[J11];cases tg T3 i<;>rfl
  rw[es,es,es]
  rfl
 rw[er] at r3;obtain⟨S,s,et,g0,gS,a6,a5⟩:=r3;simp only[Value.tuple.injEq,Array.mk.injEq,fM,and_true] at et;obtain⟨f5,a4,f2⟩:=et;have V:VL (fun _=>none) (Z8 aL inn first last len) (Z8 aL inn first last len) := .cons (VR.agg' (J10 _ _ (J25 aL))) (.cons (.int _ _) (.cons (.int _ _) (.cons (.int _ _) (.cons (.int _ _) .nil))));refine wpIn_seq (wpIn_wide.2 (k1 (fun _=>none) _ w _ (W32 V hn Z) (In.start w hg).hr fun F1 a1 W1 t1 p1 d1 => ?_));refine wpIn_seq (wpIn_wide.2 (k2 F1 a1 W1 _ t1 p1.hr fun F2 a2 W2 t2 p2 d2 => ?_));refine wpIn_seq (wpIn_wide.2 (k3 F2 a2 W2 _ t2 p2.hr fun F3 a3 W3 t3 p3 d3 => ?_));have p:=(p1.trans p2).trans p3;have v2:=t3.get 2 (by decide);have v5:=t3.get 5 (by decide);have J:=t3.get 11 (by decide);rw[f2] at v2;rw[f5] at v5;rw[a4] at J;obtain⟨_,t,hF,e5⟩:=v5.ptr_inv;obtain⟨_,tt,cc,O,a0,_⟩:=J.slice_inv;have S0:Sl H3 n3 (some ⟨0,0,none⟩) (K12 aL):=fun i u hu=>⟨0,0,K12 aL,rfl,a6,by simp[Q5,g0,V3.row],by simpa using hu⟩
 have S1:Sl H3 n3 (some ⟨S,0,none⟩) (K12 (C12 aL inn last len)):=fun i u hu=>⟨S,0,K12 (C12 aL inn last len),rfl,a5,by simp[Q5,gS,V3.row],by simpa using hu⟩
 have hb:RowKit.Below w.heap.size w W3:=⟨p.os,p.tape,p.output,p.size,fun b hb=>p.frame b hb fun⟨i,_,_,hi,_⟩=>by simp at hi⟩
 refine hk a3 W3 t.blk (t.base+0) tt.blk (tt.base+0) cc (by rw[d3,d2,d1]) t3.size ?_ e5 a0 (fun u x hx => ?_) (fun i hi => ?_) p3.hr.gl.1 hb (W40 p3.hr hF S0 (by rw[E1,hL.len];decide)) (W40 p3.hr O S1 (by rw[E1,G45];omega))
 .generalize a3.tmps.getD 2 undef=z at v2
  cases v2;rfl
 .obtain⟨v0,c0,r0⟩:=U23 p3.hr hF S0 (Q3 hx)
  cases r0;exact c0
 .obtain⟨v0,c0,r0⟩:=U23 p3.hr O S1 (Q3 (G44 hi))
  cases r0;exact c0
end
end Go.Proofs.YtoiioigihocgbaaGreatDoor
namespace Go.Clo
section
variable {A:Nat->Nat->Prop} {P Q:Nat->Prop} {u v w:Nat}
inductive V9 (A:Nat->Nat->Prop) (P:Nat->Prop):Nat->Nat->Prop
 | one {u w:Nat}:A u w->V9 A P u w
 | more {u x w:Nat}:A u x->P x->V9 A P x w->V9 A P u w
theorem V9.mono(h:∀ x,P x->Q x)(r:V9 A P u w):V9 A Q u w:=by
 induction r with
 | one h1=>exact .one h1
 | more h1 h2 _ ih=>exact .more h1 (h _ h2) ih
theorem V9.trans{x:Nat}(r:V9 A P u x)(hx:P x)(s:V9 A P x w):V9 A P u w:=by
 induction r with
 | one h1=>exact .more h1 hx s
 | more h1 h2 _ ih=>exact .more h1 h2 (ih hx s)
theorem V9.symm(hA:∀ a b,A a b->A b a)(r:V9 A P u w):V9 A P w u:=by
 induction r with
 | one h1=>exact .one (hA _ _ h1)
 | more h1 h2 _ ih=>exact ih.trans h2 (.one (hA _ _ h1))
theorem V9.split(h:∀ x,Q x->P x\/x=v)(r:V9 A Q u w):V9 A P u w\/(V9 A P u v/\V9 A P v w):=by
 induction r with
 | one h1=>exact .inl (.one h1)
 | @more a x b h1 h2 _ ih=>
  rcases h x h2 with hx | rfl
  .rcases ih with ih | ⟨i1,i2⟩
   .exact .inl (.more h1 hx ih)
   .exact .inr ⟨.more h1 hx i1,i2⟩
  .rcases ih with ih | ⟨i1,i2⟩
   .exact .inr ⟨.one h1,ih⟩
   .exact .inr ⟨.one h1,i2⟩
theorem V9.join(hA:∀ a b,A a b->A b a)(h:∀ x,P x->Q x)(hv:Q v)(r:V9 A P v u)(s:V9 A P v w):V9 A Q u w:=
 ((r.symm hA).mono h).trans hv (s.mono h)
end
def N10(es:List Nat)(a b:Nat):Prop:=a≠b/\∃ e ∈ es,e.testBit a=true/\e.testBit b=true
theorem N10.symm{es:List Nat}{a b:Nat}(h:N10 es a b):N10 es b a:=⟨h.1.symm,by obtain⟨e,h1,h2,h3⟩:=h.2;exact⟨e,h1,h3,h2⟩⟩
def Q21(es:List Nat)(v:Nat):Prop:=∃ e ∈ es,e.testBit v=true
theorem N10.cov{es:List Nat}{a b:Nat}(h:N10 es a b):Q21 es a:=by obtain⟨e,h1,h2,h3⟩:=h.2;exact⟨e,h1,h2⟩
def PEl(es:List Nat):List Nat->Prop
 | []=>True
 | v :: r=>(Q21 es v->∃ e ∈ es,e.testBit v=true/\∀ w ∈ r,N10 es v w->e.testBit w=true)/\PEl es r
def PE(es:List Nat):Prop:=∃ l:List Nat,(∀ v,Q21 es v->v ∈ l)/\PEl es l
theorem PEl.at{es:List Nat}:∀ {p1 p2:List Nat} {v:Nat},PEl es (p1++v :: p2)->Q21 es v->∃ e ∈ es,e.testBit v=true/\∀ w ∈ p2,N10 es v w->e.testBit w=true
 | [],_,_,h,hc=>h.1 hc
 | _ :: p1,_,_,h,hc=>PEl.at (p1:=p1) h.2 hc
theorem PEl.of_at{es:List Nat}:∀ {l:List Nat},(∀ p1 v p2,l=p1++v :: p2->Q21 es v->∃ e ∈ es,e.testBit v=true/\∀ w ∈ p2,N10 es v w->e.testBit w=true)->PEl es l
 | [],_=>trivial
 | v :: r,h=>⟨h [] v r rfl,PEl.of_at fun p1 u p2 e=>h (v :: p1) u p2 (by rw[e];rfl)⟩
section
variable {L:List Nat} {e x x' v:Nat} (hx:L[e]? = some x) (hv:x.testBit v=true) (hu:∀(i z:Nat),L[i]? = some z->z.testBit v=true->i=e) (hx':∀ w,x'.testBit w=true<->x.testBit w=true/\w≠v)
include hx hv hu hx'
end
theorem Z51{es:List Nat}:∀ {l:List Nat},PEl es l->∀ {Q:Nat->Prop},(∀ q,Q q->q ∈ l)->(∃ q,Q q)->(∀ q,Q q->Q21 es q)->(∀ a b,Q a->Q b->a≠b->N10 es a b)->∃ e ∈ es,∀ q,Q q->e.testBit q=true
 | [],_,Q,h1,⟨q,hq⟩,_,_=>absurd (h1 q hq) O2
 | v :: r,g,Q,h1,hx,hc,h2=>by
  by_cases hv:Q v
  .obtain⟨e,g1,g2,g3⟩:=g.1 (hc v hv)
   grind
  .refine Z51 g.2 (fun q hq => ?_) hx hc h2
   grind
def Sim(A:Nat->Nat->Prop)(W:List Nat)(v:Nat):Prop:=∀ a ∈ W,∀ b ∈ W,a≠b->A v a->A v b->A a b
def PEO(A:Nat->Nat->Prop):List Nat->Prop
 | []=>True
 | v :: r=>Sim A r v/\PEO A r
theorem PEO.filter{A:Nat->Nat->Prop}(p:Nat->Bool):∀ {l:List Nat},PEO A l->PEO A (l.filter p)
 | [],_=>trivial
 | v :: r,h=>by
  rw[List.filter_cons]
  split
  .exact⟨fun a ha b hb=>h.1 a (dA.1 ha).1 b (dA.1 hb).1,PEO.filter p h.2⟩
  .exact PEO.filter p h.2
theorem PEl.peo{es:List Nat}:∀ {l:List Nat},PEl es l->PEO (N10 es) l
 | [],_=>trivial
 | v :: r,h=>⟨fun a ha b hb E h1 h2=>by
   obtain⟨e,g1,g2,g3⟩:=h.1 h1.cov;exact⟨E,e,g1,g3 a ha h1,g3 b hb h2⟩,PEl.peo h.2⟩
theorem Y117{A:Nat->Nat->Prop}(hA:∀ a b,A a b->A b a)(hI:∀ a,¬ A a a){u:Nat}{r:List Nat}(hs:Sim A r u)(ha:∀ y ∈ r,A u y\/y=u){v:Nat}(hv:v ∈ u :: r):Sim A (u :: r) v:=by
 have key:∀ y,y ∈ u :: r->y=u\/(A u y/\y ∈ r):=fun y hy=>by
  grind
 intro a O b J E h1 h2;rcases key a O with rfl | ⟨a1,a2⟩
 .grind
 .rcases key b J with rfl | ⟨b1,b2⟩
  .exact hA _ _ a1
  .exact hs a a2 b b2 E a1 b1
theorem R121{A:Nat->Nat->Prop}(hA:∀ a b,A a b->A b a)(hI:∀ a,¬ A a a):∀ {l:List Nat},PEO A l->∀ {K:Nat->Prop},(∀ a b,K a->K b->a ∈ l->b ∈ l->a≠b->A a b)->(∃ x ∈ l,¬ K x)->∃ v ∈ l,¬ K v/\Sim A l v
 | [],_,_,_,⟨x,hx,_⟩=>absurd hx O2
 | u :: r,h,K,hK,⟨x,hx,hxK⟩=>by
  have V:Sim A (u :: r) u:=fun a ha b hb E h1 h2=>by
   rcases aU.1 ha with rfl | ha
   .exact absurd h1 (hI _)
   rcases aU.1 hb with rfl | hb
   .exact absurd h2 (hI _)
   exact h.1 a ha b hb E h1 h2
  by_cases hu:K u
  .by_cases hr:∃ y ∈ r,¬ (A u y\/y=u)
   .obtain⟨v,h1,h2,h3⟩:=R121 hA hI h.2 (K:=fun y=>A u y\/y=u) (fun a b ha hb Q U E=>by
     rcases ha with ha | rfl
     .rcases hb with hb | rfl
      .exact h.1 a Q b U E ha hb
      .exact hA _ _ ha
     grind) hr
    have J:¬ A u v/\v≠u:=⟨fun e=>h2 (.inl e),fun e=>h2 (.inr e)⟩
    refine⟨v,by simp[h1],fun hv=>J.1 (hK u v hu hv O2 (by simp[h1]) (fun e=>J.2 e.symm)),fun a ha b hb E ga gb => ?_⟩;rcases aU.1 ha with rfl | ha
    .simp_all
    rcases aU.1 hb with rfl | hb
    .simp_all
    exact h3 a ha b hb E ga gb
   .have O:∀ y ∈ r,A u y\/y=u:=fun y hy=>aI fun hn=>hr ⟨y,hy,hn⟩
    exact⟨x,hx,hxK,Y117 hA hI h.1 O hx⟩
  simp_all
section
variable {A:Nat->Nat->Prop} {P:Nat->Prop} {a b f n:Nat} {es l:List Nat}
structure IsW (A:Nat->Nat->Prop) (P:Nat->Prop) (a b:Nat) (l:List Nat):Prop where
 len:2<=l.length
 first:l[0]? = some a
 last:∀(i:Nat),i+1=l.length->l[i]? = some b
 step:∀(i x y:Nat),l[i]? = some x->l[i+1]? = some y->A x y
 inn:∀(i x:Nat),l[i]? = some x->0<i->i+1<l.length->P x
theorem V9.walk(h:V9 A P a b):∃ l,IsW A P a b l:=by
 induction h with
 | @one u w h1=>
  refine⟨[u,w],O2,rfl,fun i hi => ?_,fun i x y hx hy => ?_,fun i x hx h0 h1 => ?_⟩
  .simp_all
  .grind
  .simp at h1;omega
 | @more u x w h1 h2 _ ih=>
  obtain⟨l,hl⟩:=ih;have h3:=hl.len;refine⟨u :: l,by simp;omega,rfl,fun i hi => ?_,fun i y z hy hz => ?_,fun i y hy h0 hi => ?_⟩
  .rcases i with _ | i
   .simp_all
   .rw[dK];exact hl.last i (by simpa using hi)
  .rcases i with _ | i
   .rw[dK,hl.first] at hz
    simp_all
   .rw[dK] at hy hz;exact hl.step i y z hy hz
  .rcases i with _ | i
   .omega
   .rw[dK] at hy
    rcases i with _ | i
    .rw[hl.first] at hy;cases hy;exact h2
    .exact hl.inn (i+1) y hy O0 (by simpa using hi)
theorem J63{p:List Nat->Prop}:∀(n:Nat) (l:List Nat),l.length<=n->p l->∃ l,p l/\∀ l',p l'->l.length<=l'.length
 | 0,l,h,hp=>⟨l,hp,fun l' _=>O0⟩
 | n+1,l,h,hp=>by
  by_cases hx:∃ l',p l'/\l'.length<l.length
  .obtain⟨l',h1,h2⟩:=hx
   exact J63 n l' O0 h1
  grind
theorem B73{l:List Nat}{i k:Nat}(hi:i<l.length)(hk:i<k)(p:Nat):(l.take (i+1)++l.drop k)[p]? = if p<=i then l[p]? else l[k+(p-(i+1))]? := by
 grind
theorem IsW.cut(h:IsW A P a b l){i k:Nat}(hi:i<l.length)(Q:i+1<k)(hk:k<=l.length)(h1:∀ x y,l[i]? = some x->l[k]? = some y->A x y)(h2:k=l.length->l[i]? = some b)(h3:2<=i+1+(l.length-k)):IsW A P a b (l.take (i+1)++l.drop k):=by
 have hg:=B73 hi (show i<k by omega);have O:(l.take (i+1)++l.drop k).length=i+1+(l.length-k):=by grind
 refine⟨O0,?_,fun p hp => ?_,fun p x y hx hy => ?_,fun p x hx h0 hp => ?_⟩
 .rw[hg,if_pos (Nat.zero_le _)];exact h.first
 .rw[hg]
  by_cases E:p<=i
  .grind
  .rw[if_neg E];exact h.last _ O0
 .rw[hg] at hx hy
  by_cases E:p+1<=i
  .rw[if_pos O0] at hx;rw[if_pos E] at hy;exact h.step p x y hx hy
  .rw[if_neg E] at hy
   by_cases J:p<=i
   .rw[if_pos J] at hx
    grind
   .rw[if_neg J] at hx
    rw[show k+(p+1-(i+1))=k+(p-(i+1))+1 by omega] at hy;exact h.step _ x y hx hy
 .rw[hg] at hx
  by_cases E:p<=i
  .rw[if_pos E] at hx;exact h.inn p x hx h0 O0
  .rw[if_neg E] at hx;exact h.inn _ x hx O0 O0
def ChP(A:Nat->Nat->Prop)(l:List Nat):Prop:=∀(i j x y:Nat),i<j->l[i]? = some x->l[j]? = some y->x≠y/\(A x y<->i+1=j)
theorem V9.chordless(h:V9 A P a b)(J:a≠b):∃ l,IsW A P a b l/\ChP A l:=by
 obtain⟨l0,h0⟩:=h.walk;obtain⟨l,hl,hm⟩:=J63 l0.length l0 (aD _) h0;refine⟨l,hl,fun i j x y O hx hy => ?_⟩;have hj:j<l.length:=(aJ.1 hy).1;have E:=fun k (hk:k<=l.length) (hik:i+1<k)=>(show(l.take (i+1)++l.drop k).length=i+1+(l.length-k) by grind)
 constructor
 .rintro rfl
  have h3:2<=i+1+(l.length-(j+1)):=by
   by_cases hc:i=0/\j+1=l.length
   .obtain⟨rfl,h5⟩:=hc
    have e1:=hl.first;have e2:=hl.last j h5
    simp_all
   .omega
  have:=hm _ (hl.cut (i:=i) (k:=j+1) O0 O0 O0 (fun x' y' e1 e2=>by
   rw[hx] at e1;cases e1;exact hl.step j _ _ hy e2) (fun e=>by rw[hx,<- hy];exact hl.last j e) h3)
  grind
 .constructor
  .intro hA
   refine aI fun Q => ?_
   have:=hm _ (hl.cut (i:=i) (k:=j) O0 O0 O0 (fun x' y' e1 e2=>by
    simp_all) (fun e=>O0) O0)
   grind
  .rintro rfl
   exact hl.step i x y hx hy
structure D48 (A:Nat->Nat->Prop) (n f:Nat) (l:List Nat):Prop where
 len:3<=l.length
 ch:ChP A l
 lt:∀(i x:Nat),l[i]? = some x->x<n
 ends:∀(i x:Nat),l[i]? = some x->(x<f<->i=0\/i+1=l.length)
def FOk(A:Nat->Nat->Prop)(p:List Nat)(v:Nat):Prop:=∀(i x:Nat),p[i]? = some x->x≠v/\(A x v<->i+1=p.length)
inductive U25 (A:Nat->Nat->Prop) (n f:Nat):List Nat->Prop
 | last {p:List Nat} {v:Nat}:FOk A p v->v<n->v<f->1<p.length->U25 A n f p
 | more {p:List Nat} {v:Nat}:FOk A p v->v<n->(p.length=0->v<f)->(p.length=1->f<=v)->¬ (1<p.length/\v<f)->U25 A n f (p++[v])->U25 A n f p
theorem B61{A:Nat->Nat->Prop}{n f:Nat}{l:List Nat}(h:D48 A n f l):∀ d i,i+d+1=l.length->U25 A n f (l.take i)
 | d,i,hi=>by
  have h3:=h.len;obtain⟨v,hv⟩:∃ v,l[i]? = some v:=⟨_,aE O0⟩
  have E:(l.take i).length=i:=by rw[cK];omega
  have J:FOk A (l.take i) v:=fun q x hx=>by
   rw[aX] at hx
   split at hx
   .rename_i hq
    rw[E];exact h.ch q i x v hq hx hv
   .cases hx
  have he:=h.ends i v hv
  cases d with
  | zero=>exact .last J (h.lt i v hv) (he.2 (.inr O0)) O0
  | succ d=>
   refine .more J (h.lt i v hv) (fun e=>he.2 (.inl O0)) (fun e => ?_) (fun⟨e1,e2⟩ => ?_) ?_
   .omega
   .have:=he.1 e2;omega
   .have e:l.take i++[v]=l.take (i+1):=by rw[List.take_add_one,hv];rfl
    rw[e];exact B61 h d (i+1) O0
theorem G74{p:List Nat}(h:U25 A n f p):ChP A p->(∀(i x:Nat),p[i]? = some x->x<n/\(x<f<->i=0))->∃ l,D48 A n f l:=by
 have app:∀(p:List Nat) (v i x:Nat),(p++[v])[i]? = some x->(i<p.length/\p[i]? = some x)\/(i=p.length/\x=v):=fun p v i x hx=>by
  grind
 have J:∀ {p:List Nat} {v:Nat},ChP A p->FOk A p v->ChP A (p++[v]):=fun {p v} hc E i j x y O hx hy=>by
  rcases app p v j y hy with ⟨h1,h2⟩ | ⟨rfl,rfl⟩
  .rcases app p v i x hx with ⟨h3,h4⟩ | ⟨rfl,rfl⟩
   .exact hc i j x y O h4 h2
   .omega
  .rcases app p _ i x hx with ⟨h3,h4⟩ | ⟨h3,_⟩
   .exact E i x h4
   .omega
 induction h with
 | @last p v E hn hf hl=>
  intro hc hp;refine⟨p++[v],by simp;omega,J hc E,fun i x hx => ?_,fun i x hx => ?_⟩
  .grind
  grind
 | @more p v E hn h0 h1 h2 _ ih=>
  grind
theorem V45:U25 A n f []<->∃ l,D48 A n f l:=by
 constructor
 .exact fun h=>G74 h (fun i j x y _ hx _=>by simp at hx) (fun i x hx=>by simp at hx)
 .rintro⟨l,h⟩
  have h3:=h.len;exact B61 h (l.length-1) 0 O0
theorem Y119{es:List Nat}{n f:Nat}{fr l:List Nat}(J:∀ x ∈ fr,x<f)(h:D48 (N10 es) n f l):∀ {q:List Nat},(∀ x ∈ q,f<=x)->PEl es (q++fr)->(∀ x ∈ l,x ∈ q++fr)->False
 | [],_,_,hm=>by
  have h3:=h.len;have h1:l[1]? = some l[1]:=aE O0;have:=(h.ends 1 _ h1).1 (J _ (hm _ (aH h1)));omega
 | v :: q,hq,g,hm=>by
  have h3:=h.len
  by_cases hv:v ∈ l
  .obtain⟨i,hi⟩:=cH hv
   have U:=(aJ.1 hi).1;have hn:¬ (i=0\/i+1=l.length):=fun e=>by
    have:=(h.ends i v hi).2 e
    grind
   obtain⟨a,ha⟩:∃ a,l[i-1]? = some a:=⟨_,aE O0⟩
   obtain⟨b,hb⟩:∃ b,l[i+1]? = some b:=⟨_,aE O0⟩
   have a1:=h.ch (i-1) i a v O0 ha hi;have b1:=h.ch i (i+1) v b O0 hi hb;have c1:=h.ch (i-1) (i+1) a b O0 ha hb;have E:=(a1.2.2 O0).symm;have O:=b1.2.2 rfl;obtain⟨e,e1,e2,e3⟩:=g.1 E.cov;have rest:∀ x,x ∈ l->x≠v->x ∈ q++fr:=fun x hx Q=>by
    grind
   have:=c1.2.1 ⟨c1.1,e,e1,e3 a (rest a (aH ha) a1.1) E,e3 b (rest b (aH hb) b1.1.symm) O⟩;omega
  .refine Y119 J h (fun x hx=>hq x (by simp[hx])) g.2 fun x hx => ?_
   grind
open Classical in
theorem C117(hA:∀ a b,A a b->A b a)(hI:∀ a,¬ A a a){W:List Nat}(hl:PEO A l)(hW:∀ w ∈ W,w ∈ l){S:Nat->Prop}(V:∀ a b,a ∈ W->b ∈ W->S a->S b->a≠b->V9 A (fun z=>z ∈ W/\¬ S z) a b->A a b){x:Nat}(hx:x ∈ W)(O:¬ S x):∃ v ∈ W,¬ S v/\Sim A W v:=by
 obtain⟨P,hP⟩:∃ P:Nat->Prop,P=fun z=>z ∈ W/\¬ S z:=⟨_,rfl⟩
 obtain⟨C,hC⟩:∃ C:Nat->Prop,C=fun y=>P y/\(y=x\/V9 A P x y):=⟨_,rfl⟩
 obtain⟨K,hK⟩:∃ K:Nat->Prop,K=fun y=>y ∈ W/\S y/\∃ c,C c/\A c y:=⟨_,rfl⟩
 have a0:P x:=by rw[hP];exact⟨hx,O⟩
 have U:∀ c y,C c->A c y->V9 A P x y:=fun c y hc ha=>by
  rw[hC] at hc;rcases hc.2 with e | h
  .rw[<- e];exact .one ha
  .exact h.trans hc.1 (.one ha)
 have Q:∀ y,C y->y ∈ W/\¬ S y:=fun y h=>by rw[hC,hP] at h;exact h.1
 obtain⟨v,h1,h2,h3⟩:=R121 hA hI (hl.filter fun y=>decide (C y\/K y)) (K:=K) (fun a b ka kb _ _ E=>by
  grind[V9.join]) ⟨x,dA.2 ⟨hW x hx,decide_eq_true (.inl (by grind))⟩,fun h=>by rw[hK] at h;exact O h.2.1⟩
 have J:C v:=by
  grind
 have hm:∀ a,a ∈ W->A v a->a ∈ l.filter fun y=>decide (C y\/K y):=fun a ha Z=>by
  grind
 exact⟨v,(Q v J).1,(Q v J).2,fun a ha b hb E ga gb=>h3 a (hm a ha ga) b (hm b hb gb) E ga gb⟩
theorem R114{A:Nat->Nat->Prop}(hA:∀ a b,A a b->A b a)(hI:∀ a,¬ A a a){l:List Nat}(hl:PEO A l){f n:Nat}(hf:f<=n)(O:∀ v,v<n->v ∈ l)(J:∀ a b,a<f->b<f->a≠b->V9 A (fun z=>z<n/\f<=z) a b->A a b):∀(k:Nat) (R:List Nat),R.length=k->R.Nodup->(∀ x ∈ R,f<=x/\x<n) ->
  ∃ q:List Nat,q.Nodup/\(∀ x,x ∈ q<->x ∈ R)/\∀ p1 v p2,q=p1++v :: p2->∀ a b,(a ∈ p2\/a<f)->(b ∈ p2\/b<f)->a≠b->A v a->A v b->A a b
 | 0,R,hk,_,_=>⟨[],List.nodup_nil,fun x=>by simp_all,fun p1 v p2 e=>by simp at e⟩
 | k+1,R,hk,hnd,hR=>by
  obtain⟨x,hx⟩:∃ x,x ∈ R:=by
   cases R with
   | nil=>simp at hk
   | cons x _=>exact⟨x,O2⟩
  have Q:=hR x hx;obtain⟨v,h1,h2,h3⟩:=C117 hA hI (W:=R++aY f) hl (fun w hw=>by
   grind) (S:=fun y=>y<f) (fun a b _ _ sa sb E r=>J a b sa sb E (r.mono fun z hz=>by
    grind)) (x:=x) (dX _ hx) O0
  have hv:v ∈ R:=by
   simp_all
  obtain⟨q,q1,q2,q3⟩:=R114 hA hI hl hf O J k (R.erase v) (by simp_all) (hnd.erase v) (fun y hy=>hR y (List.mem_of_mem_erase hy));have hq:∀ y,y ∈ q<->y≠v/\y ∈ R:=fun y=>by rw[q2,hnd.mem_erase_iff]
  refine⟨v :: q,hO.2 ⟨fun h=>((hq v).1 h).1 rfl,q1⟩,fun y => ?_,fun p1 u p2 e a b ha hb E ga gb => ?_⟩
  .grind
  .cases p1 with
   | nil=>
    simp at e;obtain⟨rfl,rfl⟩:=e;have hm:∀ y,(y ∈ q\/y<f)->y ∈ R++aY f:=fun y hy=>by
     grind
    exact h3 a (hm a ha) b (hm b hb) E ga gb
   | cons w p1=>
    grind
def dnL:Nat->List Nat
 | 0=>[]
 | k+1=>k :: dnL k
theorem K22{x:Nat}:∀ {k:Nat},x ∈ dnL k<->x<k
 | 0=>by simp[dnL]
 | k+1=>by rw[dnL,aU,K22];omega
theorem E119{c:Nat}:∀ {k:Nat},c<k->∃ p1,dnL k=p1++c :: dnL c
 | 0,h=>O0
 | k+1,h=>by
  by_cases e:c=k
  .subst e;exact⟨[],rfl⟩
  .obtain⟨p1,h1⟩:=E119 (k:=k) (c:=c) O0
   exact⟨k :: p1,by rw[dnL,h1];rfl⟩
def R52(es:List Nat)(f:Nat):Prop:=∃ a b c,a<b/\b<c/\c<f/\N10 es a c/\N10 es b c/\¬ N10 es a b
theorem Z115{es:List Nat}(hl:PEl es l)(J:∀ v,Q21 es v->v ∈ l){v:Nat}{T:Nat->Prop}(hc:Q21 es v)(h:∀ a b,T a->T b->a≠b->N10 es v a->N10 es v b->N10 es a b):∃ e ∈ es,e.testBit v=true/\∀ w,T w->N10 es v w->e.testBit w=true:=by
 have E:∀ q,(q=v\/(T q/\N10 es v q))->Q21 es q:=fun q hq=>by
  rcases hq with rfl | ⟨_,hq⟩
  .exact hc
  .exact hq.symm.cov
 obtain⟨e,h1,h2⟩:=Z51 hl (Q:=fun q=>q=v\/(T q/\N10 es v q)) (fun q hq=>J q (E q hq)) ⟨v,.inl rfl⟩ E (fun a b ha hb O=>by
  rcases ha with rfl | ⟨a1,a2⟩
  .grind
  .rcases hb with rfl | ⟨b1,b2⟩
   .exact a2.symm
   simp_all)
 grind
theorem J115{es fr:List Nat}(E:PEl es fr):∀ {q:List Nat},(∀ p1 v p2,q=p1++v :: p2->Q21 es v->∃ e ∈ es,e.testBit v=true/\∀ w ∈ p2++fr,N10 es v w->e.testBit w=true)->PEl es (q++fr)
 | [],_=>E
 | v :: q,h=>⟨h [] v q rfl,J115 E fun p1 u p2 e=>h (v :: p1) u p2 (by rw[e];rfl)⟩
theorem K113(hf:f<=n)(O:∀ v,Q21 es v<->v<n):
  (∃ q:List Nat,q.Nodup/\(∀ v,v ∈ q<->f<=v/\v<n)/\PEl es (q++dnL f))<->PE es/\¬ U25 (N10 es) n f []/\¬ R52 es f:=by
 constructor
 .rintro⟨q,q1,q2,q3⟩
  have E:∀ v,v<n->v ∈ q++dnL f:=fun v hv=>by
   rw[dN,q2,K22];omega
  refine⟨⟨_,fun v hv=>E v ((O v).1 hv),q3⟩,fun h => ?_,?_⟩
  .obtain⟨l,hl⟩:=V45.1 h
   exact Y119 (fun x hx=>K22.1 hx) hl (fun x hx=>((q2 x).1 hx).1) q3 fun x hx=>by
    obtain⟨i,hi⟩:=cH hx;exact E x (hl.lt i x hi)
  .rintro⟨a,b,c,h1,h2,h3,h4,h5,h6⟩
   obtain⟨p1,e⟩:=E119 h3;rw[e,<- List.append_assoc] at q3;obtain⟨e,e1,e2,e3⟩:=q3.at h4.symm.cov;exact h6 ⟨O0,e,e1,e3 a (K22.2 O0) h4.symm,e3 b (K22.2 O0) h5.symm⟩
 .rintro⟨⟨l,hl,hp⟩,Q,U⟩
  have hA:∀ a b,N10 es a b->N10 es b a:=fun a b h=>h.symm
  have hI:∀ a,¬ N10 es a a:=fun a h=>h.1 rfl
  have E:∀ v,v<n->v ∈ l:=fun v hv=>hl v ((O v).2 hv)
  have V:∀ a b,a<f->b<f->a≠b->V9 (N10 es) (fun z=>z<n/\f<=z) a b->N10 es a b:=fun a b ha hb J r=>by
   refine aI fun hn=>Q (V45.2 ?_)
   obtain⟨l,hl,hc⟩:=r.chordless J;have h2:=hl.len;have h3:3<=l.length:=by
    refine aI fun h=>hn ?_
    exact hl.step 0 a b hl.first (hl.last 1 O0)
   have W:∀ i x,l[i]? = some x->(i=0/\x=a)\/(i+1=l.length/\x=b)\/(¬ (i=0\/i+1=l.length)/\x<n/\f<=x):=fun i x hx=>by
    have Z:=(aJ.1 hx).1
    by_cases e0:i=0
    .subst e0
     have:=hl.first
     simp_all
    by_cases e1:i+1=l.length
    .have:=hl.last i e1
     simp_all
    .exact .inr (.inr ⟨O0,hl.inn i x hx O0 O0⟩)
   refine⟨l,h3,hc,fun i x hx => ?_,fun i x hx => ?_⟩
   .grind
   grind
  obtain⟨q,q1,q2,q3⟩:=R114 hA hI hp.peo hf E V _ ((aY n).filter fun v=>decide (f<=v)) rfl (List.nodup_range.filter _) (fun x hx=>by simp at hx;omega);refine⟨q,q1,fun v=>by rw[q2];simp;omega,J115 ?_ fun p1 v p2 e hc => ?_⟩
  .have key:∀ k,k<=f->PEl es (dnL k):=fun k=>by
    induction k with
    | zero=>exact fun _=>trivial
    | succ k ih=>
     intro hk;refine⟨fun hc => ?_,ih O0⟩;obtain⟨e,e1,e2,e3⟩:=Z115 hp hl (T:=fun w=>w<k) hc fun a b ha hb J ga gb=>by
      refine aI fun hn=>U ?_
      rcases Nat.lt_or_gt_of_ne J with h | h
      .exact⟨a,b,k,h,hb,O0,ga.symm,gb.symm,hn⟩
      .exact⟨b,a,k,h,ha,O0,gb.symm,ga.symm,fun h=>hn h.symm⟩
     grind[K22]
   exact key f (aD _)
  .obtain⟨e',e1,e2,e3⟩:=Z115 hp hl (T:=fun w=>w ∈ p2\/w<f) hc fun a b ha hb J ga gb=>q3 p1 v p2 e a b ha hb J ga gb
   grind[K22]
end
def Chd(A:Nat->Nat->Prop):Prop:=∀ v u w,A v u->A v w->u≠w->¬ A u w->¬ V9 A (fun x=>(¬ A v x/\x≠v)\/x=u\/x=w) u w
section
variable {A:Nat->Nat->Prop} (hA:∀ a b,A a b->A b a) (hI:∀ a,¬ A a a)
include hA hI
theorem Y73{l:List Nat}(hl:PEO A l)(Z:∀ a b,A a b->a ∈ l):Chd A:=by
 intro v u w hu hw U hn r;obtain⟨p,hp,hc⟩:=r.chordless U;have a5:3<=p.length:=by
  refine aI fun h => ?_
  have h2:=hp.len;exact hn (hp.step 0 u w hp.first (hp.last 1 O0))
 have a0:u≠v:=fun e=>hI v (by rw[e] at hu;exact hu)
 have Q:w≠v:=fun e=>hI v (by rw[e] at hw;exact hw)
 have W:∀ i x,p[i]? = some x->0<i->i+1<p.length->¬ A v x/\x≠v:=fun i x hx h0 h1=>by
  rcases hp.inn i x hx h0 h1 with h | rfl | rfl
  .exact h
  .exact absurd rfl (hc 0 i _ _ h0 hp.first hx).1
  .exact absurd rfl (hc i (p.length-1) _ _ O0 hx (hp.last (p.length-1) O0)).1
 have a3:∀ i x,p[i]? = some x->x≠v:=fun i x hx=>by
  by_cases h0:i=0
  .subst h0;rw[hp.first] at hx;cases hx;exact a0
  by_cases h1:i+1=p.length
  .rw[hp.last i h1] at hx;cases hx;exact Q
  grind
 have get:∀ i,i<p.length->∃ y,p[i]? = some y:=fun i h=>⟨_,aE h⟩
 have a4:∀ i x,p[i]? = some x->x ∈ l:=fun i x hx=>by
  have hi:=(aJ.1 hx).1
  by_cases h0:i=0
  .subst h0;rw[hp.first] at hx;grind
  .obtain⟨j,rfl⟩:∃ j,i=j+1:=⟨i-1,O0⟩
   obtain⟨y,hy⟩:=get j O0;exact Z _ _ (hA _ _ (hp.step j _ _ hy hx))
 have hP:=PEO.filter (fun x=>decide (x=v\/x ∈ p)) hl;have hm:∀ x,x ∈ l.filter (fun x=>decide (x=v\/x ∈ p))<->x=v\/x ∈ p:=fun x=>by
  grind[cH]
 generalize l.filter (fun x=>decide (x=v\/x ∈ p))=L at hP hm
 cases L with
 | nil=>exact absurd ((hm v).2 (.inl rfl)) O2
 | cons x r=>
  have hr:∀ y,(y=v\/y ∈ p)->y≠x->y ∈ r:=fun y hy a6=>by
   grind
  have mem:∀ {i y:Nat},p[i]? = some y->y=v\/y ∈ p:=fun h => .inr (aH h)
  have O:∀ {a b:Nat},A a b->b≠a:=fun h e=>hI _ (by rw[e] at h;exact h)
  have E:=hP.1;have gl:=hp.last (p.length-1) O0;rcases (hm x).1 O2 with rfl | hx
  .exact hn (E u (hr u (mem hp.first) a0) w (hr w (mem gl) Q) U hu hw)
  .obtain⟨i,hi⟩:=cH hx
   have a7:=(aJ.1 hi).1;have V:=a3 i x hi
   by_cases h0:i=0
   .subst h0
    rw[hp.first] at hi;cases hi;obtain⟨y,h1⟩:=get 1 O0;have J:=W 1 _ h1 O0 O0;have ha:=hp.step 0 _ _ hp.first h1;exact J.1 (E v (hr v (.inl rfl) V.symm) _ (hr _ (mem h1) (O ha)) J.2.symm (hA _ _ hu) ha)
   by_cases h1:i+1=p.length
   .rw[hp.last i h1] at hi;cases hi
    obtain⟨y,h2⟩:=get (i-1) O0;have J:=W (i-1) _ h2 O0 O0;have ha:=hA _ _ (hp.step (i-1) _ _ h2 (by rw[show i-1+1=i by omega];exact hp.last i h1));exact J.1 (E v (hr v (.inl rfl) V.symm) _ (hr _ (mem h2) (O ha)) J.2.symm (hA _ _ hw) ha)
   .obtain⟨y,h2⟩:=get (i-1) O0
    obtain⟨z,h3⟩:=get (i+1) O0;have c:=hc (i-1) (i+1) _ _ O0 h2 h3;have a1:=hA _ _ (hp.step (i-1) _ _ h2 (by rw[show i-1+1=i by omega];exact hi));have a2:=hp.step i _ _ hi h3;have:=c.2.1 (E _ (hr _ (mem h2) (O a1)) _ (hr _ (mem h3) (O a2)) c.1 a1 a2);omega
theorem G67(hC:Chd A):∀(n:Nat) (W:List Nat),W.length<=n->∀ {K:Nat->Prop},(∀ a b,K a->K b->a ∈ W->b ∈ W->a≠b->A a b)->(∃ x ∈ W,¬ K x)->∃ v ∈ W,¬ K v/\Sim A W v
 | 0,W,hl,K,_,⟨x,hx,_⟩=>by
  simp_all
 | n+1,W,hl,K,hK,hx=>by
  have a7:∀ a b,a ∈ W->b ∈ W->b≠a->¬ A a b->∃ v ∈ W,v≠a/\¬ A a v/\Sim A W v:=by
   intro a b ha hb a3 E
   let Q:Nat->Prop:=fun x=>x ∈ W/\¬ A a x/\x≠a
   let C:Nat->Prop:=fun x=>Q x/\(x=b\/V9 A Q b x)
   let S:Nat->Prop:=fun y=>y ∈ W/\A a y/\∃ c,C c/\A c y
   have O:Q b:=⟨hb,E,a3⟩
   have step:∀ v x,x ∈ W->C v->A v x->C x\/S x:=fun v x a4 hv J=>by
    by_cases h:A a x
    .grind
    .have a1:Q x:=⟨a4,h,fun e=>hv.1.2.1 (by rw[<- e];exact hA _ _ J)⟩
     refine .inl ⟨a1,.inr ?_⟩;rcases hv.2 with e | r
     .exact .one (by rw[<- e];exact J)
     .exact r.trans hv.1 (.one J)
   have V:∀ c y,C c->A c y->V9 A Q y b:=fun c y hc U=>by
    rcases hc.2 with e | r
    .exact .one (by rw[<- e];exact hA _ _ U)
    .exact .more (hA _ _ U) hc.1 (r.symm hA)
   have a5:∀ y z,S y->S z->y≠z->A y z:=fun y z hy hz a6=>aI fun hn=>by
    obtain⟨c1,k1,k2⟩:=hy.2.2;obtain⟨c2,k3,k4⟩:=hz.2.2;refine hC a y z hy.2.1 hz.2.1 a6 hn ?_;exact(((V c1 y k1 k2).trans O ((V c2 z k3 k4).symm hA))).mono fun x hx => .inl hx.2
   have a8:(W.filter fun x=>@decide (C x\/S x) (fJ _)).length<W.length:=
    fG.2 ⟨a,ha,fun h=>by
     grind⟩
   have hm:∀ x,x ∈ (W.filter fun x=>@decide (C x\/S x) (fJ _))<->x ∈ W/\(C x\/S x):=fun x=>by
    simp_all
   obtain⟨v,h1,h2,h3⟩:=G67 hC n _ O0 (K:=S) (fun y z hy hz _ _=>a5 y z hy hz) ⟨b,(hm b).2 ⟨hb,.inl ⟨O,.inl rfl⟩⟩,fun h=>E h.2.1⟩;have hv:=((hm v).1 h1).2.resolve_right h2;exact⟨v,((hm v).1 h1).1,hv.1.2.2,hv.1.2.1,fun x hx y hy a2 k1 k2=>h3 x ((hm x).2 ⟨hx,step v x hx hv k1⟩) y ((hm y).2 ⟨hy,step v y hy hv k2⟩) a2 k1 k2⟩
  by_cases h1:∃ a,a ∈ W/\K a/\∃ b ∈ W,b≠a/\¬ A a b
  .grind
  by_cases h2:∃ a,a ∈ W/\∃ b ∈ W,b≠a/\¬ A a b
  .grind
  .obtain⟨x,hx,Z⟩:=hx
   exact⟨x,hx,Z,fun a ha b hb a0 _ _=>aI fun hn=>h2 ⟨a,ha,b,hb,eT a0,hn⟩⟩
theorem N60(hC:Chd A):∀(n:Nat) (W:List Nat),W.length<=n->∃ l:List Nat,(∀ x,x ∈ l<->x ∈ W)/\PEO A l
 | 0,W,hl=>by
  obtain rfl:W=[]:=dT.1 O0;exact⟨[],fun x=>Iff.rfl,trivial⟩
 | n+1,W,hl=>by
  cases hW:W with
  | nil=>exact⟨[],fun x=>Iff.rfl,trivial⟩
  | cons y W'=>
   rw[<- hW];obtain⟨v,hv,_,hs⟩:=G67 hA hI hC W.length W (aD _) (K:=fun _=>False) (fun a b h=>h.elim) ⟨y,by rw[hW];simp,fun h=>h⟩;have E:(W.filter fun x=>decide (x≠v)).length<W.length:=fG.2 ⟨v,hv,O2⟩;obtain⟨l,h1,h2⟩:=N60 hC n (W.filter fun x=>decide (x≠v)) O0;have hm:∀ x,x ∈ l<->x ∈ W/\x≠v:=fun x=>by simp_all
   refine⟨v :: l,fun x => ?_,fun a ha b hb=>hs a ((hm a).1 ha).1 b ((hm b).1 hb).1,h2⟩
   grind
end
def Cf(es:List Nat):Prop:=∀ Q:Nat->Prop,(∃ q,Q q)->(∀ q,Q q->Q21 es q)->(∀ a b,Q a->Q b->a≠b->N10 es a b)->∃ e ∈ es,∀ q,Q q->e.testBit q=true
theorem R62{es:List Nat}(hC:Cf es):∀ {l:List Nat},PEO (N10 es) l->PEl es l
 | [],_=>trivial
 | v :: r,h=>by
  refine⟨fun hc => ?_,R62 hC h.2⟩;obtain⟨e,h1,h2⟩:=hC (fun q=>q=v\/(q ∈ r/\N10 es v q)) ⟨v,.inl rfl⟩ (fun q hq=>by
   rcases hq with rfl | hq
   .exact hc
   .exact hq.2.symm.cov) (fun a b ha hb E=>by
   rcases ha with rfl | ha
   .grind
   .rcases hb with rfl | hb
    .exact ha.2.symm
    .exact h.1 a ha.1 b hb.1 E ha.2 hb.2)
  grind
theorem V78{es:List Nat}{n:Nat}(E:∀ v,Q21 es v->v<n):PE es<->Chd (N10 es)/\Cf es:=by
 have hI:∀ a,¬ N10 es a a:=fun a h=>h.1 rfl
 constructor
 .rintro⟨l,h1,h2⟩
  exact⟨Y73 (A:=N10 es) (fun a b h=>N10.symm h) hI h2.peo fun a b h=>h1 a h.cov,fun Q hx hc ha=>Z51 h2 (fun q hq=>h1 q (hc q hq)) hx hc ha⟩
 .rintro⟨h1,h2⟩
  obtain⟨l,h3,h4⟩:=N60 (A:=N10 es) (fun a b h=>N10.symm h) hI h1 n (aY n) O2;exact⟨l,fun v hv=>(h3 v).2 (cW.2 (E v hv)),R62 h2 h4⟩
section
variable {to u v w within:Nat}
def Wf(A:Nat->Nat->Prop)(P:Nat->Prop)(j u w:Nat):Prop:=∃ f:Nat->Nat,f 0=u/\f j=w/\(∀ i,i<j->A (f i) (f (i+1)))/\∀ i,0<i->i<=j->P (f i)
section
variable {A:Nat->Nat->Prop} {P:Nat->Prop} {j u w:Nat}
theorem Wf.zero:Wf A P 0 u w<->u=w:=
 ⟨fun⟨f,h1,h2,_⟩=>h1.symm.trans h2,fun h=>⟨fun _=>u,rfl,h,fun i hi=>O0,fun i h0 hi=>O0⟩⟩
theorem Wf.snoc:Wf A P (j+1) u w<->P w/\∃ y,Wf A P j u y/\A y w:=by
 constructor
 .rintro⟨f,h1,h2,h3,h4⟩
  refine⟨?_,f j,⟨f,h1,rfl,fun i hi=>h3 i O0,fun i a b=>h4 i a O0⟩,?_⟩
  .grind
  grind
 .rintro⟨hP,y,⟨f,h1,h2,h3,h4⟩,ha⟩
  refine⟨fun i=>if i<=j then f i else w,by simp[h1],if_neg O0,fun i hi => ?_,fun i h0 hi => ?_⟩
  .grind
  grind
theorem Wf.cons{x:Nat}(hx:A u x)(hP:P x)(h:Wf A P j x w):Wf A P (j+1) u w:=by
 obtain⟨f,h1,h2,h3,h4⟩:=h;refine⟨fun i=>if i=0 then u else f (i-1),O2,by simp[h2],fun i hi => ?_,fun i h0 hi => ?_⟩
 .grind
 grind
theorem Wf.rch:∀ {j w:Nat},0<j->Wf A P j u w->V9 A P u w
 | 0,_,h,_=>O0
 | j+1,w,_,h=>by
  obtain⟨_,y,h1,h2⟩:=Wf.snoc.1 h
  cases j with
  | zero=>obtain rfl:=Wf.zero.1 h1;exact .one h2
  | succ j=>exact(Wf.rch O0 h1).trans (Wf.snoc.1 h1).1 (.one h2)
theorem V9.wf(h:V9 A P u w)(hw:P w):∃ j,0<j/\Wf A P j u w:=by
 induction h with
 | one h1=>exact⟨1,O0,Wf.cons h1 hw (Wf.zero.2 rfl)⟩
 | more h1 h2 _ ih=>
  obtain⟨j,_,hj⟩:=ih hw;exact⟨j+1,O0,Wf.cons h1 h2 hj⟩
theorem Wf.least:∀(j:Nat),Wf A P j u w->∃ i,i<=j/\Wf A P i u w/\∀ k,k<i->¬ Wf A P k u w:=by
 intro j
 induction j using Nat.strongRecOn with
 | _ j ih=>
  grind
theorem Wf.gap{s:Nat}(h:∀ x,¬ (Wf A P s u x/\∀ k,k<s->¬ Wf A P k u x)):∀ d x,¬ (Wf A P (s+d) u x/\∀ k,k<s+d->¬ Wf A P k u x)
 | 0,x,g=>h x g
 | d+1,x,⟨g1,g2⟩=>by
  obtain⟨hP,y,h1,h2⟩:=Wf.snoc.1 (show Wf A P (s+d+1) u x from g1);exact Wf.gap h d y ⟨h1,fun k hk g=>g2 (k+1) O0 (Wf.snoc.2 ⟨hP,y,g,h2⟩)⟩
end
section
variable {A:Nat->Nat->Prop} {aL:List Nat} {N:Nat} (hb:∀ u w,(aL.getD u 0).testBit w=true<->A u w) (hAN:∀ u w,A u w->u<N/\w<N)
include hb hAN
theorem W69(b:Nat):Q4 aL b N<2^N:=Nat.lt_pow_two_of_testBit _ fun w hw=>bN.2 fun h=>by
 grind[Y7]
theorem V69:∀(k s E b:Nat),b<2^N->E<2^N->N<=k+(V5 N E).length ->
  (∀ x,b.testBit x=true<->Wf A (fun x=>within.testBit x=true) s u x/\∀ j,j<s->¬ Wf A (fun x=>within.testBit x=true) j u x)->(∀ x,E.testBit x=true<->∃ j,j<s/\Wf A (fun x=>within.testBit x=true) j u x) ->
  (∀ j,j<=s->¬ Wf A (fun x=>within.testBit x=true) j u to) ->
  (W84 aL N to within k E b (s+1)=0/\∀ j,¬ Wf A (fun x=>within.testBit x=true) j u to) \/
  (0<W84 aL N to within k E b (s+1)/\Wf A (fun x=>within.testBit x=true) (W84 aL N to within k E b (s+1)) u to/\∀ j,j<W84 aL N to within k E b (s+1)->¬ Wf A (fun x=>within.testBit x=true) j u to):=by
 intro k;have none:∀(s b:Nat),b=0->(∀ x,b.testBit x=true<->Wf A (fun x=>within.testBit x=true) s u x/\∀ j,j<s->¬ Wf A (fun x=>within.testBit x=true) j u x) ->
   (∀ j,j<=s->¬ Wf A (fun x=>within.testBit x=true) j u to)->∀ j,¬ Wf A (fun x=>within.testBit x=true) j u to:=by
  rintro s b rfl h1 h2 j hj;obtain⟨i,_,h3,h4⟩:=Wf.least j hj
  by_cases hi:i<=s
  .exact h2 i hi h3
  .obtain⟨d,rfl⟩:∃ d,i=s+d:=⟨i-s,O0⟩
   grind[Wf.gap]
 induction k with
 | zero=>
  intro s E b h1 h2 h3 h4 h5 h6;have J:b=0:=X20 (N:=N) h1 (fun v hv=>bN.2 fun hc=>by
   obtain⟨j,hj,hw⟩:=(h5 v).1 hc;exact((h4 v).1 hv).2 j hj hw) (by have:=Q15 N E;omega)
  exact .inl ⟨rfl,none s b J h4 h6⟩
 | succ k ih=>
  intro s E b h1 h2 h3 h4 h5 h6
  by_cases J:b=0
  .exact .inl ⟨by rw[W84,if_pos J],none s b J h4 h6⟩
  have hd:∀ v,b.testBit v=true->E.testBit v=false:=fun v hv=>bN.2 fun hc=>by
   grind
  have O:∀ x,(Z2 (Q4 aL b N &&& within) (E ||| b)).testBit x=true<->Wf A (fun x=>within.testBit x=true) (s+1) u x/\∀ j,j<s+1->¬ Wf A (fun x=>within.testBit x=true) j u x:=fun x=>by
   rw[N1,bI,aV,aG,aG,cJ,Bool.or_eq_false_iff]
   constructor
   .grind[Y7,Wf.snoc,Wf]
   .rintro⟨g1,g2⟩
    obtain⟨hP,y,y1,y2⟩:=Wf.snoc.1 g1;refine⟨⟨Y7.2 ⟨y,(hAN _ _ y2).1,(h4 y).2 ⟨y1,fun j hj hw=>g2 (j+1) O0 (Wf.snoc.2 ⟨hP,y,hw,y2⟩)⟩,(hb _ _).2 y2⟩,hP⟩,bN.2 fun hc => ?_,bN.2 fun hc => ?_⟩
    .grind
    simp_all
  rw[W84,if_neg J]
  by_cases ht:(Z2 (Q4 aL b N &&& within) (E ||| b)).testBit to=true
  .simp_all
  .rw[if_neg ht]
   refine ih (s+1) (E ||| b) _ (Z6 (W37 (W69 hb hAN b))) (Z26 h2 h1) ?_ O (fun x => ?_) (fun j hj hw => ?_)
   .have:=R25 h1 J hd
    omega
   .grind
   grind
theorem D36(hu:u<N)(E:u≠to):
  (B75 aL N u to within=0/\∀ j,¬ Wf A (fun x=>within.testBit x=true) j u to) \/
  (0<B75 aL N u to within/\Wf A (fun x=>within.testBit x=true) (B75 aL N u to within) u to/\∀ j,j<B75 aL N u to within->¬ Wf A (fun x=>within.testBit x=true) j u to):=by
 refine V69 hb hAN (u:=u) N 0 0 (2^u) (R27 hu) (aQ N) O0 (fun x => ?_) (fun x => ?_) (fun j hj hw => ?_)
 .grind[Wf.zero]
 .simp_all
 grind[Wf.zero]
theorem R65{d:Nat}(hu:u<N)(E:u≠to)(h1:Wf A (fun x=>within.testBit x=true) d u to)(h2:∀ j,j<d->¬ Wf A (fun x=>within.testBit x=true) j u to):B75 aL N u to within=d:=by
 rcases D36 hb hAN (within:=within) hu E with ⟨_,h⟩ | ⟨_,h3,h4⟩
 .exact absurd h1 (h d)
 grind
end
def CyI(d:Nat->Nat->Nat->Nat)(T:Nat->Nat->Nat->Prop)(l:Nat):Prop:=(∀ v u w,T v u w->0<d v u w->0<l/\l<=d v u w+2)/\(0<l->∃ v u w,T v u w/\0<d v u w/\l=d v u w+2)
theorem CyI.iff{d:Nat->Nat->Nat->Nat}{T T':Nat->Nat->Nat->Prop}{l:Nat}(h:CyI d T l)(e:∀ v u w,T' v u w<->T v u w):CyI d T' l:=
 ⟨fun v u w g=>h.1 v u w ((e v u w).1 g),fun g=>by obtain⟨v,u,w,a,b⟩:=h.2 g;grind⟩
theorem CyI.add{d:Nat->Nat->Nat->Nat}{T:Nat->Nat->Nat->Prop}{l:Nat}(h:CyI d T l)(v u w:Nat):CyI d (fun a b c=>T a b c\/(a=v/\b=u/\c=w)) (cyD (d v u w) l):=by
 obtain⟨h1,h2⟩:=h;unfold cyD
 split
 .rename_i hc
  refine⟨fun a b c g g2 => ?_,fun _=>⟨v,u,w,.inr ⟨rfl,rfl,rfl⟩,hc.1,rfl⟩⟩
  grind
 .rename_i hc
  refine⟨fun a b c g g2 => ?_,fun g=>by grind⟩
  grind
section
variable {aL:List Nat} {N:Nat}
def Cnd(aL:List Nat)(v u w:Nat):Prop:=(nbB aL v u&&nbB aL v w && !nbB aL u w)=true
theorem R63{T:Nat->Nat->Nat->Prop}{l v u:Nat}(h:CyI (fun v u w=>B75 aL N u w (D86 aL N v u w)) T l):∀ w,CyI (fun v u w=>B75 aL N u w (D86 aL N v u w)) (fun a b c=>T a b c\/(a=v/\b=u/\c<w/\Cnd aL a b c)) (cyW aL N v u l w)
 | 0=>h.iff fun a b c=>O2
 | w+1=>by
  have ih:=R63 h (v:=v) (u:=u) w;rw[cyW]
  split
  .rename_i hc
   refine(ih.add v u w).iff fun a b c => ?_
   constructor
   .grind
   .rintro ((g | ⟨rfl,rfl,g,g2⟩) | ⟨rfl,rfl,rfl⟩)
    .exact .inl g
    .grind
    .exact .inr ⟨rfl,rfl,O0,hc⟩
  .rename_i hc
   refine ih.iff fun a b c => ?_
   constructor
   .rintro (g | ⟨rfl,rfl,g,g2⟩)
    .exact .inl g
    .by_cases e:c=w
     .subst e;exact absurd g2 hc
     grind
   grind
theorem Z61{T:Nat->Nat->Nat->Prop}{l v:Nat}(h:CyI (fun v u w=>B75 aL N u w (D86 aL N v u w)) T l):∀ u,CyI (fun v u w=>B75 aL N u w (D86 aL N v u w)) (fun a b c=>T a b c\/(a=v/\b<u/\c<b/\Cnd aL a b c)) (cyU aL N v l u)
 | 0=>h.iff fun a b c=>O2
 | u+1=>by
  have ih:=R63 (Z61 h (v:=v) u) (v:=v) (u:=u) u
  grind[cyU]
theorem J49:∀ v,CyI (fun v u w=>B75 aL N u w (D86 aL N v u w)) (fun a b c=>a<v/\b<N/\c<b/\Cnd aL a b c) (cyV aL N v)
 | 0=>⟨fun a b c g=>by have:=g.1;omega,fun h=>absurd h (Nat.lt_irrefl 0)⟩
 | v+1=>by
  have ih:=Z61 (J49 v) (v:=v) N
  grind[cyV]
variable {A:Nat->Nat->Prop} (hb:∀ u w,(aL.getD u 0).testBit w=true<->A u w) (hAN:∀ u w,A u w->u<N/\w<N) (hA:∀ a b,A a b->A b a) (hI:∀ a,¬ A a a)
include hb hAN
theorem G43:Cnd aL v u w<->A v u/\A v w/\¬ A u w:=by
 unfold Cnd nbB
 grind
theorem B33{x:Nat}:(D86 aL N v u w).testBit x=true<->(x<N/\¬ A v x/\x≠v)\/x=u\/x=w:=by
 unfold D86
 grind[N1]
include hA
theorem E73:cyV aL N N=0<->Chd A:=by
 obtain⟨i1,i2⟩:=J49 (aL:=aL) (N:=N) N
 constructor
 .intro h0
  have E:∀ v u w,w<u->A v u->A v w->¬ A u w->¬ V9 A (fun x=>(¬ A v x/\x≠v)\/x=u\/x=w) u w:=fun v u w O hu hw hn r=>by
   have U:∀ x,(∃ y,A x y)->((¬ A v x/\x≠v)\/x=u\/x=w)->(D86 aL N v u w).testBit x=true:=fun x ⟨y,hy⟩ h=>(B33 hb hAN).2 (by
    grind)
   have r2:V9 A (fun x=>(D86 aL N v u w).testBit x=true) u w:=by
    clear hn;generalize hG:(fun x=>(D86 aL N v u w).testBit x=true)=G;have key:∀ {a b:Nat},V9 A (fun x=>(¬ A v x/\x≠v)\/x=u\/x=w) a b->V9 A G a b:=fun r=>by
     induction r with
     | one h=>exact .one h
     | more h1 h2 _ ih=>exact .more h1 (by grind) ih
    exact key r
   obtain⟨j,_,hj⟩:=r2.wf ((B33 hb hAN).2 (.inr (.inr rfl)));have J:=(hAN _ _ hu)
   rcases D36 hb hAN (within:=D86 aL N v u w) (to:=w) J.2 O0 with ⟨_,h⟩ | ⟨h,_⟩
   .exact h j hj
   .have:=i1 v u w ⟨J.1,J.2,O,(G43 hb hAN).2 ⟨hu,hw,hn⟩⟩ h
    omega
  intro v u w hu hw Q hn r
  by_cases h:w<u
  .exact E v u w h hu hw hn r
  .exact E v w u O0 hw hu (fun g=>hn (hA _ _ g)) ((r.symm hA).mono fun x hx=>by
    grind)
 .intro hC
  refine aI fun h0 => ?_
  obtain⟨v,u,w,⟨g0,g1,g2,g3⟩,hd,_⟩:=i2 O0;obtain⟨hu,hw,hn⟩:=(G43 hb hAN).1 g3;rcases D36 hb hAN (within:=D86 aL N v u w) (to:=w) g1 O0 with ⟨h,_⟩ | ⟨h,h1,_⟩
  .simp_all
  .refine hC v u w hu hw O0 hn ((Wf.rch h h1).mono fun x hx => ?_)
   rcases (B33 hb hAN).1 hx with hx | hx
   .exact .inl hx.2
   .exact .inr hx
end
end
section
variable {A:Nat->Nat->Prop} {P:Nat->Prop} {blk j k last start v x:Nat}
theorem M57{s:Nat}(hs:s<31):(Q90 s).testBit x=true<->s<x/\x<32:=by
 have h1:2^(s+1)<4294967296:=by
  have:=Nat.pow_lt_pow_right (a:=2) O0 (show s+1<32 by omega);omega
 have h2:0<2^(s+1):=aQ _;unfold Q90;rw[show 4294967295-(2^(s+1)-1)=2^32-((2^(s+1)-1)+1) by omega,Nat.testBit_two_pow_sub_succ O0,dC];simp;omega
theorem Wf.mono{Q:Nat->Prop}{u w:Nat}(h:∀ x,(∃ y,A y x)->P x->Q x)(g:Wf A P j u w):Wf A Q j u w:=by
 obtain⟨f,h1,h2,h3,h4⟩:=g;refine⟨f,h1,h2,h3,fun i h0 hi=>h _ ⟨f (i-1),?_⟩ (h4 i h0 hi)⟩;have:=h3 (i-1) O0;rwa [show i-1+1=i by omega] at this
theorem Wf.suffix{f:Nat->Nat}(h3:∀ i,i<j->A (f i) (f (i+1)))(h4:∀ i,0<i->i<=j->P (f i)){i:Nat}(hi:i<=j):Wf A P (j-i) (f i) (f j):=
 ⟨fun t=>f (i+t),rfl,by show f (i+(j-i))=f j;rw[show i+(j-i)=j by omega],fun t ht=>h3 (i+t) O0,fun t h0 ht=>h4 (i+t) O0 O0⟩
theorem N74(c:Nat->Nat):∃ m,∀ i,c m<=c i:=by
 have key:∀ n m,c m=n->∃ m,∀ i,c m<=c i:=fun n=>by
  induction n using Nat.strongRecOn with
  | _ n ih=>
   intro m hm
   by_cases h:∃ i,c i<n
   .obtain⟨i,hi⟩:=h
    exact ih _ hi i rfl
   .exact⟨m,fun i=>aI fun g=>h ⟨i,O0⟩⟩
 exact key _ 0 rfl
section
variable {A:Nat->Nat->Prop} {aL:List Nat} {N:Nat} (hN:N<=6) (hb:∀ u w,(aL.getD u 0).testBit w=true<->A u w) (hAN:∀ u w,A u w->u<N/\w<N) (hA:∀ a b,A a b->A b a) (hI:∀ a,¬ A a a)
include hN hb hAN
def ExW(A:Nat->Nat->Prop)(blk start last v x:Nat):Prop:=(start<x/\x<32/\¬ (blk.testBit x=true\/A last x\/x=last))\/x=v\/x=start
theorem J38:(W87 aL blk last).testBit x=true<->blk.testBit x=true\/A last x\/x=last:=by
 unfold W87;rw[aV,aV,aR,cO,cO,decide_eq_true_eq,hb,or_assoc];exact or_congr Iff.rfl (or_congr Iff.rfl eq_comm)
theorem U50(hs:start<N):((Z2 (Q90 start) (W87 aL blk last) ||| 2^v) ||| 2^start).testBit x=true<->ExW A blk start last v x:=by
 unfold ExW;rw[aV,aV,aR,aR,N1,cO,cO,aG,cJ,<- Bool.not_eq_true,M57 O0,J38 hN hb hAN,decide_eq_true_eq,decide_eq_true_eq,or_assoc,and_assoc];exact or_congr Iff.rfl (or_congr eq_comm eq_comm)
theorem U45(hs:start<N):Z91 aL N k blk start last v=true<->(A last v/\start<v/\blk.testBit v=false)/\B75 aL N v start ((Z2 (Q90 start) (W87 aL blk last) ||| 2^v) ||| 2^start)=k:=by
 unfold Z91;rw[aG,decide_eq_true_eq,N1,bI,aG,aG,hb,M57 O0,cJ]
 constructor
 .rintro⟨⟨⟨h1,h2,_⟩,h3⟩,h4⟩;exact⟨⟨h1,h2,h3⟩,h4⟩
 .rintro⟨⟨h1,h2,h3⟩,h4⟩;exact⟨⟨⟨h1,h2,by have:=(hAN _ _ h1).2;omega⟩,h3⟩,h4⟩
include hI
theorem C74(hs:start<N)(h:Z91 aL N (k+2) blk start last v=true):∃ x,x<N/\Z91 aL N (k+1) (W87 aL blk last) start v x=true:=by
 obtain⟨⟨h1,h2,h3⟩,h4⟩:=(U45 hN hb hAN hs).1 h;have O:=(hAN _ _ h1).2;rcases D36 hb hAN (within:=(Z2 (Q90 start) (W87 aL blk last) ||| 2^v) ||| 2^start) (to:=start) O O0 with ⟨g,_⟩ | ⟨_,g1,g2⟩
 .omega
 rw[h4] at g1 g2;have hP:∀ x,((Z2 (Q90 start) (W87 aL blk last) ||| 2^v) ||| 2^start).testBit x=true<->ExW A blk start last v x:=fun x=>U50 hN hb hAN hs
 have J:∀ y x,((Z2 (Q90 start) (W87 aL (W87 aL blk last) v) ||| 2^y) ||| 2^start).testBit x=true<->ExW A (W87 aL blk last) start v y x:=fun y x=>U50 hN hb hAN hs
 simp only[hP] at g1 g2;have Q:=g1;obtain⟨f,f1,f2,f3,f4⟩:=g1;have a1:=f3 0 O0;rw[f1] at a1;have hx:start<f 1/\f 1<32/\¬ (blk.testBit (f 1)=true\/A last (f 1)\/f 1=last):=by
  rcases f4 1 O0 O0 with hx | hx | hx
  .exact hx
  .rw[hx] at a1;exact absurd a1 (hI _)
  .exact absurd (Wf.cons (j:=0) a1 (f4 1 O0 O0) (Wf.zero.2 hx)) (g2 1 O0)
 refine⟨f 1,(hAN _ _ a1).2,(U45 hN hb hAN hs).2 ⟨⟨a1,hx.1,bN.2 fun hc=>hx.2.2 ((J38 hN hb hAN).1 hc)⟩,?_⟩⟩;refine R65 hb hAN (hAN _ _ a1).2 O0 ?_ fun j hj hw => ?_
 .simp only[J]
  refine⟨fun t=>f (t+1),rfl,f2,fun i hi=>f3 (i+1) O0,fun i h0 hi => ?_⟩;show ExW A (W87 aL blk last) start v (f 1) (f (i+1))
  by_cases e:i=k+1
  .subst e;exact .inr (.inr f2)
  have suf:=Wf.suffix f3 f4 (i:=i+1) O0;rw[f2] at suf;rcases f4 (i+1) O0 O0 with hy | hy | hy
  .refine .inl ⟨hy.1,hy.2.1,fun hc => ?_⟩
   rcases hc with hc | hc | hc
   .exact hy.2.2 ((J38 hN hb hAN).1 hc)
   .exact g2 _ O0 (Wf.cons hc (f4 (i+1) O0 O0) suf)
   .rw[hc] at suf
    exact g2 _ O0 suf
  .rw[hy] at suf
   exact absurd suf (g2 _ O0)
  .exact absurd ⟨f,f1,hy,fun t ht=>f3 t O0,fun t h0 ht=>f4 t h0 O0⟩ (g2 (i+1) O0)
 .simp only[J] at hw
  refine g2 (j+1) O0 (Wf.cons a1 (f4 1 O0 O0) (hw.mono fun x _ E => ?_));rcases E with E | rfl | rfl
  .exact .inl ⟨E.1,E.2.1,fun hc=>E.2.2 (.inl ((J38 hN hb hAN).2 hc))⟩
  .exact .inl hx
  .exact .inr (.inr rfl)
theorem V71{start:Nat}(hs:start<N):∀(k last:Nat) (p:List Nat) (blk v:Nat),v<N->Z91 aL N (k+1) blk start last v=true->exF aL N start (k+1) last p blk≠[]
 | k,last,p,blk,v,hv,h=>by
  rw[exF]
  cases hf:(aY N).find? (Z91 aL N (k+1) blk start last) with
  | none=>
   have:=List.find?_eq_none.1 hf v (cW.2 hv);exact absurd h this
  | some x=>
   have h1:=List.find?_some hf;have h2:=cW.1 (List.mem_of_find?_eq_some hf)
   cases k with
   | zero=>simp[exF]
   | succ k=>
    obtain⟨y,hy,E⟩:=C74 hN hb hAN hI hs h1;exact V71 hs k x _ _ y hy E
include hA
theorem K68(hL:0<cyV aL N N):4<=cyV aL N N/\∃ s j v,s<N/\j<N/\v<N/\s<j/\A s j/\Z91 aL N (cyV aL N N-2) 0 s j v=true:=by
 obtain⟨i1,i2⟩:=J49 (aL:=aL) (N:=N) N;obtain⟨v0,u0,w0,⟨a9,a5,ab,hc⟩,hd,a0⟩:=i2 hL;generalize aa:cyV aL N N=L at *
 obtain⟨q1,q2,q3⟩:=(G43 hb hAN).1 hc;have hd:0<B75 aL N u0 w0 (D86 aL N v0 u0 w0):=hd;have a0:L=B75 aL N u0 w0 (D86 aL N v0 u0 w0)+2:=a0;rcases D36 hb hAN (within:=D86 aL N v0 u0 w0) (to:=w0) a5 O0 with ⟨g,_⟩ | ⟨_,g1,g2⟩
 .omega
 generalize B75 aL N u0 w0 (D86 aL N v0 u0 w0)=d at *
 obtain⟨f,f1,f2,f3,f4⟩:=g1;have a1:∀ {a b:Nat},A a b->b≠a:=fun h e=>hI _ (by rw[e] at h;exact h)
 have a8:2<=d:=by
  refine aI fun h => ?_
  obtain rfl:d=1:=O0;have:=f3 0 O0;rw[f1,f2] at this;exact q3 this
 have cut:∀ i k,i+1<k->k<=d->¬ A (f i) (f k):=fun i k V hk ha=>by
  refine g2 (i+1+(d-k)) O0 ⟨fun t=>if t<=i then f t else f (t-(i+1)+k),by simp[f1],?_,fun t ht => ?_,fun t h0 ht => ?_⟩
  .simp only[show ¬ (i+1+(d-k)<=i) by omega,if_false]
   rw[show i+1+(d-k)-(i+1)+k=d by omega];exact f2
  .by_cases e:t<=i
   .by_cases e2:t=i
    .subst e2
     simp only[aD,if_true,show ¬ (t+1<=t) by omega,if_false];rw[show t+1-(t+1)+k=k by omega];exact ha
    .simp only[e,if_true,show t+1<=i by omega]
     exact f3 t O0
   .simp only[e,if_false,show ¬ (t+1<=i) by omega]
    rw[show t+1-(i+1)+k=t-(i+1)+k+1 by omega];exact f3 _ O0
  .by_cases e:t<=i
   .simp only[e,if_true];exact f4 t h0 O0
   .simp only[e,if_false];exact f4 _ O0 O0
 have dis:∀ i k,i<k->k<=d->f i≠f k:=fun i k V hk he=>by
  by_cases e:k=d
  .subst e
   exact g2 i V ⟨f,f1,by rw[he];exact f2,fun t ht=>f3 t O0,fun t h0 ht=>f4 t h0 O0⟩
  .exact cut i (k+1) O0 O0 (by rw[he];exact f3 k O0)
 have inn:∀ i,0<i->i<d->¬ A v0 (f i)/\f i≠v0:=fun i h0 hi=>by
  rcases (B33 hb hAN).1 (f4 i h0 O0) with h | h | h
  .exact h.2
  .exact absurd (f1.trans h.symm) (dis 0 i h0 O0)
  .exact absurd (h.trans f2.symm) (dis i d hi (aD _))
 obtain⟨c,Q⟩:∃ c:Nat->Nat,c=fun t=>if t%L=0 then v0 else f (t%L-1):=⟨_,rfl⟩
 have low:∀ a b,a<b->b<L->c a≠c b/\(A (c a) (c b)<->b=a+1\/(a=0/\b=L-1)):=fun a b a7 a6=>by
  have eb:c b=f (b-1):=by rw[Q];simp only[bV a6,show b≠0 by omega,if_false]
  have ea:c a=if a=0 then v0 else f (a-1):=by rw[Q];simp only[bV (show a<L by omega)]
  rw[eb,ea]
  by_cases e:a=0
  .subst e
   rw[if_pos rfl]
   by_cases e1:b=1
   .subst e1
    rw[show 1-1=0 from rfl,f1];exact⟨(a1 q1).symm,fun _ => .inl rfl,fun _=>q1⟩
   by_cases e2:b=L-1
   .rw[show b-1=d by omega,f2]
    exact⟨(a1 q2).symm,fun _ => .inr ⟨rfl,e2⟩,fun _=>q2⟩
   .obtain⟨r1,r2⟩:=inn (b-1) O0 O0
    exact⟨r2.symm,fun h=>absurd h r1,fun h=>O0⟩
  .rw[if_neg e]
   refine⟨dis _ _ O0 O0,fun h => ?_,fun h => ?_⟩
   .refine aI fun hn=>cut (a-1) (b-1) O0 O0 h
   .have:=f3 (a-1) O0
    rwa [show a-1+1=b-1 by omega] at this
 have Z:∀ i,c (i+L)=c i:=fun i=>by rw[Q];simp only[Nat.add_mod_right]
 have W:∀ i,c i=c (i%L):=fun i=>by rw[Q];simp only[Nat.mod_mod]
 have O:∀ i k,0<k->k<L->c i≠c (i+k)/\(A (c i) (c (i+k))<->k=1\/k=L-1):=fun i k h0 hk=>by
  have ha:=eZ i (show L > 0 by omega);have e:(i+k)%L=if i%L+k<L then i%L+k else i%L+k-L:=by
   rw[Nat.add_mod,bV hk]
   split
   .rename_i h;exact bV h
   .rename_i h
    rw[Nat.mod_eq_sub_mod O0,bV O0]
  rw[W i,W (i+k),e];generalize i%L=a at *
  split
  .obtain⟨r1,r2⟩:=low a (a+k) O0 O0
   exact⟨r1,r2.trans O0⟩
  .obtain⟨r1,r2⟩:=low (a+k-L) a O0 O0
   exact⟨r1.symm,(show A (c a) (c (a+k-L))<->A (c (a+k-L)) (c a) from ⟨hA _ _,hA _ _⟩).trans (r2.trans O0)⟩
 obtain⟨m,hm⟩:=N74 c;have gt:∀ k,0<k->k<L->c m<c (m+k):=fun k h0 hk=>by
  have:=hm (m+k);have:=(O m k h0 hk).1;omega
 have U:A (c m) (c (m+1)):=(O m 1 O0 O0).2.2 (.inl rfl);have E:A (c (m+1)) (c (m+2)):=(O (m+1) 1 O0 O0).2.2 (.inl rfl);have a4:¬ A (c m) (c (m+2)):=fun h=>by have:=(O m 2 O0 O0).2.1 h;omega
 have hs:=(hAN _ _ U).1;have hW:∀ x,((Z2 (Q90 (c m)) (W87 aL 0 (c (m+1))) ||| 2^c (m+2)) ||| 2^c m).testBit x=true<->ExW A 0 (c m) (c (m+1)) (c (m+2)) x:=fun x=>U50 hN hb hAN hs
 refine⟨O0,c m,c (m+1),c (m+2),hs,(hAN _ _ U).2,(hAN _ _ E).2,gt 1 O0 O0,U,(U45 hN hb hAN hs).2 ⟨⟨E,gt 2 O0 O0,O2⟩,?_⟩⟩;have a3:=gt 2 O0 O0;refine R65 hb hAN (hAN _ _ E).2 O0 ?_ fun j hj hw => ?_
 .simp only[hW]
  refine⟨fun t=>c (m+2+t),rfl,?_,fun t ht=>(O (m+2+t) 1 O0 O0).2.2 (.inl rfl),fun t h0 ht => ?_⟩
  .show c (m+2+(L-2))=c m
   rw[show m+2+(L-2)=m+L by omega];exact Z m
  .show ExW A 0 (c m) (c (m+1)) (c (m+2)) (c (m+2+t))
   by_cases e:t=L-2
   .rw[show m+2+t=m+L by omega];exact .inr (.inr (Z m))
   .have hx:=gt (t+2) O0 O0
    have hy:=O (m+1) (t+1) O0 O0;have hz:=(O (m+1+t) 1 O0 O0).2.2 (.inl rfl);rw[show m+1+t+1=m+2+t by omega] at hz;rw[show m+(t+2)=m+2+t by omega] at hx;rw[show m+1+(t+1)=m+2+t by omega] at hy;refine .inl ⟨hx,by have:=(hAN _ _ hz).2;omega,fun J => ?_⟩;rcases J with J | J | J
    .simp at J
    .have:=hy.2.1 J;omega
    .exact hy.1 J.symm
 .simp only[hW] at hw
  have a2:Wf A (fun x=>(D86 aL N (c (m+1)) (c (m+2)) (c m)).testBit x=true) j (c (m+2)) (c m):=hw.mono fun x ⟨y,hy⟩ hx=>(B33 hb hAN).2 (by
   rcases hx with hx | hx | hx
   .exact .inl ⟨(hAN _ _ hy).2,fun h=>hx.2.2 (.inr (.inl h)),fun h=>hx.2.2 (.inr (.inr h))⟩
   .exact .inr (.inl hx)
   .exact .inr (.inr hx))
  rcases D36 hb hAN (within:=D86 aL N (c (m+1)) (c (m+2)) (c m)) (to:=c m) (hAN _ _ E).2 O0 with ⟨_,h⟩ | ⟨h,_,h2⟩
  .exact h j a2
  .have h3:=(i1 (c (m+1)) (c (m+2)) (c m) ⟨(hAN _ _ E).1,(hAN _ _ E).2,a3,(G43 hb hAN).2 ⟨E,hA _ _ U,fun g=>a4 (hA _ _ g)⟩⟩ h).2
   have h3:L<=B75 aL N (c (m+2)) (c m) (D86 aL N (c (m+1)) (c (m+2)) (c m))+2:=h3;exact h2 j O0 a2
theorem K66{L s j:Nat}(E:s<j)(hn:nbB aL s j=true)(he:exF aL N s (L-2) j [s,j] 0≠[]):∀ w,j<w->scW aL N L s w≠[]
 | 0,h=>O0
 | w+1,h=>by
  rw[scW]
  by_cases e:scW aL N L s w=[]
  .have:j=w:=aI fun g=>K66 E hn he w O0 e
   subst this;rw[if_pos ⟨e,E,hn⟩];exact he
  .rw[if_neg (fun g=>e g.1)];exact e
theorem B66{L s:Nat}(h:scW aL N L s N≠[]):∀ v,s<v->scV aL N L v≠[]
 | 0,g=>O0
 | v+1,g=>by
  rw[scV]
  by_cases e:scV aL N L v=[]
  .have:s=v:=aI fun g2=>B66 h v O0 e
   subst this;rw[if_pos e];exact h
  .rw[if_neg e];exact e
theorem Q74:scF aL N=[]<->Chd A:=by
 rw[<- E73 hb hAN hA];unfold scF
 by_cases h0:cyV aL N N=0
 .rw[if_pos h0];exact⟨fun _=>h0,fun _=>rfl⟩
 .rw[if_neg h0]
  refine⟨fun h => ?_,fun h=>absurd h h0⟩;obtain⟨h4,s,j,v,hs,hj,hv,E,ha,hx⟩:=K68 hN hb hAN hA hI O0;refine absurd h (B66 hN hb hAN hA hI (K66 hN hb hAN hA hI E ((hb _ _).2 ha) ?_ N hj) N hs);obtain⟨k,hk⟩:∃ k,cyV aL N N-2=k+1:=⟨cyV aL N N-3,O0⟩
  rw[hk] at hx ⊢;exact V71 hN hb hAN hI hs k j _ _ v hv hx
end
end
end Go.Clo
namespace Go.Proofs.YtoiioigihocgbaaGreatDoor
open Go.Clo
section
variable {N v:Nat} {es:List Nat}
def C73(es:List Nat)(a b:Nat):Prop:=adj es a b=true
theorem E91(es:List Nat):∀ a b,C73 es a b->C73 es b a:=fun a b h=>by unfold C73 at *;rw[Z43];exact h
def D82(es:List Nat)(pre rest:List Nat)(N:Nb):Prop:=∀ a b,a ∈ rest->b ∈ rest->a≠b->(N a b=true<->V9 (C73 es) (· ∈ pre) a b)
theorem D82.start(es:List Nat)(rest:List Nat):D82 es [] rest (adj es):=fun a b _ _ _=>by
 constructor
 .exact fun h => .one h
 .intro h
  cases h with
  | one h=>exact h
  | more _ h _=>simp at h
theorem D82.step{pre rest:List Nat}{v:Nat}{N:Nb}(h:D82 es pre (v :: rest) N)(hv:v ∉ rest):D82 es (pre++[v]) rest (U9 N v rest):=by
 intro a b ha hb E;have J:v≠a:=fun e=>hv (e ▸ ha)
 have O:v≠b:=fun e=>hv (e ▸ hb)
 have h1:=h a b (by simp[ha]) (by simp[hb]) E;have h2:=h v a O2 (by simp[ha]) J;have h3:=h v b O2 (by simp[hb]) O;have e:U9 N v rest a b=true<->N a b=true\/(N v a=true/\N v b=true):=by
  simp[U9,K9,ha,hb,E]
 rw[e,h1,h2,h3]
 constructor
 .rintro (g | ⟨g1,g2⟩)
  .exact g.mono fun x hx=>by simp[hx]
  grind[V9.join,E91]
 .intro g
  rcases g.split (P:=(· ∈ pre)) (v:=v) (fun x hx=>by simpa using hx) with g | ⟨g1,g2⟩
  .exact .inl g
  .exact .inr ⟨g1.symm (E91 es),g2⟩
theorem C94{n:Nat}(es:List Nat):∀(E pre:List Nat) (out:List Bag) (N:Nb),D82 es pre E N->E.Nodup->∀(p1 p2:List Nat) (v:Nat),E=p1++v :: p2->v<out.length ->
  ∃(b:Bag),(Y72 n out N E)[v]? = some b/\b.var=v/\∀ w,b.key.testBit w=true<->w<n/\w ∈ p2/\V9 (C73 es) (fun x=>x ∈ pre\/x ∈ p1) v w
 | [],pre,out,N,hA,hnd,p1,p2,v,e,hv=>by simp at e
 | u :: rest,pre,out,N,hA,hnd,p1,p2,v,e,hv=>by
  rw[hO] at hnd
  cases p1 with
  | nil=>
   simp at e;obtain⟨rfl,rfl⟩:=e;have J:∀(o:List Nat) (out:List Bag) (N:Nb),u ∉ o->(Y72 n out N o)[u]? = out[u]? := by
    intro o
    induction o with
    | nil=>exact fun _ _ _=>rfl
    | cons x o ih=>
     grind[Y72]
   refine⟨J82 n N u rest,?_,rfl,fun w => ?_⟩
   .grind[Y72]
   .show(Q1 (K9 N u rest) n).testBit w=true<->_
    rw[E26];simp only[K9,aG,decide_eq_true_eq]
    constructor
    .rintro⟨h1,h2,h3⟩
     refine⟨h1,h3,((hA u w O2 (by simp[h3]) (fun e=>hnd.1 (e ▸ h3))).1 h2).mono fun x hx => .inl hx⟩
    .rintro⟨h1,h2,h3⟩
     refine⟨h1,(hA u w O2 (by simp[h2]) (fun e=>hnd.1 (e ▸ h2))).2 (h3.mono fun x hx => ?_),h2⟩
     simp_all
  | cons q p1=>
   simp at e;obtain⟨rfl,e⟩:=e;obtain⟨b,h1,h2,h3⟩:=C94 es rest (pre++[u]) (out.set u (J82 n N u rest)) (U9 N u rest) (hA.step hnd.1) hnd.2 p1 p2 v e (by simp_all);refine⟨b,h1,h2,fun w => ?_⟩;rw[h3 w]
   constructor
   .rintro⟨g1,g2,g3⟩
    refine⟨g1,g2,g3.mono fun x hx => ?_⟩
    grind
   .rintro⟨g1,g2,g3⟩
    refine⟨g1,g2,g3.mono fun x hx => ?_⟩
    grind
def RB(es:List Nat)(P:Nat->Prop)(v w:Nat):Prop:=w=v\/(¬ P w/\V9 (C73 es) P v w)
theorem J88{es:List Nat}(E:∀ e ∈ es,e<2^N){a b:Nat}(h:adj es a b=true):a<N/\b<N:=by
 unfold adj at h;simp only[aG,dY] at h;obtain⟨_,e,he,h1,h2⟩:=h;exact⟨R7 (E e he) h1,R7 (E e he) h2⟩
theorem J110{es:List Nat}(E:∀ e ∈ es,e<2^N){P:Nat->Prop}{u w:Nat}(h:V9 (C73 es) P u w):w<N:=by
 induction h with
 | one h=>exact(J88 E h).2
 | more _ _ _ ih=>exact ih
theorem J83{es:List Nat}{n f:Nat}{l:List Int}(hn:n<=32)(V:∀ e ∈ es,e<2^n)(hp:V72 l f n){p1 p2:List Nat}(e:Z85 n f l=p1++v :: p2):
  ∃ b,(B50 es n f l)[v]? = some b/\∀ w,(Y34 b).testBit w=true<->RB es (· ∈ p1) v w:=by
 obtain⟨E,h1,h2,h3,h4⟩:=J77 hp;obtain rfl:=Y88 (n:=n) h1;have J:v<n:=h3 v (by rw[e];simp);obtain⟨b,g1,g2,g3⟩:=C94 (n:=n) es (Z85 n f l) [] (aF n G50) (adj es) (D82.start es _) h2 p1 p2 v e (by simpa using J);refine⟨b,g1,fun w => ?_⟩;have hs:Y34 b=b.key ||| 2^v:=by
  grind[Y34]
 rw[hs,aV,cO,g3,aR];have O:∀ x,x<n->x ∈ p1\/x=v\/x ∈ p2:=fun x hx=>by
  grind[Q58]
 rw[e] at h2;have U:=gT.1 h2;have Q:∀ {w},V9 (C73 es) (fun x=>x ∈ ([]:List Nat)\/x ∈ p1) v w<->V9 (C73 es) (· ∈ p1) v w:=by
  simp_all
 grind[RB,ev,J110,absurd]
end
end Go.Proofs.YtoiioigihocgbaaGreatDoor
namespace Go.Lp
section
variable {j r:Nat}
theorem K101{m R:Nat}{T:Tab}{c:Nat}(h:∃ i,i<m/\0<T.a i c):∃ r,Leaves m R T c r:=by
 have key:∀ k,(∃ i,i<k/\0<T.a i c)->∃ r,r<k/\0<T.a r c/\∀ i,i<k->0<T.a i c->T.a r R/T.a r c<T.a i R/T.a i c\/(T.a r R/T.a r c=T.a i R/T.a i c/\T.B r<=T.B i):=by
  intro k
  induction k with
  | zero=>rintro⟨i,h,_⟩;omega
  | succ k ih=>
   rintro⟨i,hi,hp⟩
   by_cases hk:0<T.a k c
   .by_cases J:∃ i,i<k/\0<T.a i c
    .obtain⟨r,hr,h1,h2⟩:=ih J
     by_cases hb:T.a r R/T.a r c<T.a k R/T.a k c\/(T.a r R/T.a r c=T.a k R/T.a k c/\T.B r<=T.B k)
     .refine⟨r,O0,h1,fun j hj E => ?_⟩
      by_cases e:j=k
      .subst e;exact hb
      .exact h2 j O0 E
     .refine⟨k,O0,hk,fun j hj E => ?_⟩
      by_cases e:j=k
      .subst e;exact .inr ⟨rfl,aD _⟩
      .have h3:=h2 j O0 E
       generalize T.a r R/T.a r c=x at *
       generalize T.a k R/T.a k c=y at *
       generalize T.a j R/T.a j c=z at *
       have h4:¬ x<y:=fun h=>hb (.inl h)
       have h5:x=y->T.B k<T.B r:=fun h=>by
        refine Nat.lt_of_not_le fun O=>hb (.inr ⟨h,O⟩)
       by_cases e2:x=y
       .have:=h5 e2
        rcases h3 with h3 | ⟨h3,h6⟩
        .exact .inl (by rw[<- e2];exact h3)
        .exact .inr ⟨by rw[<- e2];exact h3,O0⟩
       .left
        have h7:y<x:=by grind
        rcases h3 with h3 | ⟨h3,_⟩
        .grind
        .rw[<- h3];exact h7
    .refine⟨k,O0,hk,fun j hj E => ?_⟩
     by_cases e:j=k
     .subst e;exact .inr ⟨rfl,aD _⟩
     .exact absurd ⟨j,O0,E⟩ J
   .obtain⟨r,hr,h1,h2⟩:=ih ⟨i,by
     by_cases e:i=k
     .subst e;exact absurd hp hk
     .omega,hp⟩
    refine⟨r,O0,h1,fun j hj E => ?_⟩
    by_cases e:j=k
    .subst e;exact absurd E hk
    .exact h2 j O0 E
 obtain⟨r,h1,h2,h3⟩:=key m h;exact⟨r,h1,h2,h3⟩
theorem C92{C:Nat}{g:Nat->Rat}:∀ {k:Nat},(∃ j,j<k/\g j<0)->∃ c,c<k/\g c<0/\∀ j,j<c->0<=g j
 | 0,h=>by obtain⟨j,h,_⟩:=h;omega
 | k+1,h=>by
  by_cases E:∃ j,j<k/\g j<0
  .obtain⟨c,h1,h2,h3⟩:=C92 (C:=C) E
   exact⟨c,O0,h2,h3⟩
  .obtain⟨j,h1,h2⟩:=h
   have:j=k:=by
    refine aI fun hn=>E ⟨j,O0,h2⟩
   subst this;exact⟨j,O0,h2,fun i hi=>aI fun hn=>E ⟨i,hi,by grind⟩⟩
section
variable {n m:Nat} {s:Nat->Nat->Bool}
def R43(n m:Nat)(s:Nat->Nat->Bool):Tab:=tabK n m s (steps n m s)
theorem N85(E:∀ v,v<n->∃ r,r<m/\s r v=true)(hj:j<n+m):0<=(R43 n m s).g j:=by
 refine aI fun hn => ?_
 have hc:=tabK_can (n:=n) (m:=m) (s:=s) (aD _);have he:=tabK_eqv (n:=n) (m:=m) (s:=s) (aD _);obtain⟨c,h1,h2,h3⟩:=C92 (C:=n+m) (g:=(R43 n m s).g) (k:=n+m) ⟨j,hj,by grind⟩;obtain⟨r,hr⟩:=K101 (R:=n+m+1) (bounded E hc he h1);exact U89 (n:=n) (m:=m) (s:=s) ⟨_,c,r,⟨h1,h2,h3⟩,hr,rfl⟩
def valT(n m:Nat)(s:Nat->Nat->Bool):Rat:=(R43 n m s).g (n+m+1)
theorem G89{k:Nat}(hk:k<m):(U58 n m s).a r (n+k)=if k=r then 1 else 0:=by
 show(if n+k<n then _ else if n+k<n+m then(if n+k=n+r then(1:Rat) else 0) else _)=_;rw[if_neg O0,if_pos O0]
 by_cases e:k=r
 .rw[if_pos e,if_pos O0]
 .rw[if_neg e,if_neg O0]
theorem E86{v:Nat}(hv:v<n):(U58 n m s).a r v=if s r v=true then 1 else 0:=by
 show(if v<n then(if s r v then(1:Rat) else 0) else _)=_;rw[if_pos hv]
theorem W88:(U58 n m s).a r (n+m+1)=1:=by
 show(if n+m+1<n then _ else if n+m+1<n+m then _ else if n+m+1=n+m then(-1:Rat) else 1)=1;rw[if_neg O0,if_neg O0,if_neg O0]
theorem Y80:(U58 n m s).g j=if j<n then -1 else 0:=rfl
theorem K97(E:∀ v,v<n->∃ r,r<m/\s r v=true):∃ y:Nat->Rat,(∀ r,r<m->0<=y r)/\valT n m s=Z25 m y/\(∀ v,v<n->1<=Z25 m fun r=>y r*(if s r v=true then 1 else 0)) /\
  ∀ j,(R43 n m s).g j-(U58 n m s).g j=Z25 m fun r=>y r*(U58 n m s).a r j:=by
 have he:=tabK_eqv (n:=n) (m:=m) (s:=s) (aD _);obtain⟨y,hy⟩:=he.goal;have hy:∀ j,(R43 n m s).g j-(U58 n m s).g j=Z25 m fun r=>y r*(U58 n m s).a r j:=hy
 refine⟨y,fun r hr => ?_,?_,fun v hv => ?_,hy⟩
 .have h1:=hy (n+r)
  have h2:=N85 (s:=s) E (j:=n+r) O0;rw[Y80,if_neg O0,R71 hr fun i hi hn=>by rw[G89 hr,if_neg (eT hn)];grind,G89 hr,if_pos rfl] at h1
  grind
 .have h1:=hy (n+m+1)
  rw[Y80,if_neg O0,Q35 (g:=y) fun i hi=>by rw[W88];grind] at h1;unfold valT;grind
 .have h1:=hy v
  have h2:=N85 (s:=s) E (j:=v) O0;rw[Y80,if_pos hv,Q35 (g:=fun r=>y r*(if s r v=true then 1 else 0)) fun i hi=>by rw[E86 hv]] at h1
  grind
theorem E81{f g:Nat->Rat}:∀ {n:Nat},(∀ i,i<n->f i<=g i)->Z25 n f<=Z25 n g
 | 0,_=>by simp[Y77]
 | n+1,h=>by
  rw[W33,W33];have h1:=E81 (n:=n) fun i hi=>h i O0
  have h2:=h n O0
  grind
theorem val_ge(E:∀ v,v<n->∃ r,r<m/\s r v=true)(hn:0<n):1<=valT n m s:=by
 obtain⟨y,h1,h2,h3,_⟩:=K97 E;have h4:=h3 0 hn;have h5:Z25 m (fun r=>y r*(if s r 0=true then 1 else 0))<=Z25 m y:=E81 fun r hr=>by
  have:=h1 r hr
  split<;>grind
 rw[h2];grind
theorem val_one(E:∀ v,v<n->∃ r,r<m/\s r v=true)(hn:0<n)(hv:valT n m s<=1):∃ r,r<m/\∀ v,v<n->s r v=true:=by
 obtain⟨y,h1,h2,h3,_⟩:=K97 E;have V:=val_ge E hn;have U:Z25 m y=1:=by grind
 have J:∃ r,r<m/\0<y r:=by
  refine aI fun Q => ?_
  have:Z25 m y=0:=D71 fun i hi=>by
   have a1:=h1 i hi;have a2:¬ 0<y i:=fun h=>Q ⟨i,hi,h⟩
   grind
  grind
 obtain⟨r,hr,hp⟩:=J;refine⟨r,hr,fun v hv => ?_⟩;refine aI fun O => ?_
 have h4:=h3 v hv;have h5:0<Z25 m fun i=>y i-y i*(if s i v=true then 1 else 0):=U94 hr (fun i hi=>by
  have:=h1 i hi
  split<;>grind) (by rw[if_neg O];grind)
 have h6:Z25 m (fun i=>y i-y i*(if s i v=true then 1 else 0))=Z25 m y+(-1)*Z25 m fun i=>y i*(if s i v=true then 1 else 0):=by
  rw[<- W74,<- K82];exact Q35 fun i hi=>by grind
 grind
theorem B91(J:∀ v,v<n->∃ r,r<m/\s r v=true):∃(B:Nat->Nat) (b:Nat->Rat),(∀ i,i<m->0<=b i)/\(∀ r,r<m->(Z25 m fun i=>(U58 n m s).a r (B i)*b i)=1) /\
  valT n m s=(Z25 m fun i=>(if B i<n then 1 else 0)*b i)/\∀ i,i<m->B i<n+m:=by
 have hc:=tabK_can (n:=n) (m:=m) (s:=s) (aD _);have he:=tabK_eqv (n:=n) (m:=m) (s:=s) (aD _);have O:∀ r,r<m->(Z25 m fun i=>(U58 n m s).a r ((R43 n m s).B i)*(R43 n m s).a i (n+m+1))=1:=by
  intro r hr;obtain⟨c,E⟩:=he.back r hr;have E:∀ j,(U58 n m s).a r j=Z25 m fun k=>c k*(R43 n m s).a k j:=E
  have h1:∀ i,i<m->(U58 n m s).a r ((R43 n m s).B i)=c i:=fun i hi=>by
   rw[E,R71 hi fun k hk hn=>by
    have h2:(R43 n m s).a k ((R43 n m s).B i)=if k=i then 1 else 0:=hc.unit k i hk hi;rw[h2,if_neg hn];grind]
   have h2:(R43 n m s).a i ((R43 n m s).B i)=if i=i then 1 else 0:=hc.unit i i hi hi;rw[h2,if_pos rfl];grind
  rw[Q35 (g:=fun k=>c k*(R43 n m s).a k (n+m+1)) fun i hi=>by rw[h1 i hi],<- E,W88]
 refine⟨(R43 n m s).B,fun i=>(R43 n m s).a i (n+m+1),fun i hi=>hc.rhs i hi,O,?_,hc.lt⟩;obtain⟨y,h1,h2,h3,h4⟩:=K97 J;have h5:∀ i,i<m->(0:Rat)-(if (R43 n m s).B i<n then -1 else 0)=Z25 m fun r=>y r*(U58 n m s).a r ((R43 n m s).B i):=fun i hi=>by
  have h6:=h4 ((R43 n m s).B i);have h7:(R43 n m s).g ((R43 n m s).B i)=0:=hc.goal i hi;rw[h7,Y80] at h6;exact h6
 have h8:(Z25 m fun i=>(Z25 m fun r=>y r*(U58 n m s).a r ((R43 n m s).B i))*(R43 n m s).a i (n+m+1))=Z25 m y:=by
  rw[Q35 (g:=fun i=>Z25 m fun r=>y r*((U58 n m s).a r ((R43 n m s).B i)*(R43 n m s).a i (n+m+1))) fun i hi=>by
   rw[Rat.mul_comm,<- W74];exact Q35 fun r hr=>by grind,G103]
  exact Q35 fun r hr=>by rw[W74,O r hr];grind
 rw[h2,<- h8];exact Q35 fun i hi=>by
  rw[<- h5 i hi]
  split<;>grind
theorem val_le(J:∀ v,v<n->∃ r,r<m/\s r v=true)(hr:r<m)(E:∀ v,v<n->s r v=true):valT n m s<=1:=by
 obtain⟨B,b,h1,h2,h3,h4⟩:=B91 J;have key:Z25 m (fun i=>(if B i<n then 1 else 0)*b i)<=Z25 m fun i=>(U58 n m s).a r (B i)*b i := ?_
 .rw[h2 r hr] at key;rw[h3];exact key
 refine E81 fun i hi => ?_
 have hb:=h1 i hi
 by_cases e:B i<n
 .rw[if_pos e,E86 e,E _ e,if_pos rfl];exact Rat.le_refl
 .rw[if_neg e]
  have:=fY (C80 (m:=m) (s:=s) (n:=n) (i:=r) (h4 i hi)) hb
  grind
theorem Y89:∀ n:Nat,Z25 n (fun _=>1)=(n:Rat)
 | 0=>rfl
 | n+1=>by rw[W33,Y89];simp[Rat.natCast_add]
theorem val_small(E:∀ v,v<n->∃ r,r<m/\s r v=true):valT n m s<=(m:Rat):=by
 obtain⟨B,b,h1,h2,h3,h4⟩:=B91 E;rw[h3,<- Y89];refine E81 fun i hi => ?_
 have hb:=h1 i hi
 by_cases e:B i<n
 .rw[if_pos e]
  obtain⟨r,hr,hs⟩:=E (B i) e;have h5:=h2 r hr;have h6:(U58 n m s).a r (B i)=1:=by rw[E86 e,hs,if_pos rfl]
  have h7:Z25 m (fun k=>if k=i then b i else 0)<=Z25 m fun k=>(U58 n m s).a r (B k)*b k:=E81 fun k hk=>by
   by_cases e2:k=i
   .subst e2;rw[if_pos rfl,h6];grind
   .rw[if_neg e2]
    exact fY (C80 (m:=m) (s:=s) (n:=n) (i:=r) (h4 k hk)) (h1 k hk)
  rw[R71 hi fun k hk hn=>if_neg hn,if_pos rfl,h5] at h7
  grind
 .rw[if_neg e];grind
end
end
end Go.Lp
