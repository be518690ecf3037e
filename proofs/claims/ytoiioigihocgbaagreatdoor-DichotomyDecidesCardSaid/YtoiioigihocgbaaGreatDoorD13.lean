/-
  Plain elimination;the program's Bags (texts of chapter 30,by name).
  Contract: the solver's freeWidth.
  Contract: OnesCount32 below 64.
  Contracts: hypergraph.Induced,hypergraph.Components.
  Contract: the closure of the solver's first.
  Contract: the solver's first.
-/
import Derived.Test.YtoiioigihocgbaaGreatDoorD11
import Derived.Test.YtoiioigihocgbaaGreatDoorD12
set_option maxHeartbeats 8000000
set_option maxRecDepth 100000
set_option linter.all false
noncomputable section
open Bool renaming and_eq_true->aG,eq_iff_iff->eX
open Classical renaming byContradiction->aI
open Go.IntKind renaming bits->dW,signed->eK,u32->eW,wrap->eY
open Go.Value renaming bool->dU,int->cD
open List renaming all_eq_true->bW,drop_of_length_le->cM,foldl_cons->dF,getD_eq_getElem?_getD->aP,getElem?_append_left->bQ,getElem?_append_right->bS,getElem?_drop->dB,getElem?_eq_getElem->aE,getElem?_eq_some_iff->aJ,getElem?_map->cP,getElem?_of_mem->cH,getElem?_set->cQ,getElem_of_mem->gL,length_append->bH,length_cons->cV,length_map->gM,length_set->dO,length_take->cK,mem_append->dN,mem_cons->aU,mem_cons_of_mem->eJ,mem_map->gN,mem_of_getElem?->aH,mem_of_mem_drop->fO,mem_range->cW,mem_singleton->dJ,nil_append->eR,pairwise_iff_getElem->fD,range->aY,replicate->aF,take_of_length_le->gJ
open Nat renaming add_zero->eM,beq->bR,ble->dD,eq_of_testBit_eq->bZ,le_refl->aD,le_trans->bK,lt_of_lt_of_le->aO,mod_eq_of_lt->bV,pow_le_pow_right->aK,shiftRight_eq_div_pow->eO,testBit_lt_two_pow->dV,testBit_or->aV,testBit_two_pow->aR,two_pow_pos->aQ,zero_add->cF
open Ne renaming symm->eT
open Option renaming elim_some->aN,map_eq_some_iff->bU
namespace Go.Proofs.YtoiioigihocgbaaGreatDoor
open Go.Clo
section
variable {H:Y0} {a i n o top u v x:Nat} {l rest:List Nat} {p:Nat->Bool}
theorem N25{q:Nat->Bool}(h:∀ w,w<n->p w=q w):Q1 p n=Q1 q n:=by
 apply bZ;intro i;rw[E26,E26]
 by_cases hi:i<n
 .rw[h i hi]
 .simp[hi]
abbrev Nb:=Nat->Nat->Bool
def K9(N:Nb)(v:Nat)(rest:List Nat)(w:Nat):Bool:=N v w&&decide (w ∈ rest)
def U9(N:Nb)(v:Nat)(rest:List Nat):Nb:=fun a b=>N a b || (decide (a≠b)&&(K9 N v rest a&&K9 N v rest b))
def Y61(N:Nb)(v:Nat)(rest:List Nat):Int:=match rest.find? (N v) with
 | some w=>(w:Int)
 | none => -1
def J82(n:Nat)(N:Nb)(v:Nat)(rest:List Nat):Bag:=⟨v,Q1 (K9 N v rest) n,Y61 N v rest⟩
def Y72(n:Nat):List Bag->Nb->List Nat->List Bag
 | out,_,[]=>out
 | out,N,v :: rest=>Y72 n (out.set v (J82 n N v rest)) (U9 N v rest) rest
theorem V94(n:Nat):∀(E:List Nat) (out:List Bag) (N:Nb),(Y72 n out N E).length=out.length
 | [],_,_=>rfl
 | v :: rest,out,N=>by rw[Y72,V94 n rest];simp
theorem R19{n:Nat}(hn:n<=32)(p:Nat->Bool):Q1 p n<4294967296:=
 aO (G11 p n) (bK (aK (by omega) hn) (by decide))
theorem M27{n:Nat}(hn:n<=1000000)(z:List Value)(k:List Value->Nat->Nat->Prop):D30 (.int .i64 (n:Int)) (.int .i64 (n:Int)) z k=k (Q19 z n) n n:=by
 show cond (dD n n&&dD n 1000000) (Go.Clo.spine (Q19 z n) fun cs=>k cs n n) False=_;rw[V6 (aD n),V6 hn,V14];rfl
theorem C23:∀ n:Nat,Q19 [.int .u32 0] n=K12 (aF n 0)
 | 0=>rfl
 | n+1=>by rw[Q19,C23 n];rfl
def G50:Bag:=⟨0,0,0⟩
theorem Z89:∀ n:Nat,Q19 [.int .i64 0,.int .u32 0,.int .i64 0] n=R34 (aF n G50)
 | 0=>rfl
 | n+1=>by rw[Q19,Z89 n];rfl
theorem Z92{b:Bag}:∀ {bs:List Bag} {v:Nat},v<bs.length->B12 (R34 bs) (v*3) (W73 b)=R34 (bs.set v b)
 | [],v,h=>by simp at h
 | c :: bs,0,h=>by simp[R34,B12,W73]
 | c :: bs,v+1,h=>by
  have ih:=Z92 (b:=b) (bs:=bs) (v:=v) (by simpa using h);have e1:R34 (c :: bs)=W73 c++R34 bs:=rfl;have e2:R34 ((c :: bs).set (v+1) b)=W73 c++R34 (bs.set v b):=rfl;have e3:(v+1)*3=3+v*3:=by omega
  rw[e1,e2,<- ih,e3];unfold B12;have hc:(W73 c).length=3:=rfl;rw[List.take_append,List.drop_append,hc,gJ (by rw[hc];omega),List.drop_eq_nil_of_le (by rw[hc];omega)];have a1:3+v*3-3=v*3:=by omega
  have a2:3+v*3+(W73 b).length-3=v*3+(W73 b).length:=by omega
  rw[a1,a2];simp
theorem Z19{α:Type}{l:List α}{x:α}(h:l[i]? = some x):l.drop i=x :: l.drop (i+1):=by
 have hi:=N12 h;rw[List.drop_eq_getElem_cons hi];congr 1;exact(aJ.mp h).2
theorem Q44(E:l.Nodup)(h:l[i]? = some x):x ∉ l.drop (i+1):=by
 have h1:(l.drop i).Nodup:=E.sublist (List.drop_sublist _ _);rw[Z19 h] at h1;exact(List.nodup_cons.mp h1).1
structure Z44 (N:Nb):Prop where
 symm:∀ a b,N a b=N b a
 irr:∀ a,N a a=false
theorem Y70(es:List Nat):Z44 (adj es):=⟨Z43 es,E43 es⟩
theorem Y66{N:Nb}(h:Z44 N)(v:Nat)(rest:List Nat):Z44 (U9 N v rest):=by
 refine⟨fun a b => ?_,fun a => ?_⟩
 .unfold U9
  rw[h.symm a b,Bool.and_comm (K9 N v rest a)];have:decide (a≠b)=decide (b≠a):=by congr 1;apply propext;exact ne_comm
  rw[this]
 .simp[U9,h.irr]
theorem G105{N:Nb}(h:Z44 N)(v n:Nat)(rest:List Nat):Q1 (K9 N v (v :: rest)) n=Q1 (K9 N v rest) n:=
 N25 fun w _=>by
  unfold K9
  by_cases hw:w=v
  .subst hw;simp[h.irr]
  .simp[hw]
theorem K107{N:Nb}(h:Z44 N){v:Nat}(hu:u ∈ rest)(hk:K9 N v rest u=false):Q1 (K9 N u (v :: rest)) n=Q1 (K9 (U9 N v rest) u rest) n:=
 N25 fun w _=>by
  have E:N v u=false:=by simpa [K9,hu] using hk
  have J:N u v=false:=by rw[h.symm];exact E
  simp only[K9,U9,E,aU,Bool.false_and,Bool.and_false,Bool.or_false]
  by_cases hw:w=v
  .subst hw;simp[J]
  .simp[hw]
theorem N107{N:Nb}(h:Z44 N){v:Nat}(U:v ∉ rest)(hk:K9 N v rest u=true):
  Z2 (Q1 (K9 N u (v :: rest)) n ||| Q1 (K9 N v rest) n) (2^u ||| 2^v)=Q1 (K9 (U9 N v rest) u rest) n:=by
 apply bZ;intro w;rw[N1,aV,aV,E26,E26,E26,aR,aR];have O:=hk;simp only[K9,aG,decide_eq_true_eq] at O
 by_cases E:w<n
 .simp only[E,decide_true,Bool.true_and]
  by_cases Q:w=u
  .subst Q
   simp[K9,U9,h.irr]
  .have e1:decide (u=w)=false:=by simp;omega
   have e3:decide (u≠w)=true:=by simp;omega
   by_cases J:w=v
   .subst J
    simp[K9,U]
   .have e2:decide (v=w)=false:=by simp;omega
    simp only[e1,e2,Bool.or_false,Bool.not_false,Bool.and_true];simp only[K9,U9,e3,aU,J,false_or,Bool.true_and];have:(N v u&&decide (u ∈ rest))=true:=hk;rw[this,Bool.true_and]
    cases decide (w ∈ rest)<;>simp
 .simp[E]
def R99(N:Nb)(v:Nat)(E rest:List Nat)(u:Nat)(par:Int):Prop:=
 (par = -1/\∀ w,w<u->K9 N v rest w=false)\/∃ p jp:Nat,par=p/\E[jp]? = some p/\K9 N v rest p=true/\∀ w jw:Nat,w<u->E[jw]? = some w->K9 N v rest w=true->jp<=jw
theorem B43(h:l.Nodup){j:Nat}(hi:l[i]? = some x)(hj:l[j]? = some x):i=j:=by
 rcases Nat.lt_trichotomy i j with hl | he | hg
 .have:=(fD.mp h) i j (N12 hi) (N12 hj) hl
  exact absurd (by rw[(aJ.mp hi).2,(aJ.mp hj).2]) this
 .exact he
 .have:=(fD.mp h) j i (N12 hj) (N12 hi) hg
  exact absurd (by rw[(aJ.mp hi).2,(aJ.mp hj).2]) this
theorem D107{N:Nb}{E:List Nat}{par:Int}(a2:E.Nodup)(a0:∀ w ∈ E,w<n)(h:R99 N v E (E.drop (i+1)) n par):par=Y61 N v (E.drop (i+1)):=by
 unfold Y61
 cases hf:(E.drop (i+1)).find? (N v) with
 | none=>
  rw[List.find?_eq_none] at hf;rcases h with ⟨h,_⟩ | ⟨p,jp,_,_,hk,_⟩
  .exact h
  .simp only[K9,aG,decide_eq_true_eq] at hk
   exact absurd hk.1 (hf p hk.2)
 | some w0=>
  obtain⟨a3,t,ht,W,J⟩:=List.find?_eq_some_iff_getElem.mp hf;have h0:E[i+1+t]? = some w0:=by
   rw[<- W,<- dB];exact aE ht
  have Q:w0 ∈ E.drop (i+1):=W ▸ List.getElem_mem ht;have U:K9 N v (E.drop (i+1)) w0=true:=by simp[K9,a3,Q]
  have O:=a0 w0 (fO Q);rcases h with ⟨_,h⟩ | ⟨p,jp,rfl,a4,hk,Z⟩
  .rw[h w0 O] at U;cases U
  .have a6:=Z w0 _ O h0 U
   simp only[K9,aG,decide_eq_true_eq] at hk;obtain⟨s,hs,V⟩:=gL hk.2;have a5:E[i+1+s]? = some p:=by
    rw[<- V,<- dB];exact aE hs
   have hj:=B43 a2 a4 a5
   by_cases a1:s<t
   .have:=J s a1
    rw[V] at this;simp[hk.1] at this
   .have:s=t:=by omega
    subst this;rw[<- V,W]
theorem E107:[cD .i64 0,.int .i64 0,.int .i64 0,.int .i64 0,.int .i64 0,.int .i64 0,.int .i64 0,.int .i64 0,.int .i64 0,.int .i64 0,.int .i64 0,.int .i64 0,.int .i64 0,.int .i64 0,.int .i64 0,.int .i64 0,.int .i64 0,.int .i64 0,.int .i64 0,.int .i64 0,.int .i64 0,.int .i64 0,.int .i64 0,.int .i64 0,.int .i64 0,.int .i64 0,.int .i64 0,.int .i64 0,.int .i64 0,.int .i64 0,.int .i64 0,.int .i64 0]=U4 (aF 32 0):=rfl
theorem C107(b:Nat)(k:VP):D90 (.pointer (some ⟨b,0,none⟩)) 32 1 none none none k=k (.slice (some ⟨b,0,none⟩) 32 32):=by
 have e:B26 (some ⟨b,0,none⟩) 32 32 1 none none none false=some (.slice (some ⟨b,0,none⟩) 32 32):=rfl;unfold D90;simp only[e,E7]
theorem Q100{l:List Int}(h:l.length<=32):B12 (U4 (aF 32 0)) 0 (U4 l)=U4 (l++aF (32-l.length) 0):=by
 simp only[B12,U4,List.map_replicate,List.take_zero,eR,List.drop_replicate,List.map_append,gM,cF]
theorem N88{f:Nat}:∀ {m i:Nat},i<m->(R6 f m)[i]? = some ((f:Int)-1-i)
 | 0,i,h=>by omega
 | m+1,i,h=>by
  unfold R6
  by_cases hi:i<m
  .rw[bQ (by rw[Y17];exact hi)];exact N88 hi
  .have:i=m:=by omega
   subst this;rw[bS (by rw[Y17];omega),Y17];simp
theorem Q77{f:Nat}:∀ {m:Nat} {x:Int},x ∈ R6 f m->∃ i:Nat,i<m/\x=(f:Int)-1-i
 | 0,x,h=>by simp[R6] at h
 | m+1,x,h=>by
  unfold R6 at h;simp only[dN,dJ] at h;rcases h with h | h
  .obtain⟨i,hi,e⟩:=Q77 h;exact⟨i,by omega,e⟩
  .exact⟨m,by omega,h⟩
theorem R84{f:Nat}:∀ m:Nat,(R6 f m).Nodup
 | 0=>by simp[R6]
 | m+1=>V89 (R84 m) fun h=>by obtain⟨i,hi,e⟩:=Q77 h;omega
theorem R85:∀{l:List Int},(∀ x ∈ l,0<=x)->l.Nodup->(l.map Int.toNat).Nodup
 | [],_,_=>by simp
 | x :: l,h0,h=>by
  rw[List.nodup_cons] at h;rw[List.map_cons,List.nodup_cons];refine⟨fun hm => ?_,R85 (fun y hy=>h0 y (eJ _ hy)) h.2⟩;obtain⟨y,hy,e⟩:=gN.mp hm;have h1:=h0 x List.mem_cons_self;have h2:=h0 y (eJ _ hy);have:y=x:=by omega
  subst this;exact h.1 hy
theorem J77{l:List Int}{f:Nat}(h:V72 l f n):∃ E:List Nat,(l++R6 f f=E.map fun(w:Nat)=>(w:Int))/\E.Nodup/\(∀ w ∈ E,w<n)/\E.length=n:=by
 obtain⟨h1,h2,h3⟩:=h;have J:∀ x ∈ l++R6 f f,0<=x/\x<n:=by
  intro x hx;rcases dN.mp hx with hx | hx
  .have:=h2 x hx;omega
  .obtain⟨i,hi,e⟩:=Q77 hx;omega
 refine⟨(l++R6 f f).map Int.toNat,?_,R85 (fun x hx=>(J x hx).1) ?_,?_,?_⟩
 .rw[List.map_map]
  conv=>lhs;rw[<- List.map_id (l++R6 f f)]
  exact List.map_congr_left fun x hx=>by have:=(J x hx).1;simp;omega
 .rw[List.nodup_append]
  exact⟨h3,R84 f,fun a ha b hb e=>by
   subst e;have:=h2 a ha;obtain⟨i,hi,e⟩:=Q77 hb;omega⟩
 .intro w hw
  obtain⟨x,hx,rfl⟩:=gN.mp hw;have:=J x hx;omega
 .simp[Y17];omega
theorem Q58{E:List Nat}{w:Nat}(O:E.Nodup)(J:∀ w ∈ E,w<n)(Q:E.length=n)(hw:w<n):w ∈ E:=by
 refine aI fun h => ?_
 have h1:(w :: E).Nodup:=List.nodup_cons.mpr ⟨h,O⟩;have h2:=List.Nodup.length_le_of_subset (l₂:=aY n) h1 fun x hx=>by
  rw[cW];rcases aU.mp hx with rfl | hx
  .exact hw
  .exact J x hx
 simp at h2;omega
def refuse(c:Int):Value := .tuple ⟨[.slice none 0 0,.int .i64 c]⟩
structure M13 (K:Y0) (top a o:Nat) (near:List Nat) (out:List Bag) (H:Y0):Prop where
 near:J0 H a=some (.cells (K12 near) 0)
 out:J0 H o=some (.cells (R34 out) 0)
 same:∀ q,q<top->q≠a->q≠o->J0 H q=J0 K q
theorem M13.setNear{K:Y0}{top a o:Nat}{near:List Nat}{out:List Bag}(h:M13 K top a o near out H)(E:a≠o)(l:List Nat):M13 K top a o l out (hs H a (some (.cells (K12 l) 0))):=
 ⟨Z11 _ _ _,by rw[Z1 _ (by omega)];exact h.out,fun q h0 h1 h2=>by rw[Z1 _ h1];exact h.same q h0 h1 h2⟩
theorem M13.setOut{K:Y0}{near:List Nat}{out:List Bag}(h:M13 K top a o near out H)(E:a≠o)(l:List Bag):M13 K top a o near l (hs H o (some (.cells (R34 l) 0))):=
 ⟨by rw[Z1 _ E];exact h.near,Z11 _ _ _,fun q h0 h1 h2=>by rw[Z1 _ h2];exact h.same q h0 h1 h2⟩
theorem M13.setNew{K:Y0}{near:List Nat}{out:List Bag}(h:M13 K top a o near out H){q:Nat}(hq:top<=q)(ha:a<top)(ho:o<top)(b:Option V3):M13 K top a o near out (hs H q b):=
 ⟨by rw[Z1 _ (by omega)];exact h.near,by rw[Z1 _ (by omega)];exact h.out,fun r h0 h1 h2=>by rw[Z1 _ (by omega)];exact h.same r h0 h1 h2⟩
theorem K109 (N0 free:Int) (A:Option Addr) (es:List Nat) (cap:Nat) (P:Option Addr) (l:List Int) (capP:Nat) (H:Y0) (nx:Nat) (hS:Sl H nx A (K12 es)) (hsm:U14 es)
  (hP:Sl H nx P (U4 l)) (hP0:Has H nx P) (hl:l.length<=40):
  Q2 Tryz.prog 76 [gv N0 A es.length cap,.int .i64 free,.slice P l.length capP] H nx fun r H' nx'=>D0 H nx H' nx' /\
   ((Q6 N0 free es≠0/\r=refuse (Q6 N0 free es))\/(∃ n f:Nat,N0=n/\free=f/\f<=n/\n<=32/\Q6 N0 free es=0 /\
    ((¬ V72 l f n/\r=refuse 1)\/(V72 l f n/\∃ order:List Nat,(l++R6 f f=order.map fun (w:Nat)=>(w:Int))/\order.Nodup/\(∀ w ∈ order,w<n)/\order.length=n /\
     ∃ R,r = .tuple ⟨[.slice R n n,.int .i64 0]⟩/\Sl H' nx' R (R34 (Y72 n (List.replicate n G50) (adj es) order))/\∃ o,R=some ⟨o,0,none⟩/\nx<=o/\o<nx'/\J0 H' o=some (.cells (R34 (Y72 n (List.replicate n G50) (adj es) order)) 0))))):=by
 refine spec76 ?_
 unfold F76
 have hE1:D0 H nx (hs H nx (some (.cells [.int .i64 N0,.slice A es.length cap] 0))) (nx+1):=(D0.refl H nx).new _ (Nat.le_refl _) (by omega)
 simp (config:={ maxSteps:=2000000 }) (disch:=first|omega|assumption|exact G0 (by assumption)|exact U10 (by assumption)|exact X0 (by omega)|fail) only[W0,Z0,Q0.val,C13,E107,Q27]
 refine R0 (U86 N0 free A es cap _ _ (hS.ext hE1) hsm) ?_
 rintro _ H2 nx2 ⟨rfl,hE2⟩
 have hEE2:=hE1.trans hE2
 have hg2:=hE2.get nx (by omega)
 rw[Z11] at hg2
 have hnx2:=hE2.le
 by_cases hfc:Q6 N0 free es=0
 case neg=>
  have d1:decide (Q6 N0 free es≠0)=true:=by simp[hfc]
  simp (disch:=first|omega|assumption|exact G0 (by assumption)|exact U10 (by assumption)|exact X0 (by omega)|fail) only[W0,d1]
  exact⟨hEE2,.inl ⟨hfc,rfl⟩⟩
 have d1:decide (Q6 N0 free es≠0)=false:=by simp[hfc]
 obtain⟨n,f,rfl,rfl,hn,hfn,hle,hes⟩:=U27 hfc
 simp (config:={ maxSteps:=2000000 }) (disch:=first|omega|assumption|exact G0 (by assumption)|exact U10 (by assumption)|exact X0 (by omega)|fail) only[W0,d1]
 have good:∀ {r:Value} {H':Y0} {nx':Nat},D0 H nx H' nx'->((¬ V72 l f n/\r=refuse 1)\/(V72 l f n/\∃ order:List Nat,(l++R6 f f=order.map fun (w:Nat)=>(w:Int))/\order.Nodup/\(∀ w ∈ order,w<n)/\order.length=n /\
     ∃ R,r = .tuple ⟨[.slice R n n,.int .i64 0]⟩/\Sl H' nx' R (R34 (Y72 n (List.replicate n G50) (adj es) order))/\∃ o,R=some ⟨o,0,none⟩/\nx<=o/\o<nx'/\J0 H' o=some (.cells (R34 (Y72 n (List.replicate n G50) (adj es) order)) 0))) ->
   D0 H nx H' nx'/\((Q6 (n:Int) (f:Int) es≠0/\r=refuse (Q6 (n:Int) (f:Int) es))\/(∃ n' f':Nat,(n:Int)=n'/\(f:Int)=f'/\f'<=n'/\n'<=32/\Q6 (n:Int) (f:Int) es=0 /\
    ((¬ V72 l f' n'/\r=refuse 1)\/(V72 l f' n'/\∃ order:List Nat,(l++R6 f' f'=order.map fun (w:Nat)=>(w:Int))/\order.Nodup/\(∀ w ∈ order,w<n')/\order.length=n' /\
     ∃ R,r = .tuple ⟨[.slice R n' n',.int .i64 0]⟩/\Sl H' nx' R (R34 (Y72 n' (List.replicate n' G50) (adj es) order))/\∃ o,R=some ⟨o,0,none⟩/\nx<=o/\o<nx'/\J0 H' o=some (.cells (R34 (Y72 n' (List.replicate n' G50) (adj es) order)) 0))))):=
  fun hE h=>⟨hE,.inr ⟨n,f,rfl,rfl,hfn,hn,hfc,h⟩⟩
 refine B1 (m:=l.length) (fun m L H' nx'=>∃ i seen:Nat,m+i=l.length/\L=[.int .u32 (seen:Int),.int .i64 (i:Int)]/\seen<4294967296/\(∀ w:Nat,seen.testBit w=decide ((w:Int) ∈ l.take i)) /\
  (∀ x ∈ l.take i,(f:Int)<=x/\x<(n:Int))/\(l.take i).Nodup/\H2=H'/\nx2=nx') ?_ ⟨0,0,rfl,rfl,by omega,by simp,by simp,by simp,rfl,rfl⟩
 rintro m ih L _ _ ⟨i,seen,hm,rfl,hseen,hbits,hin,hnd,rfl,rfl⟩ hih
 simp (config:={ maxSteps:=2000000 }) (disch:=first|omega|assumption|exact G0 (by assumption)|exact U10 (by assumption)|exact X0 (by omega)|fail) only[W0]
 by_cases hi:i<l.length
 case pos=>
  have hi':(i:Int)<(l.length:Int):=by omega
  obtain⟨x,hx⟩:∃ x,l[i]? = some x:=⟨_,List.getElem?_eq_getElem hi⟩
  obtain⟨B,o,row,rfl,hBn,hrow,hget⟩:=(hP.ext hEE2).open (i:=i) (by rw[X9];omega)
  have g0:=hget _ _ (Z9 hx)
  have bad:¬ ((f:Int)<=x/\x<(n:Int))->¬ V72 l f n:=fun h1 h2=>h1 (h2.2.1 x (List.mem_of_getElem? hx))
  simp (disch:=first|omega|assumption|exact G0 (by assumption)|exact U10 (by assumption)|exact X0 (by omega)|fail) only[W0,hi',N13,X3 hrow,g0,hg2]
  by_cases h1:x<(f:Int)
  .simp (disch:=first|omega|assumption|exact G0 (by assumption)|exact U10 (by assumption)|exact X0 (by omega)|fail) only[W0,h1]
   exact good hEE2 (.inl ⟨bad (by omega),rfl⟩)
  by_cases h2:x ≥ (n:Int)
  .simp (disch:=first|omega|assumption|exact G0 (by assumption)|exact U10 (by assumption)|exact X0 (by omega)|fail) only[W0,h1,h2]
   exact good hEE2 (.inl ⟨bad (by omega),rfl⟩)
  obtain⟨w,rfl⟩:∃ w:Nat,x=w:=⟨x.toNat,by omega⟩
  have hw:w<32:=by omega
  have hb:=hbits w
  cases hsw:seen.testBit w with
  | true=>
   simp (disch:=first|omega|assumption|exact G0 (by assumption)|exact U10 (by assumption)|exact X0 (by omega)|fail) only[W0,h1,h2,hsw]
   refine good hEE2 (.inl ⟨fun hp => ?_,rfl⟩)
   rw[hsw] at hb
   have hmem:(w:Int) ∈ l.take i:=by simpa using hb.symm
   obtain⟨j,hj,hje⟩:=List.getElem_of_mem hmem
   simp at hj
   have hj2:l[j]? = some (w:Int):=by rw[<- hje,List.getElem_take];exact List.getElem?_eq_getElem (by omega)
   have hne:=(List.pairwise_iff_getElem.mp hp.2.2) j i (by omega) hi (by omega)
   exact hne (by rw[(List.getElem?_eq_some_iff.mp hj2).2,(List.getElem?_eq_some_iff.mp hx).2])
  | false=>
   have hp32:2^w<4294967296:=Y18 hw
   rw[hsw] at hb
   have hnm:(w:Int) ∉ l.take i:=by simpa using hb.symm
   simp (disch:=first|omega|assumption|exact G0 (by assumption)|exact U10 (by assumption)|exact X0 (by omega)|fail) only[W0,h1,h2,hsw]
   refine hih (m-1) _ _ _ (by omega) ⟨i+1,seen ||| 2^w,by omega,by simp,M54 hseen hp32,fun u => ?_,?_,?_,rfl,rfl⟩
   .rw[Nat.testBit_or,hbits,Nat.testBit_two_pow,C7 hx]
    by_cases huw:u=w
    .subst huw;simp
    .have e1:decide (w=u)=false:=by simp;omega
     have e2:¬ (u:Int)=(w:Int):=by omega
     simp[e1,e2]
   .rw[C7 hx]
    intro z hz
    simp only[List.mem_append,List.mem_singleton] at hz
    rcases hz with hz | rfl
    .exact hin z hz
    .omega
   .rw[C7 hx];exact V89 hnd hnm
 have hi':¬ (i:Int)<(l.length:Int):=by omega
 rw[D23 hi] at hin hnd
 by_cases hlen:l.length+f=n
 case neg=>
  have d2:decide ((l.length:Int)≠(n:Int)-(f:Int))=true:=by simp;omega
  simp (disch:=first|omega|assumption|exact G0 (by assumption)|exact U10 (by assumption)|exact X0 (by omega)|fail) only[W0,hi',hg2,d2]
  exact good hEE2 (.inl ⟨fun hp=>hlen hp.1,rfl⟩)
 have d2:decide ((l.length:Int)≠(n:Int)-(f:Int))=false:=by simp;omega
 have hpok:V72 l f n:=⟨hlen,hin,hnd⟩
 simp (config:={ maxSteps:=2000000 }) (disch:=first|omega|assumption|exact G0 (by assumption)|exact U10 (by assumption)|exact X0 (by omega)|fail) only[W0,hi',hg2,d2]
 clear hih
 obtain⟨order,hord,hond,holt,holen⟩:=J77 hpok
 have M44:l.length<=32:=by omega
 generalize hK:hs (hs H2 nx2 (some (.cells (U4 (List.replicate 32 0)) 0))) (nx2+1) (some (.cells (U4 (List.replicate 32 0)) 0))=K
 have kO:J0 K nx2=some (.cells (U4 (List.replicate 32 0)) 0):=by rw[<- hK,Z1 _ (by omega),Z11]
 have kP:J0 K (nx2+1)=some (.cells (U4 (List.replicate 32 0)) 0):=by rw[<- hK,Z11]
 have hEK:D0 H2 nx2 K (nx2+1+1):=by rw[<- hK];exact ((D0.self (by omega):D0 H2 nx2 H2 (nx2+1+1)).hs (by omega)).hs (by omega)
 have kG:=(hEK.get nx (by omega)).trans hg2
 have z32:(U4 (List.replicate 32 0)).length=32:=by rw[X9];simp
 rw[C107,J79 kO (C27 (hP.ext (hEE2.trans hEK)) (hP0.ext (hEE2.trans hEK)) (by rw[X9];omega) (by omega)) M44 (K13 l) (by rw[X9,z32];exact M44),Q100 M44]
 refine B1 (m:=f) (fun m L H' nx'=>∃ (i:Nat) (ol:List Int),m+i=f/\L=[.int .i64 (i:Int)]/\ol.length=32/\(∀ j,j<l.length+i->ol[j]? = (l++R6 f f)[j]?) /\
  J0 H' nx2=some (.cells (U4 ol) 0)/\(∀ q,q≠nx2->J0 H' q=J0 K q)/\nx2+1+1=nx') ?_ ⟨0,l++List.replicate (32-l.length) 0,rfl,rfl,by simp;omega,fun j hj=>by
   rw[List.getElem?_append_left (by omega),List.getElem?_append_left (by omega)],Z11 _ _ _,fun q hq=>Z1 _ hq,rfl⟩
 rintro m3 ih3 L3 H3 _ ⟨i3,ol,hm3,rfl,holn,hov,hO3,hsame3,rfl⟩ hih3
 simp (config:={ maxSteps:=2000000 }) (disch:=first|omega|assumption|exact G0 (by assumption)|exact U10 (by assumption)|exact X0 (by omega)|fail) only[W0]
 by_cases hi3:i3<f
 case pos=>
  have hi3':(i3:Int)<(f:Int):=by omega
  have hidx:((l.length:Int)+(i3:Int)).toNat=l.length+i3:=by omega
  have hb3:l.length+i3<ol.length:=by omega
  have hol3:(U4 ol).length=32:=by rw[X9];exact holn
  simp (disch:=first|omega|assumption|exact G0 (by assumption)|exact U10 (by assumption)|exact X0 (by omega)|fail) only[W0,Nat.reduceLeDiff,hi3',hidx,hO3,J92 hb3,hol3]
  refine⟨by omega,hih3 (m3-1) _ _ _ (by omega) ⟨i3+1,ol.set (l.length+i3) ((f:Int)-1-i3),by omega,by simp,by rw[List.length_set];exact holn,fun j hj => ?_,Z11 _ _ _,fun q hq=>by rw[Z1 _ hq];exact hsame3 q hq,rfl⟩⟩
  rw[List.getElem?_set]
  by_cases hjj:l.length+i3=j
  .subst hjj
   rw[if_pos rfl,if_pos (by omega),List.getElem?_append_right (by omega),Nat.add_sub_cancel_left,N88 hi3]
  .rw[if_neg hjj];exact hov j (by omega)
 have hi3':¬ (i3:Int)<(f:Int):=by omega
 have hi3e:i3=f:=by omega
 subst hi3e
 have hon:∀ (j w:Nat),order[j]? = some w->ol[j]? = some (w:Int):=by
  intro j w hj
  rw[hov j (by have:=N12 hj;omega),hord]
  simp[hj]
 have hG3:=(hsame3 nx (by omega)).trans kG
 simp (config:={ maxSteps:=2000000 }) (disch:=first|omega|assumption|exact G0 (by assumption)|exact U10 (by assumption)|exact X0 (by omega)|fail) only[W0,hi3',hG3]
 clear hih3
 refine B1 (m:=n) (fun m L H' nx'=>∃ (i:Nat) (pl:List Int),m+i=n/\L=[.int .i64 (i:Int)]/\pl.length=32/\(∀ j w:Nat,order[j]? = some w->j<i->pl[w]? = some (j:Int)) /\
  J0 H' (nx2+1)=some (.cells (U4 pl) 0)/\(∀ q,q≠nx2+1->J0 H' q=J0 H3 q)/\nx2+1+1=nx') ?_ ⟨0,List.replicate 32 0,rfl,rfl,by simp,fun j w _ h=>by omega,by rw[hsame3 (nx2+1) (by omega)];exact kP,fun q hq=>rfl,rfl⟩
 rintro m4 ih4 L4 H4 _ ⟨i4,pl,hm4,rfl,hpln,hpv,hP4,hsame4,rfl⟩ hih4
 have hO4:=(hsame4 nx2 (by omega)).trans hO3
 have hG4:=(hsame4 nx (by omega)).trans hG3
 simp (config:={ maxSteps:=2000000 }) (disch:=first|omega|assumption|exact G0 (by assumption)|exact U10 (by assumption)|exact X0 (by omega)|fail) only[W0]
 by_cases hi4:i4<n
 case pos=>
  have hi4':(i4:Int)<(n:Int):=by omega
  obtain⟨w,hw⟩:∃ w,order[i4]? = some w:=⟨_,List.getElem?_eq_getElem (by omega)⟩
  have hwn:w<n:=holt w (List.mem_of_getElem? hw)
  have gw:=Z9 (hon i4 w hw)
  have hb4:w<pl.length:=by omega
  have hpl4:(U4 pl).length=32:=by rw[X9];exact hpln
  simp (disch:=first|omega|assumption|exact G0 (by assumption)|exact U10 (by assumption)|exact X0 (by omega)|fail) only[W0,Nat.reduceLeDiff,hi4',hO4,gw,hP4,J92 hb4,hpl4]
  refine⟨by omega,hih4 (m4-1) _ _ _ (by omega) ⟨i4+1,pl.set w (i4:Int),by omega,by simp,by rw[List.length_set];exact hpln,fun j u hj hji => ?_,Z11 _ _ _,fun q hq=>by rw[Z1 _ hq];exact hsame4 q hq,rfl⟩⟩
  rw[List.getElem?_set]
  by_cases huw:w=u
  .subst huw
   rw[if_pos rfl,if_pos (by omega),B43 hond hj hw]
  .rw[if_neg huw]
   refine hpv j u hj ?_
   have:j≠i4:=by intro e;subst e;rw[hw] at hj;cases hj;exact huw rfl
   omega
 have hi4':¬ (i4:Int)<(n:Int):=by omega
 have hi4e:i4=n:=by omega
 subst hi4e
 simp (config:={ maxSteps:=2000000 }) (disch:=first|omega|assumption|exact G0 (by assumption)|exact U10 (by assumption)|exact X0 (by omega)|fail) only[W0,hi4',hG4,C13]
 clear hih4
 have hE4:D0 H nx H4 (nx2+1+1):=⟨by omega,fun q hq=>by
  rw[hsame4 q (by omega),hsame3 q (by omega),hEK.get q (by omega)];exact hEE2.get q hq⟩
 have hgc:N3 i4 es=0:=by
  unfold Q6 at hfc
  split at hfc
  .assumption
  .rename_i h;exact Decidable.of_not_not h
 refine R0 (W106 hn A es cap _ _ (hS.ext hE4) hes hle hgc) ?_
 rintro _ H5 nx5 ⟨rfl,hE5⟩
 have hnx5:=hE5.le
 have e1:(K12 (B2 es i4)).length=32:=by rw[E1];exact N9 es i4
 have e2:(K12 (List.replicate 32 0)).length=32:=by rw[E1];simp
 have e3:=G24 (c:=K12 (List.replicate 32 0)) (vs:=K12 (B2 es i4)) (by rw[e1,e2])
 have e4:=W5 (B2 es i4)
 have hn6:i4<=1000000:=by omega
 have hG5:=(hE5.get nx (by omega)).trans hG4
 have hO5:=(hE5.get nx2 (by omega)).trans hO4
 have hP5:=(hE5.get (nx2+1) (by omega)).trans hP4
 simp (config:={ maxSteps:=2000000 }) (disch:=first|omega|assumption|exact G0 (by assumption)|exact U10 (by assumption)|exact X0 (by omega)|fail) only[W0,e1,e2,e3,e4,hG5,M27 hn6,Z89]
 generalize hK5:hs (hs (hs H5 nx5 (some (.cells (K12 (List.replicate 32 0)) 0))) nx5 (some (.cells (K12 (B2 es i4)) 0))) (nx5+1) (some (.cells (R34 (List.replicate i4 G50)) 0))=K5
 have hEK5:D0 H5 nx5 K5 (nx5+1+1):=by rw[<- hK5];exact (((D0.self (by omega):D0 H5 nx5 H5 (nx5+1+1)).hs (by omega)).hs (by omega)).hs (by omega)
 have m0:M13 K5 (nx5+1+1) nx5 (nx5+1) (B2 es i4) (List.replicate i4 G50) K5:=by
  refine⟨?_,?_,fun _ _ _ _=>rfl⟩
  .rw[<- hK5,Z1 _ (by omega),Z11]
  .rw[<- hK5,Z11]
 have hG6:=(hEK5.get nx (by omega)).trans hG5
 have hO6:=(hEK5.get nx2 (by omega)).trans hO5
 have hP6:=(hEK5.get (nx2+1) (by omega)).trans hP5
 have hEE5:D0 H nx K5 (nx5+1+1):=(hE4.trans hE5).trans hEK5
 refine B1 (m:=i4) (fun m L H' nx'=>∃ (i:Nat) (nl:List Nat) (out:List Bag) (N:Nb),m+i=i4/\L=[.int .i64 (i:Int)]/\M13 K5 (nx5+1+1) nx5 (nx5+1) nl out H'/\nl.length=32/\(∀ a ∈ order.drop i,nl[a]? = some (Q1 (K9 N a (order.drop i)) i4))/\Z44 N/\out.length=i4 /\
  Y72 i4 out N (order.drop i)=Y72 i4 (List.replicate i4 G50) (adj es) order/\nx5+1+1<=nx') ?_ ⟨0,B2 es i4,List.replicate i4 G50,adj es,rfl,rfl,m0,N9 es i4,fun a ha=>by
   have ha2:a ∈ order:=ha
   rw[V39 es hn (holt a ha2)]
   congr 1
   refine N25 fun w hw => ?_
   have:=Q58 hond holt holen hw
   simp[K9,this],Y70 es,by simp,rfl,Nat.le_refl _⟩
 rintro m7 ih7 L7 H7 nx7 ⟨j,nl,out,N,hm7,rfl,hM,hnll,hnv,hNb,hol,hout,hx7⟩ hih7
 simp (config:={ maxSteps:=2000000 }) (disch:=first|omega|assumption|exact G0 (by assumption)|exact U10 (by assumption)|exact X0 (by omega)|fail) only[W0]
 by_cases hj:j<i4
 case neg=>
  have hj':¬ (j:Int)<(i4:Int):=by omega
  simp (config:={ maxSteps:=2000000 }) (disch:=first|omega|assumption|exact G0 (by assumption)|exact U10 (by assumption)|exact X0 (by omega)|fail) only[W0,hj']
  rw[List.drop_of_length_le (by omega)] at hout
  refine good ⟨by have:=hEE5.le;omega,fun q hq=>by rw[hM.same q (by have:=hEE5.le;omega) (by omega) (by omega)];exact hEE5.get q hq⟩ (.inr ⟨hpok,order,hord,hond,holt,holen,_,rfl,fun q u hu=>⟨nx5+1,0,R34 out,rfl,by omega,by rw[Q5,hM.out];rfl,?_⟩,nx5+1,rfl,by have:=hE5.le;omega,by omega,?_⟩)
  .rw[Nat.zero_add]
   have:out=Y72 i4 (List.replicate i4 G50) (adj es) order:=hout
   rw[this];exact hu
  .have:out=Y72 i4 (List.replicate i4 G50) (adj es) order:=hout
   rw[<- this];exact hM.out
 have hj':(j:Int)<(i4:Int):=by omega
 obtain⟨v,hv⟩:∃ v,order[j]? = some v:=⟨_,List.getElem?_eq_getElem (by omega)⟩
 have hvn:v<i4:=holt v (List.mem_of_getElem? hv)
 have hdrop:=Z19 hv
 generalize hrest:order.drop (j+1)=rest at hdrop
 have hvr:v ∉ rest:=by rw[<- hrest];exact Q44 hond hv
 rw[hdrop] at hnv hout
 have hO7:=(hM.same nx2 (by omega) (by omega) (by omega)).trans hO6
 have hP7:=(hM.same (nx2+1) (by omega) (by omega) (by omega)).trans hP6
 have hG7:=(hM.same nx (by omega) (by omega) (by omega)).trans hG6
 have gv7:=Z9 (hon j v hv)
 have hkv:=hnv v List.mem_cons_self
 rw[G105 hNb] at hkv
 have gk7:=Q3 hkv
 have hbld:∀ kk,U11 [.int .i64 0,.int .u32 0,.int .i64 0] [(0,1),(1,1),(2,1)] [(0,.int .i64 (v:Int)),(1,.int .u32 ((Q1 (K9 N v rest) i4:Nat):Int)),(2,.int .i64 (-1))] kk=kk (.agg ⟨[.int .i64 (v:Int),.int .u32 ((Q1 (K9 N v rest) i4:Nat):Int),.int .i64 (-1)]⟩):=fun _=>rfl
 simp (config:={ maxSteps:=2000000 }) (disch:=first|omega|assumption|exact G0 (by assumption)|exact U10 (by assumption)|exact X0 (by omega)|fail) only[W0,Z0,Nat.reduceAdd,hj',hO7,gv7,hM.near,gk7,hbld,D7,hG7]
 have hkey32:=R19 hn (K9 N v rest)
 generalize hHB:hs (hs H7 nx7 (some (.cells [.int .i64 0,.int .u32 0,.int .i64 0] 0))) nx7 (some (.cells [.int .i64 (v:Int),.int .u32 ((Q1 (K9 N v rest) i4:Nat):Int),.int .i64 (-1)] 0))=HB
 have mB:M13 K5 (nx5+1+1) nx5 (nx5+1) nl out HB:=by rw[<- hHB];exact (hM.setNew hx7 (by omega) (by omega) _).setNew hx7 (by omega) (by omega) _
 have gB:J0 HB nx7=some (.cells [.int .i64 (v:Int),.int .u32 ((Q1 (K9 N v rest) i4:Nat):Int),.int .i64 (-1)] 0):=by rw[<- hHB,Z11]
 refine B1 (m:=i4) (fun m L H' nx'=>∃ (u:Nat) (nl:List Nat) (par:Int),m+u=i4/\L=[.int .i64 (u:Int)]/\M13 K5 (nx5+1+1) nx5 (nx5+1) nl out H'/\J0 H' nx7=some (.cells [.int .i64 (v:Int),.int .u32 ((Q1 (K9 N v rest) i4:Nat):Int),.int .i64 par] 0)/\nl.length=32 /\
  (∀ a ∈ rest,nl[a]? = some (Q1 (if a<u then K9 (U9 N v rest) a rest else K9 N a (v :: rest)) i4))/\R99 N v order rest u par/\nx7+1<=nx') ?_ ⟨0,nl,-1,rfl,rfl,mB,gB,hnll,fun a ha=>by rw[hnv a (List.mem_cons_of_mem _ ha)];simp,.inl ⟨rfl,fun w h=>by omega⟩,Nat.le_refl _⟩
 rintro m8 ih8 L8 H8 nx8 ⟨u,nl8,par,hm8,rfl,hM8,gB8,hnl8,hnv8,hpar,hx8⟩ hih8
 simp (config:={ maxSteps:=2000000 }) (disch:=first|omega|assumption|exact G0 (by assumption)|exact U10 (by assumption)|exact X0 (by omega)|fail) only[W0]
 by_cases hu:u<i4
 case neg=>
  have hu':¬ (u:Int)<(i4:Int):=by omega
  have hui:u=i4:=by omega
  subst hui
  have hpe:par=Y61 N v rest:=by rw[<- hrest] at hpar ⊢;exact D107 hond holt hpar
  have hset:B12 (R34 out) (v*3) [.int .i64 (v:Int),.int .u32 ((Q1 (K9 N v rest) u:Nat):Int),.int .i64 par]=R34 (out.set v (J82 u N v rest)):=by
   rw[hpe];exact Z92 (b:=J82 u N v rest) (by omega)
  have hbl:(R34 out).length=u*3:=by rw[N94,hol]
  simp (config:={ maxSteps:=2000000 }) (disch:=first|omega|assumption|exact G0 (by assumption)|exact U10 (by assumption)|exact X0 (by omega)|fail) only[W0,Z0,Nat.reduceAdd,hu',gB8,Y12,hM8.out,hset,hbl]
  refine⟨by omega,hih7 (m7-1) _ _ _ (by omega) ⟨j+1,nl8,_,U9 N v rest,by omega,by simp,hM8.setOut (by omega) _,hnl8,fun a ha => ?_,Y66 hNb v rest,by rw[List.length_set];exact hol,by rw[hrest,<- hout];rfl,by omega⟩⟩
  rw[hrest] at ha ⊢
  have han:a<u:=holt a (List.mem_of_mem_drop (hrest ▸ ha))
  rw[hnv8 a ha,if_pos han]
 have hu':(u:Int)<(i4:Int):=by omega
 have kbit:(Q1 (K9 N v rest) i4).testBit u=K9 N v rest u:=by rw[E26];simp[hu]
 simp (config:={ maxSteps:=2000000 }) (disch:=first|omega|assumption|exact G0 (by assumption)|exact U10 (by assumption)|exact X0 (by omega)|fail) only[W0,hu',gB8]
 rw[N13,kbit]
 cases hk:K9 N v rest u with
 | false=>
  simp (config:={ maxSteps:=2000000 }) (disch:=first|omega|assumption|exact G0 (by assumption)|exact U10 (by assumption)|exact X0 (by omega)|fail) only[W0]
  refine hih8 (m8-1) _ _ _ (by omega) ⟨u+1,nl8,par,by omega,by simp,hM8,gB8,hnl8,fun a ha => ?_,?_,hx8⟩
  .rw[hnv8 a ha]
   by_cases h1:a<u
   .rw[if_pos h1,if_pos (by omega)]
   .rw[if_neg h1]
    by_cases h2:a=u
    .subst h2;rw[if_pos (by omega),K107 hNb ha hk]
    .rw[if_neg (by omega)]
  .rcases hpar with ⟨h1,h2⟩ | ⟨p,jp,h1,h2,h3,h4⟩
   .refine .inl ⟨h1,fun w hw => ?_⟩
    by_cases hwu:w=u
    .subst hwu;exact hk
    .exact h2 w (by omega)
   .refine .inr ⟨p,jp,h1,h2,h3,fun w jw hw hjw hkw => ?_⟩
    by_cases hwu:w=u
    .subst hwu;rw[hk] at hkw;cases hkw
    .exact h4 w jw (by omega) hjw hkw
 | true=>
  simp (config:={ maxSteps:=2000000 }) (disch:=first|omega|assumption|exact G0 (by assumption)|exact U10 (by assumption)|exact X0 (by omega)|fail) only[W0]
  have hur:u ∈ rest:=by simp[K9] at hk;exact hk.2
  obtain⟨ju,hju⟩:∃ ju,order[ju]? = some u:=List.getElem?_of_mem (List.mem_of_mem_drop (hrest ▸ hur))
  have hP8:=(hM8.same (nx2+1) (by omega) (by omega) (by omega)).trans hP6
  have gu:=Z9 (hpv ju u hju (by have:=N12 hju;omega))
  refine N5 (fun L H' nx'=>∃ par',L=[]/\M13 K5 (nx5+1+1) nx5 (nx5+1) nl8 out H'/\J0 H' nx7=some (.cells [.int .i64 (v:Int),.int .u32 ((Q1 (K9 N v rest) i4:Nat):Int),.int .i64 par'] 0)/\R99 N v order rest (u+1) par'/\nx7+1<=nx') ?_ ?_
  .intro jk hjk
   rw[N13]
   have hput:∀ a b c x:Value,B12 [a,b,c] 2 [x]=[a,b,x]:=fun _ _ _ _=>rfl
   have hnew:R99 N v order rest (u+1) u->∀ nx',nx7+1<=nx'->jk [] (hs H8 nx7 (some (.cells [.int .i64 (v:Int),.int .u32 ((Q1 (K9 N v rest) i4:Nat):Int),.int .i64 (u:Int)] 0))) nx':=
    fun h nx' hx=>hjk _ _ _ ⟨u,rfl,hM8.setNew hx7 (by omega) (by omega) _,Z11 _ _ _,h,hx⟩
   rcases hpar with ⟨rfl,h2⟩ | ⟨p,jp,rfl,h2,h3,h4⟩
   .have hneg:(-1:Int)<0:=by omega
    simp (config:={ maxSteps:=2000000 }) (disch:=first|omega|assumption|exact G0 (by assumption)|exact U10 (by assumption)|exact X0 (by omega)|fail) only[W0,Nat.reduceAdd,gB8,hneg,hput]
    refine hnew (.inr ⟨u,ju,rfl,hju,hk,fun w jw hw hjw hkw => ?_⟩) _ (by omega)
    by_cases hwu:w=u
    .subst hwu;rw[B43 hond hju hjw];exact Nat.le_refl _
    .rw[h2 w (by omega)] at hkw;cases hkw
   .have hpn:¬ (p:Int)<0:=by omega
    have hp4:p<i4:=holt p (List.mem_of_getElem? h2)
    have gp:=Z9 (hpv jp p h2 (by have:=N12 h2;omega))
    by_cases hlt:ju<jp
    .have hlt':(ju:Int)<(jp:Int):=by omega
     simp (config:={ maxSteps:=2000000 }) (disch:=first|omega|assumption|exact G0 (by assumption)|exact U10 (by assumption)|exact X0 (by omega)|fail) only[W0,Nat.reduceAdd,gB8,hpn,hP8,gu,gp,hlt',hput]
     refine hnew (.inr ⟨u,ju,rfl,hju,hk,fun w jw hw hjw hkw => ?_⟩) _ (by omega)
     by_cases hwu:w=u
     .subst hwu;rw[B43 hond hju hjw];exact Nat.le_refl _
     .have:=h4 w jw (by omega) hjw hkw;omega
    .have hlt':¬ (ju:Int)<(jp:Int):=by omega
     simp (config:={ maxSteps:=2000000 }) (disch:=first|omega|assumption|exact G0 (by assumption)|exact U10 (by assumption)|exact X0 (by omega)|fail) only[W0,Nat.reduceAdd,gB8,hpn,hP8,gu,gp,hlt']
     refine hjk _ _ _ ⟨p,rfl,hM8,gB8,.inr ⟨p,jp,rfl,h2,h3,fun w jw hw hjw hkw => ?_⟩,by omega⟩
     by_cases hwu:w=u
     .subst hwu;rw[<- B43 hond hju hjw];omega
     .exact h4 w jw (by omega) hjw hkw
  .rintro _ H9 nx9 ⟨par',rfl,hM9,gB9,hpar9,hx9⟩
   have hcur:=hnv8 u hur
   rw[if_neg (by omega)] at hcur
   have gcur:=Q3 hcur
   have hc32:=R19 hn (K9 N u (v :: rest))
   have hu32:2^u<4294967296:=Y18 (by omega)
   have hv32:2^v<4294967296:=Y18 (by omega)
   have ho1:=M54 hc32 hkey32
   have ho2:=M54 hu32 hv32
   have hul:u<nl8.length:=by omega
   have hlen9:(K12 nl8).length=32:=by rw[E1];exact hnl8
   have hnb:=N107 hNb (n:=i4) hvr hk
   simp (config:={ maxSteps:=2000000 }) (disch:=first|omega|assumption|exact G0 (by assumption)|exact U10 (by assumption)|exact X0 (by omega)|fail) only[W0,Nat.reduceLeDiff,hM9.near,gcur,gB9,V10 hul,hlen9]
   refine⟨by omega,hih8 (m8-1) _ _ _ (by omega) ⟨u+1,nl8.set u (Z2 (Q1 (K9 N u (v :: rest)) i4 ||| Q1 (K9 N v rest) i4) (2^u ||| 2^v)),par',by omega,by simp,hM9.setNear (by omega) _,by rw[Z1 _ (by omega)];exact gB9,by rw[List.length_set];exact hnl8,fun a ha => ?_,hpar9,by omega⟩⟩
   rw[List.getElem?_set]
   by_cases h2:u=a
   .subst h2;rw[if_pos rfl,if_pos hul,if_pos (by omega),hnb]
   .rw[if_neg h2,hnv8 a ha]
    by_cases h1:a<u
    .rw[if_pos h1,if_pos (by omega)]
    .rw[if_neg h1,if_neg (by omega)]
end
end Go.Proofs.YtoiioigihocgbaaGreatDoor
namespace Go.Clo
def upK(f i:Nat):List Int:=(aY i).map fun j=>((f+j:Nat):Int)
theorem Y91(f i:Nat):(upK f i).length=i:=by simp[upK]
theorem K105(f i:Nat):upK f (i+1)=upK f i++[((f+i:Nat):Int)]:=by simp[upK,List.range_succ]
theorem R107{lo:Nat}{H:Y0}{nx size:Nat}{v:Value}{n:Nat}{c:List Value}(h:Acc lo H nx size v n c):∃ A,v = .slice A n n/\Sl H nx A c/\Has H nx A:=by
 obtain⟨A,e,hs⟩:=h.sl;refine⟨A,e,hs,?_⟩;obtain⟨_,h1 | ⟨b,h1,h2,h3,h4⟩⟩:=h
 .obtain⟨h1,h2⟩:=h1
  rw[h2] at e
  cases e
  exact .inl rfl
 .rw[e] at h3
  cases h3
  exact .inr ⟨b,0,c,rfl,h2,by rw[Q5,h4];rfl⟩
theorem M108{H:Y0}{b o n c h size:Nat}{row:List Value}(hg:J0 H b=some (.cells row 0))(hh:h<=c)(k:VP):
  wSl (.slice (some ⟨b,o,none⟩) n c) size none (some (.int .i64 (h:Int))) none H k=k (.slice (some ⟨b,o,none⟩) h c):=by
 have e:B26 (some ⟨b,o,none⟩) n c size none (some (.int .i64 (h:Int))) none false=some (.slice (some ⟨b,o,none⟩) h c):=by
  have e1:Y13 none c=some c:=rfl;have e2:hiA (some (.int .i64 (h:Int))) none n c=some h:=V75 hh;have e3:loA none h=some 0:=rfl;simp only[B26,e1,e2,e3,V6 (Nat.zero_le c)]
  cases bR c 0<;>simp
 unfold wSl;dsimp only;rw[Y4,hg];simp only[aN,slB,N8,D13,cond_true];rw[e];exact E7 _ _
end Go.Clo
namespace Go.Proofs.YtoiioigihocgbaaGreatDoor
open Go.Clo
theorem B100{f n:Nat}(h:f<=n):V72 (upK f (n-f)) f n:=by
 refine⟨by rw[Y91];omega,fun x hx => ?_,?_⟩
 .simp only[upK,gN,cW] at hx
  obtain⟨j,hj,rfl⟩:=hx;omega
 .unfold List.Nodup upK
  rw[List.pairwise_map];refine List.Pairwise.imp (fun {a b} h => ?_) List.nodup_range;intro e;exact h (by omega)
theorem B98(n:Nat):∀(E:List Nat) (out:List Bag) (N:Nb) (i:Nat) (b:Bag),(Y72 n out N E)[i]? = some b->(out[i]? = some b/\i ∉ E)\/(b.var=i/\b.key<2^n)
 | [],out,N,i,b,h => .inl ⟨h,by simp⟩
 | v :: rest,out,N,i,b,h=>by
  rcases B98 n rest (out.set v (J82 n N v rest)) _ i b h with ⟨h1,h2⟩ | h1
  .rw[cQ] at h1
   split at h1
   .rename_i e
    subst e
    split at h1
    .cases h1
     exact .inr ⟨rfl,G11 _ _⟩
    .cases h1
   .rename_i e
    exact .inl ⟨h1,by simp[h2,eT e]⟩
  .exact .inr h1
def Z85(n f:Nat)(l:List Int):List Nat:=(l++R6 f f).map Int.toNat
def B50(es:List Nat)(n f:Nat)(l:List Int):List Bag:=Y72 n (aF n G50) (adj es) (Z85 n f l)
theorem Y88{n f:Nat}{l:List Int}{E:List Nat}(h:l++R6 f f=E.map fun(w:Nat)=>(w:Int)):E=Z85 n f l:=by
 unfold Z85;rw[h,List.map_map];simp[Function.comp_def]
theorem U74(es:List Nat)(n f:Nat)(l:List Int):(B50 es n f l).length=n:=by
 unfold B50;rw[V94];simp
theorem Q95{es:List Nat}{n f:Nat}{l:List Int}(hp:V72 l f n)(hf:f<=n){i:Nat}(hi:i<n):∃ b,(B50 es n f l)[i]? = some b/\b.var=i/\b.key<2^n:=by
 obtain⟨E,h1,h2,h3,h4⟩:=J77 hp;obtain rfl:=Y88 (n:=n) h1;obtain⟨b,hb⟩:∃ b,(B50 es n f l)[i]? = some b:=⟨_,aE (by rw[U74];exact hi)⟩
 refine⟨b,hb,?_⟩;rcases B98 n _ _ _ i b hb with ⟨_,h⟩ | h
 .exact absurd (Q58 h2 h3 h4 hi) h
 .exact h
theorem J93{b:Bag}{i n:Nat}(h1:b.var=i)(h2:b.key<2^n)(hi:i<n)(hn:n<=32):Y34 b=b.key ||| 2^i/\Y34 b<2^n/\(Y34 b).testBit i=true:=by
 have e:Y34 b=b.key ||| 2^i:=by
  unfold Y34;rw[if_neg (by omega),h1];rfl
 rw[e];exact⟨rfl,Z26 h2 (R27 hi),by rw[aV,aR];simp⟩
def fwI(es:List Nat)(N:Nat)(bs:List Bag)(i:Nat):Rat:=(bs.take i).foldl (fun w b=>gr w (Y74 es N (Y34 b))) 0
theorem X95{es:List Nat}{N:Nat}{bs:List Bag}{i:Nat}{b:Bag}(h:bs[i]? = some b):fwI es N bs (i+1)=gr (fwI es N bs i) (Y74 es N (Y34 b)):=by
 unfold fwI;rw[C7 h,List.foldl_append];rfl
theorem N84{es:List Nat}{N:Nat}{bs:List Bag}(h:es.length<=8):∀ i,i<=bs.length->U15 (fwI es N bs i) 100000
 | 0,_=>Y75 _ (by omega)
 | i+1,hi=>by
  rw[X95 (aE (show i<bs.length by omega))];exact E78 (N84 h i (by omega)) (B65 es N _ h)
theorem G95{H:Y0}{nx p rc rl N cap f:Nat}{A:Option Addr}{es nb:List Nat}{L:Nat->Rat}(h:SV H nx p rc rl N A cap es nb L)(hN:N<=6)(ai:∀ e ∈ es,e<2^N)(an:es.length<=8)
  (bh:∀ w,w<N->∃ e ∈ es,e.testBit w=true)(hf:f<=N):
  Q2 Tryz.prog 46 [.pointer (some ⟨p,0,none⟩),.int .i64 (f:Int)] H nx fun v H' nx'=>RR H' nx' v (fwI es N (B50 es N f (upK f (N-f))) f)/\SV H' nx' p rc rl N A cap es nb L/\Kp H nx rc rl H' nx':=by
 have cq:2^N<=64:=aK (n:=2) (by omega) hN;have d0:=h.pn;have co:=h.rcn;have cn:=h.rln;have ao:U14 es:=fun e he=>by have:=ai e he;omega
 have ae:∀ s,s<2^N->∀ v,s.testBit v=true->∃ e ∈ es,e.testBit v=true:=fun s hs v hv=>bh v (by
  refine aI fun hn => ?_
  rw[dV (aO hs (aK (n:=2) (by omega) (show N<=v by omega)))] at hv
  cases hv)
 refine spec46 ?_;unfold F46;have b8:D0 H nx (hs H nx (some (.cells [.bool false,.slice none 0 0,.slice none 0 0] 0))) (nx+1):=(D0.refl _ _).new _ (aD _) (by omega);have g1:J0 (hs H nx (some (.cells [.bool false,.slice none 0 0,.slice none 0 0] 0))) nx=some (.cells [.bool false,.slice none 0 0,.slice none 0 0] 0):=Z11 _ _ _;have h1:=h.ext b8;simp only[W1];rw[Q37];simp only[Q0.val];generalize hs H nx (some (.cells [.bool false,.slice none 0 0,.slice none 0 0] 0))=H1 at *
 refine B1 (m:=N-f) (fun m L H' nx'=>∃ i v,m+i=N-f/\L=[v,.int .i64 ((f+i:Nat):Int)]/\Acc (nx+1) H' nx' 1 v i (U4 (upK f i))/\D0 H1 (nx+1) H' nx') ?_
  ⟨0,.slice none 0 0,by omega,by simp,Acc.nil _ _ _ _,D0.refl _ _⟩
 rintro m dc L1 H2 nx2 ⟨i,v,hm,rfl,hA,a4⟩ a8;have cj:=a4.le;have h2:=h1.ext a4;have bw:∀(x:Int) k,K6 1 1 [.int .i64 0] [(0,.int .i64 x)] k=k [.int .i64 x]:=fun x k=>rfl
 by_cases hi:i<N-f
 .have ag:((f+i:Nat):Int)<(N:Int):=by omega
  simp(disch:=first|omega|assumption)only[W0,Q0.val,h2.hp,C89,ag,bw];have ay:D0 H2 nx2 (hs H2 nx2 (some (.cells [.int .i64 ((f+i:Nat):Int)] 0))) (nx2+1):=(D0.refl _ _).new _ (aD _) (by omega);refine Y20 (H0:=H1) (lo:=nx+1) (m:=1) (l:=[.int .i64 ((f+i:Nat):Int)]) (by omega) (hA.ext ay) (J9 (Z11 _ _ _) rfl (by omega)) (by omega) rfl (by omega) (by omega) (a4.trans ay) (by omega) ?_;intro v' H' bo c4 _;refine a8 (m-1) _ _ _ (by omega) ⟨i+1,v',by omega,by simp;omega,?_,c4⟩;have e:U4 (upK f (i+1))=U4 (upK f i)++[.int .i64 ((f+i:Nat):Int)]:=by rw[K105,Q96];rfl
  rw[e];exact bo
 have ag:¬ ((f+i:Nat):Int)<(N:Int):=by omega
 obtain rfl:i=N-f:=by omega
 clear a8;obtain⟨P,rfl,hP,bg⟩:=R107 hA;have a3:=b8.trans a4;have g2:=(a4.get nx (by omega)).trans g1;simp(disch:=first|omega|assumption)only[W0,Q0.val,h2.hp,C89,ag];refine R0 (R73 (n:=0) (by omega) (by omega) _ _) ?_;rintro r H5 E ⟨hr,a5⟩;obtain⟨c5,rfl,a7⟩:=hr.num;have ck:=a5.le;have h5:=h2.ext a5;have V:D0 H5 E (hs (hs H5 E (some (.cells [.bool false,.slice none 0 0,.slice none 0 0] 0))) E (some (.cells c5 0))) (E+1):=((D0.refl _ _).new _ (aD _) (m:=E+1) (by omega)).new _ (by omega) (by omega);have h7:=h5.ext V;have bz:J0 (hs (hs H5 E (some (.cells [.bool false,.slice none 0 0,.slice none 0 0] 0))) E (some (.cells c5 0))) E=some (.cells c5 0):=Z11 _ _ _;simp(disch:=first|omega|assumption)only[W0,Nat.reduceAdd,a7.three,a7.one,G24 (show c5.length=[dU false,.slice none 0 0,.slice none 0 0].length from a7.three),h5.hp,M93];generalize hs (hs H5 E (some (.cells [.bool false,.slice none 0 0,.slice none 0 0] 0))) E (some (.cells c5 0))=H7 at *
 have U:=a5.trans V;have aj:N-f=(upK f (N-f)).length:=(Y91 _ _).symm;have a6:=K109 (N:Int) (f:Int) A es cap P (upK f (N-f)) (N-f) H7 (E+1) h7.es' ao (hP.ext U) (bg.ext U) (by rw[Y91];omega);rw[<- aj] at a6;refine R0 a6 ?_;rintro r8 H8 c6 ⟨Q,h8⟩;have ct:=Q.le;have bt:Q6 (N:Int) (f:Int) es=0:=by
  unfold Q6;rw[V11 (by omega) (by omega) fun i e he=>ai e (aH he)];simp;omega
 rcases h8 with ⟨h0,_⟩ | ⟨n',f',en,ef,_,_,_,h8⟩
 .exact absurd bt h0
 obtain rfl:N=n':=by omega
 obtain rfl:f=f':=by omega
 rcases h8 with ⟨bf,_⟩ | ⟨d6,bu,ho,cx,d9,ci,R,rfl,hR,o,rfl,d5,d4,ak⟩
 .exact absurd (B100 hf) bf
 obtain rfl:=Y88 (n:=N) ho;have db:=U74 es N f (upK f (N-f));have bd:=fun i (hi:i<N)=>Q95 (es:=es) (B100 hf) hf hi
 rw[show Y72 N (aF N G50) (adj es) (Z85 N f (upK f (N-f)))=B50 es N f (upK f (N-f)) from rfl] at hR ak;generalize B50 es N f (upK f (N-f))=bs at *
 have c9:=(Q.get E (by omega)).trans bz;have h8:=h7.ext Q;have ax:=(a3.trans U).trans Q;have g8:=((U.trans Q).get nx (by omega)).trans g2;have cf:=(hr.ext V).ext Q;simp(disch:=first|omega|assumption)only[W0,M108 ak hf];have bx:=(a3.trans a5).kp (p:=rc) (q:=rl);have b4:=(V.trans Q).kp (p:=rc) (q:=rl);have g5:=(a5.get nx (by omega)).trans g2;clear Q U a3 V ax h7 h2 hA hP bg a6 ho hr;refine B1 (m:=f) (fun m L' H' nx'=>∃ i c,m+i=f/\L'=[.int .i64 (i:Int)]/\SV H' nx' p rc rl N A cap es nb L/\Kp H5 E rc rl H' nx'/\J0 H' o=some (.cells (R34 bs) 0)/\c6<=nx'/\V7 c/\J0 H' E=some (.cells c 0)/\RR H' nx' (.agg ⟨c⟩) (fwI es N bs i)) ?_
  ⟨0,c5,by omega,rfl,h8,b4,ak,aD _,a7,c9,cf⟩
 rintro m cz L2 H9 O ⟨i,c,da,rfl,h9,al,ba,cp,hc,a9,bc⟩ a8;have g9:=al.cell h5.ic h5.il (by omega) g5
 by_cases d8:i<f
 case neg=>
  obtain rfl:i=f:=by omega
  have b5:¬ (i:Int)<(i:Int):=by omega
  simp(disch:=first|omega|assumption)only[W0,Nat.reduceAdd,b5,a9,X15 hc,hc.three,hc.one,g9,G24 (show c.length=[dU false,.slice none 0 0,.slice none 0 0].length from hc.three)];have hk:=bx.trans al;refine⟨bc.boxs g9 (U47 rfl) (.inl rfl),h9.boxs g9 rfl (by omega),hk.hs (.inl (aD _))⟩
 have aq:(i:Int)<(f:Int):=by omega
 obtain⟨b,hb,cc,bv⟩:=bd i (by omega);obtain⟨d3,aw,ce⟩:=J93 cc bv (show i<N by omega) (by omega);have ah:b.key<4294967296:=by omega
 have c0:=M79 hb 0 (.int .i64 b.var) rfl;have c1:=M79 hb 1 (.int .u32 (b.key:Int)) rfl;have c2:=M79 hb 2 (.int .i64 b.par) rfl;rw[eM] at c0;simp(disch:=first|omega|assumption)only[W0,Z0,Nat.reduceAdd,aq,ba,Z108 c0 c1 c2,D7,Y12,a9,X15 hc];generalize hK:hs (hs H9 O (some (.cells [.int .i64 0,.int .u32 0,.int .i64 0] 0))) O (some (.cells [.int .i64 b.var,.int .u32 (b.key:Int),.int .i64 b.par] 0))=K;have kE:D0 H9 O K (O+1+7):=by rw[<- hK];exact(((D0.refl H9 O).new _ (aD _) (by omega):D0 H9 O _ (O+1+7)).hs (aD _))
 have kB:J0 K O=some (.cells [.int .i64 b.var,.int .u32 (b.key:Int),.int .i64 b.par] 0):=by rw[<- hK,Z11]
 have k7:=(kE.get E (by omega)).trans a9;refine R0 (M110 (b:=b) ah K (O+1+7)) ?_;rintro _ d2 cu ⟨rfl,b3⟩;have J:=kE.trans b3;have a2:=h9.ext J;have ab:=(J.get E (by omega)).trans a9;refine R0 (Y87 a2 (by omega) ai an aw (U43 (show i<N by omega) ce) (ae _ aw)) ?_;rintro d1 cy cv ⟨ap,cd,Z⟩;have c7:=J.le;have ca:=Z.le;have ad:=Z.cell a2.ic a2.il (by omega) ab;have au:=(bc.ext J).kp Z a2.ic a2.il;refine R0 (G82 au ap (N84 an i (by omega)) (B65 es N _ an)) ?_;rintro d7 c3 az ⟨ac,W⟩;obtain⟨av,rfl,a0⟩:=ac.num;have a1:=(W.get E (by omega)).trans ad;have c8:=cd.ext W;have aa:Kp H9 O rc rl c3 az:=(J.kp.trans Z).trans W.kp;simp(disch:=first|omega|assumption)only[W0,a1,ad,ab,X15 hc,a0.three,a0.one,G24 (show av.length=c.length by rw[a0.three,hc.three])];have cg:=W.le;have bk:=aa.cell h9.ic h9.il (by omega) ba;refine⟨by rw[hc.three];omega,a8 (m-1) _ _ _ (by omega) ⟨i+1,av,by omega,by simp,c8.boxs a1 (V7.noU hc) (by omega),(al.trans aa).hs (.inl (aD _)),?_,by omega,a0,Z11 _ _ _,?_⟩⟩
 .rw[Z1 _ (by omega)];exact bk
 .rw[X95 hb]
  exact ac.boxs a1 (W81 hc) (.inl rfl)
end Go.Proofs.YtoiioigihocgbaaGreatDoor
namespace Go.Clo
def E9(x:Nat):Nat:=(V5 6 x).length
theorem K50{s:ByteArray}{i b:Nat}{K:IntKind}(hg:s.data[i]? = some (UInt8.ofNat b))(hb:b<256)(k:VP):D9 .sidx [.string s,.int K (i:Int)] k=k (.int .u8 (b:Int)):=by
 have h:VF.ev .sidx [.string s,.int K (i:Int)]=some (.int .u8 (b:Int)):=by
  show J52 s (i:Int)=_;unfold J52;have e:s[((i:Int)).toNat]? = some (UInt8.ofNat b):=by
   rw[Int.toNat_natCast,<- hg];rfl
  rw[if_pos (by omega),e];simp only[Option.map_some];congr 2;show((UInt8.ofNat b).toNat:Int)=_;have:(UInt8.ofNat b).toNat=b%256:=UInt8.toNat_ofNat';rw[this,bV (by omega)]
 unfold D9;rw[h,J8];rfl
end Go.Clo
namespace Go.Proofs.YtoiioigihocgbaaGreatDoor
open Go.Clo
def N16:Array UInt8 := #[0,1,1,2,1,2,2,3,1,2,2,3,2,3,3,4,1,2,2,3,2,3,3,4,2,3,3,4,3,4,4,5,1,2,2,3,2,3,3,4,2,3,3,4,3,4,4,5,2,3,3,4,3,4,4,5,3,4,4,5,4,5,5,6,1,2,2,3,2,3,3,4,2,3,3,4,3,4,4,5,2,3,3,4,3,4,4,5,3,4,4,5,4,5,5,6,2,3,3,4,3,4,4,5,3,4,4,5,4,5,5,6,3,4,4,5,4,5,5,6,4,5,5,6,5,6,6,7,1,2,2,3,2,3,3,4,2,3,3,4,3,4,4,5,2,3,3,4,3,4,4,5,3,4,4,5,4,5,5,6,2,3,3,4,3,4,4,5,3,4,4,5,4,5,5,6,3,4,4,5,4,5,5,6,4,5,5,6,5,6,6,7,2,3,3,4,3,4,4,5,3,4,4,5,4,5,5,6,3,4,4,5,4,5,5,6,4,5,5,6,5,6,6,7,3,4,4,5,4,5,5,6,4,5,5,6,5,6,6,7,4,5,5,6,5,6,6,7,5,6,6,7,6,7,7,8]
theorem J68:∀ x,x<64->N16[x]? = some (UInt8.ofNat (E9 x))/\E9 x<7:=by
 have h:((aY 64).all fun i=>decide (N16[i]? = some (UInt8.ofNat (E9 i))/\E9 i<7))=true:=by decide +kernel
 intro i hi;have:=bW.1 h i (by simpa using hi);simpa using this
theorem R44{x:Nat}(hx:x<64)(H:Y0)(nx:Nat):Q2 Tryz.prog 44 [.int .u32 (x:Int)] H nx fun r H' nx'=>r = .int .i64 (E9 x:Int)/\D0 H nx H' nx':=by
 refine spec44 ?_;unfold F44;obtain⟨h1,h2⟩:=J68 x hx;have z1:x >>> 24=0:=by rw[eO];omega
 have z2:x >>> 16=0:=by rw[eO];omega
 have z3:x >>> 8=0:=by rw[eO];omega
 have z4:x &&& 255=x:=by rw[show(255:Nat)=2^8-1 from rfl,Nat.and_two_pow_sub_one_eq_mod];omega
 have s1:=fun k=>V15 (a:=x) (n:=24) (K := .u64) k (by omega)
 have s2:=fun k=>V15 (a:=x) (n:=16) (K := .u64) k (by omega)
 have s3:=fun k=>V15 (a:=x) (n:=8) (K := .u64) k (by omega)
 rw[z1] at s1;rw[z2] at s2;rw[z3] at s3;have p0:N16[0]? = some (UInt8.ofNat 0):=by decide +kernel
 have t0:∀(k:VP),D9 .sidx [.string ⟨N16⟩,.int .u32 0] k=k (.int .u8 0):=fun k=>K50 (s:=⟨N16⟩) (i:=0) (b:=0) p0 (by omega) k
 have tx:∀(k:VP),D9 .sidx [.string ⟨N16⟩,.int .u32 (x:Int)] k=k (.int .u8 (E9 x:Int)):=fun k=>K50 (s:=⟨N16⟩) (i:=x) h1 (by omega) k
 unfold N16 at t0 tx;have a0:∀(k:VP),D10 .and (.int .u32 0) (.int .u32 255) k=k (.int .u32 0):=fun k=>rfl
 have ax:∀(k:VP),D10 .and (.int .u32 (x:Int)) (.int .u32 255) k=k (.int .u32 (x:Int)):=fun k=>by
  have:=D17 (a:=x) (b:=255) k (by omega) (by omega);rw[z4] at this;exact this
 have b0:∀(k:VP),D10 .add (.int .u8 0) (.int .u8 0) k=k (.int .u8 0):=fun k=>rfl
 have bx:∀(k:VP),D10 .add (.int .u8 0) (.int .u8 (E9 x:Int)) k=k (.int .u8 (E9 x:Int)):=fun k=>by
  rw[X6];have e:IntKind.u8.wrap (0+(E9 x:Int))=(E9 x:Int):=by rw[Int.zero_add];exact G68 (by omega)
  show k (.int .u8 (IntKind.u8.wrap (0+(E9 x:Int))))=_;rw[e]
 have c0:∀(k:VP),W8 .i64 (.int .u8 (E9 x:Int)) k=k (.int .i64 (E9 x:Int)):=fun k=>K69 (by omega) _ k
 rw[G1,show(.int .u64 24:Value) = .int .u64 ((24:Nat):Int) from rfl,s1];rw[show(.int .u32 ((0:Nat):Int):Value) = .int .u32 0 from rfl,t0];rw[show(.int .u64 16:Value) = .int .u64 ((16:Nat):Int) from rfl,s2];rw[show(.int .u32 ((0:Nat):Int):Value) = .int .u32 0 from rfl,a0,t0,b0];rw[show(.int .u64 8:Value) = .int .u64 ((8:Nat):Int) from rfl,s3];rw[show(.int .u32 ((0:Nat):Int):Value) = .int .u32 0 from rfl,a0,t0,b0,ax,tx,bx,c0,c0];unfold wK tB;refine .inl ⟨⟨⟨rfl,trivial⟩,trivial⟩,?_⟩;rw[J80,Y5];exact⟨rfl,D0.self (by omega)⟩
end Go.Proofs.YtoiioigihocgbaaGreatDoor
namespace Go.Clo
theorem K67:∀ x,x<64->0<x->x &&& (4294967296-x)=2^tz x:=by decide +kernel
theorem G60{x:Nat}(h0:0<x)(h:x<4294967296)(k:VP):wUn .neg (.int .u32 (x:Int)) k=k (.int .u32 ((4294967296-x:Nat):Int)):=by
 have e:unV .neg (.int .u32 (x:Int))=some (.int .u32 (eW.wrap (0-(x:Int)))):=rfl;have e2:eW.wrap (0-(x:Int))=((4294967296-x:Nat):Int):=by
  simp only[eY,eK,dW];simp;omega
 unfold wUn;rw[e,e2,J8];rfl
theorem U59(x:Int)(k:VP):U11 [.int .i64 0,.slice none 0 0] [(0,1),(1,1)] [(0,.int .i64 x)] k=k (.agg ⟨[.int .i64 x,.slice none 0 0]⟩):=V14 _ _
theorem Y48(x:Int)(k:List Value->Prop):K6 1 1 [.int .u32 0] [(0,.int .u32 x)] k=k [.int .u32 x]:=rfl
theorem D0.thru{H:Y0}{nx:Nat}{K:Y0}{m:Nat}{H':Y0}{nx':Nat}(a:D0 H nx K m)(b:D0 K nx H' nx'):D0 H nx H' nx':=⟨b.le,fun q hq=>(b.get q hq).trans (a.get q hq)⟩
theorem Acc.low{lo:Nat}{H:Y0}{nx size:Nat}{v:Value}{n:Nat}{c:List Value}(h:Acc lo H nx size v n c){i:Nat}(hi:i<lo)(b:Option V3):Acc lo (Go.Clo.hs H i b) nx size v n c:=by
 obtain⟨hl,h | ⟨q,h1,h2,h3,h4⟩⟩:=h
 .exact⟨hl,.inl h⟩
 .exact⟨hl,.inr ⟨q,h1,h2,h3,by rw[Z1 _ (by omega)];exact h4⟩⟩
theorem K62(a b x:Value):B12 [a,b] 1 [x]=[a,x]:=rfl
theorem Y22(a b:List Nat):K12 (a++b)=K12 a++K12 b:=by simp[K12]
end Go.Clo
namespace Go.Proofs.YtoiioigihocgbaaGreatDoor
open Go.Clo
theorem Q49{N s cap:Nat}{A:Option Addr}{es:List Nat}{H:Y0}{nx:Nat}(hS:Sl H nx A (K12 es))(hN:N<=6)(ac:∀ e ∈ es,e<2^N)(ap:es.length<=8)(ak:s<4294967296):
  Q2 Tryz.prog 43 [gv N A es.length cap,.int .u32 (s:Int)] H nx fun r H' nx'=>(∃ B,r=gv N B (D14 es s).length (D14 es s).length/\Sl H' nx' B (K12 (D14 es s))/\∀ b o t,B=some ⟨b,o,t⟩->nx<=b)/\D0 H nx H' nx':=by
 have al:2^N<=64:=aK (n:=2) (by omega) hN;have Q:U14 es:=fun e he=>by have:=ac e he;omega
 have ai:N3 N es=0:=V11 (by omega) (by omega) fun i e he=>ac e (aH he)
 refine spec43 ?_;unfold F43;simp(disch:=first|omega|assumption)only[W0,Z0,Q0.val,C13];generalize hK:hs (hs H nx (some (.cells [.int .i64 N,.slice A es.length cap] 0))) (nx+1) (some (.cells [.int .i64 0,.slice none 0 0] 0))=K;have kG:J0 K nx=some (.cells [.int .i64 N,.slice A es.length cap] 0):=by rw[<- hK,Z1 _ (by omega),Z11]
 have kR:J0 K (nx+1)=some (.cells [.int .i64 0,.slice none 0 0] 0):=by rw[<- hK,Z11]
 have ae:D0 H nx K (nx+1+1):=by
  rw[<- hK];exact(((D0.refl H nx).new _ (by omega) (by omega):D0 H nx _ (nx+1)).new _ (by omega) (by omega))
 refine R0 (N11 N A es cap _ _ (hS.ext ae) Q) ?_;rintro _ H3 E ⟨rfl,V⟩;have d1:decide (N3 N es≠0)=false:=by simp[ai]
 have g3:=(V.get nx (by omega)).trans kG;have r3:=(V.get (nx+1) (by omega)).trans kR;have an:=V.le;simp(disch:=first|omega|assumption)only[W0,Z0,Nat.reduceAdd,d1,g3,U59,G26];generalize ab:hs (hs H3 E (some (.cells [.int .i64 0,.slice none 0 0] 0))) E (some (.cells [.int .i64 N,.slice none 0 0] 0))=K4;have k4:J0 K4 E=some (.cells [.int .i64 N,.slice none 0 0] 0):=by rw[<- ab,Z11]
 have a8:D0 H3 E K4 (E+1):=by rw[<- ab];exact((D0.refl _ _).new _ (aD _) (by omega):D0 H3 E _ (E+1)).hs (aD _)
 have g4:=(a8.get nx (by omega)).trans g3;refine B1 (m:=es.length) (fun m L H' nx'=>∃ i v,m+i=es.length/\L=[.int .i64 (i:Int)]/\Acc (E+1) H' nx' 1 v (D14 (es.take i) s).length (K12 (D14 (es.take i) s))/\J0 H' E=some (.cells [.int .i64 N,v] 0)/\D0 K4 E H' nx'/\E+1<=nx') ?_
  ⟨0,.slice none 0 0,by omega,rfl,Acc.nil _ _ _ _,k4,D0.self (by omega),by omega⟩
 rintro m ih L H5 U ⟨i,v,hm,rfl,hA,g5,Z,ad⟩ ah;have a0:D0 H nx H5 U:=(ae.trans V).trans (a8.thru Z);have r5:=((a8.thru Z).get (nx+1) (by omega)).trans r3
 by_cases hi:i<es.length
 case neg=>
  have W:¬ (i:Int)<(es.length:Int):=by omega
  rw[D23 hi] at hA;obtain⟨B,rfl,hB⟩:=hA.sl;simp(disch:=first|omega|assumption)only[W0,Z0,Nat.reduceAdd,W,g5,C13,r5,G26];refine⟨⟨B,rfl,?_,fun b o t e => ?_⟩,a0.hs (by omega)⟩
  rotate_left
  .rcases hA.2 with ⟨_,e2⟩ | ⟨q,a1,a2,a3,_⟩
   .rw[e] at e2;cases e2
   .rw[e] at a3
    injection a3 with a4;injection a4 with a5;injection a5 with a6;omega
  obtain⟨B',e,aj⟩:=(hA.low (i:=nx+1) (by omega) (some (.cells [.int .i64 N,.slice B (D14 es s).length (D14 es s).length] 0))).sl
  cases e
  exact aj
 have W:(i:Int)<(es.length:Int):=by omega
 obtain⟨e,he⟩:∃ e,es[i]? = some e:=⟨_,aE hi⟩
 obtain⟨A,oA,V63,rfl,aq,O,a7⟩:=(hS.ext a0).open (i:=i) (by rw[E1];omega);have ao:=Q.get he;have q0:=a7 _ _ (Q3 he);have J:=M58 s he;have au:(D14 (es.take i) s).length<=8:=by have:=K46 (es.take i) s;rw[cK] at this;omega
 by_cases h0:e &&& s=0
 .rw[if_pos h0,List.append_nil] at J
  simp(disch:=first|omega|assumption)only[W0,W,X3 O,q0,h0,N13,ne_eq,not_true_eq_false];exact ah (m-1) _ _ _ (by omega) ⟨i+1,v,by omega,by simp,by rw[J];exact hA,g5,Z,ad⟩
 .rw[if_neg h0] at J
  simp(disch:=first|omega|assumption)only[W0,W,X3 O,q0,h0,N13,ne_eq,not_false_eq_true,g5,Y48];have a9:D0 H5 U (hs H5 U (some (.cells [.int .u32 ((e &&& s:Nat):Int)] 0))) (U+1):=(D0.refl _ _).new _ (aD _) (by omega);have g6:=(a9.get E (by omega)).trans g5;refine Y20 (H0:=hs H5 U (some (.cells [.int .u32 ((e &&& s:Nat):Int)] 0))) (lo:=E+1) (m:=1) (l:=[.int .u32 ((e &&& s:Nat):Int)]) (by omega) (hA.ext a9) (J9 (Z11 _ _ _) rfl (by omega)) (by omega) rfl (by omega) (by omega) (D0.self (by omega)) (by omega) ?_;intro v' H' aa ag _;have g7:=(ag.get E (by omega)).trans g6;obtain⟨B',rfl,_⟩:=aa.sl;simp(disch:=first|omega|assumption)only[W0,Nat.reduceAdd,g7,K62];refine ah (m-1) _ _ _ (by omega) ⟨i+1,_,by omega,by simp,?_,Z11 _ _ _,?_,by omega⟩
  .rw[J,Y22,bH]
   exact aa.low (by omega) _
  .exact(Z.thru ⟨by omega,fun q hq=>(ag.get q (by omega)).trans (a9.get q (by omega))⟩).hs (aD _)
theorem V99{N s cap:Nat}{A:Option Addr}{es:List Nat}{H:Y0}{nx:Nat}(hS:Sl H nx A (K12 es))(hN:N<=6)(J:∀ e ∈ es,e<2^N)(O:es.length<=8)(E:s<4294967296):
  Q2 Tryz.prog 43 [gv N A es.length cap,.int .u32 (s:Int)] H nx fun r H' nx'=>(∃ B,r=gv N B (D14 es s).length (D14 es s).length/\Sl H' nx' B (K12 (D14 es s)))/\D0 H nx H' nx':=
 (Q49 hS hN J O E).mono fun _ _ _ ⟨⟨B,h1,h2,_⟩,h3⟩=>⟨⟨B,h1,h2⟩,h3⟩
def D19(es:List Nat)(N:Nat):List Nat:=R8 (B2 es N) N N (2^N-1)
theorem N30{es:List Nat}{N:Nat}:∀(u x:Nat),(B2 es N)[u]? = some x->x<2^N:=by
 intro u x h;simp only[B2,cP,bU] at h;obtain⟨v,_,rfl⟩:=h
 split
 .exact G11 _ _
 .exact aQ _
theorem U41 {N cap:Nat} {A:Option Addr} {es:List Nat} {H:Y0} {nx:Nat} (hS:Sl H nx A (K12 es)) (hN:N<=6) (hsm:∀ e ∈ es,e<2^N) (hle:es.length<=8):
  Q2 Tryz.prog 42 [gv N A es.length cap] H nx fun r H' nx'=>(∃ B,r = .slice B (D19 es N).length (D19 es N).length/\Sl H' nx' B (K12 (D19 es N)))/\D0 H nx H' nx':=by
 have hp64:2^N<=64:=Nat.pow_le_pow_right (n:=2) (by omega) hN
 have hp1:0<2^N:=Nat.two_pow_pos N
 have hsm32:U14 es:=fun e he=>by have:=hsm e he;omega
 have hgc:N3 N es=0:=V11 (by omega) (by omega) fun i e he=>hsm e (List.mem_of_getElem? he)
 have haL:=N30 (es:=es) (N:=N)
 refine spec42 ?_
 unfold F42
 have hE1:D0 H nx (hs H nx (some (.cells [.int .i64 N,.slice A es.length cap] 0))) (nx+1):=(D0.refl H nx).new _ (Nat.le_refl _) (by omega)
 have k1:J0 (hs H nx (some (.cells [.int .i64 N,.slice A es.length cap] 0))) nx=some (.cells [.int .i64 N,.slice A es.length cap] 0):=Z11 _ _ _
 simp (disch:=first|omega|assumption|exact G0 (by assumption)|exact U10 (by assumption)|exact X0 (by omega)|fail) only[W0,Z0,Q0.val,C13]
 generalize hs H nx (some (.cells [.int .i64 N,.slice A es.length cap] 0))=K at *
 refine R0 (N11 N A es cap _ _ (hS.ext hE1) hsm32) ?_
 rintro _ H2 nx2 ⟨rfl,hE2⟩
 have d1:decide (N3 N es≠0)=false:=by simp[hgc]
 have g2:=(hE2.get nx (by omega)).trans k1
 have hle2:=hE2.le
 simp (disch:=first|omega|assumption|exact G0 (by assumption)|exact U10 (by assumption)|exact X0 (by omega)|fail) only[W0,d1,g2,C13]
 refine R0 (Q65 (by omega) A es cap _ _ (hS.ext (hE1.trans hE2)) hsm (by omega)) ?_
 rintro _ H3 nx3 ⟨rfl,hE3⟩
 have g3:=(hE3.get nx (by omega)).trans g2
 have hle3:=hE3.le
 have e1:(K12 (B2 es N)).length=32:=by rw[E1];exact N9 es N
 have e2:(K12 (List.replicate 32 0)).length=32:=by rw[E1];simp
 have e3:=G24 (c:=K12 (List.replicate 32 0)) (vs:=K12 (B2 es N)) (by rw[e1,e2])
 have e4:=W5 (B2 es N)
 rw[Q27]
 simp (disch:=first|omega|assumption|exact G0 (by assumption)|exact U10 (by assumption)|exact X0 (by omega)|fail) only[W0,e1,e2,e3,e4,g3]
 have hE4:D0 H3 nx3 (hs (hs H3 nx3 (some (.cells (K12 (List.replicate 32 0)) 0))) nx3 (some (.cells (K12 (B2 es N)) 0))) (nx3+1):=((D0.refl _ _).new _ (Nat.le_refl _) (m:=nx3+1) (by omega)).hs (Nat.le_refl _)
 have g43:J0 (hs (hs H3 nx3 (some (.cells (K12 (List.replicate 32 0)) 0))) nx3 (some (.cells (K12 (B2 es N)) 0))) nx3=some (.cells (K12 (B2 es N)) 0):=Z11 _ _ _
 generalize hs (hs H3 nx3 (some (.cells (K12 (List.replicate 32 0)) 0))) nx3 (some (.cells (K12 (B2 es N)) 0))=H4 at *
 have g4:=(hE4.get nx (by omega)).trans g3
 refine R0 (C51 (n:=N) (by omega) _ _) ?_
 rintro _ _ _ ⟨rfl,rfl,rfl⟩
 have hE04:=((hE1.trans hE2).trans hE3).trans hE4
 generalize hL:B2 es N=aL at *
 have hLN:aL.length=32:=by rw[<- hL];exact N9 es N
 refine B1 (m:=N) (fun m L H' nx'=>∃ (l:Nat) (v:Value) (res:List Nat),L=[v,.int .u32 (l:Int)]/\(V5 N l).length<=m/\l<2^N/\res.length+m<=N+1/\res++R8 aL N m l=D19 es N/\Acc (nx3+1) H' nx' 1 v res.length (K12 res)/\D0 H4 (nx3+1) H' nx') ?_
  ⟨2^N-1,.slice none 0 0,[],rfl,Q15 _ _,by omega,by simp,by unfold D19;rw[hL];rfl,Acc.nil _ _ _ _,D0.refl _ _⟩
 rintro m ih L H5 nx5 ⟨l,v,res,rfl,hm,hl,hrm,hres,hA,hE5⟩ hih
 have g5:=(hE5.get nx (by omega)).trans g4
 have g53:=(hE5.get nx3 (by omega)).trans g43
 have hle5:=hE5.le
 have M44:l<4294967296:=by omega
 by_cases h0:l=0
 .subst h0
  have e:R8 aL N m 0=[]:=by cases m<;>rfl
  rw[e,List.append_nil] at hres
  obtain⟨B,rfl,hB⟩:=hA.sl
  simp (disch:=first|omega|assumption|exact G0 (by assumption)|exact U10 (by assumption)|exact X0 (by omega)|fail) only[W0,ne_eq,not_true_eq_false]
  rw[hres] at hB ⊢
  exact⟨⟨B,rfl,hB⟩,hE04.trans hE5⟩
 have h0':¬ (l:Int)=0:=by omega
 obtain⟨m',rfl⟩:∃ m',m=m'+1:=by
  cases m with
  | zero=>
   obtain⟨u,hu⟩:=B14 h0
   have:=U43 (R7 hl hu) hu
   omega
  | succ m=>exact⟨m,rfl⟩
 have e:R8 aL N (m'+1) l=W7 aL N N 0 (2^tz l) :: R8 aL N m' (Z2 l (W7 aL N N 0 (2^tz l))):=if_neg h0
 rw[e] at hres
 have hv:=B54 (N:=N) (by omega) (by omega) hl
 have hlv:=V33 (x:=l) (by omega) (by omega)
 have hlow:=K67 l (by omega) (by omega)
 have hI:=E65 (aL:=aL) haL hv
 have hn32:4294967296-l<4294967296:=by omega
 have hneg:=fun k=>G60 (x:=l) (by omega) M44 k
 simp (disch:=first|omega|assumption|exact G0 (by assumption)|exact U10 (by assumption)|exact X0 (by omega)|fail) only[W0,ne_eq,h0',not_false_eq_true,hneg,hlow]
 generalize tz l=t at *
 refine B1 (m:=N) (fun f L H' nx'=>∃ (c b:Nat),L=[.int .u32 (c:Int),.int .u32 (b:Int)]/\c<2^N/\b<2^N/\N<=f+(V5 N c).length/\(∀ w,b.testBit w=true->c.testBit w=false)/\W7 aL N f c b=W7 aL N N 0 (2^t)/\H5=H'/\nx5=nx') ?_
  ⟨0,2^t,rfl,hp1,R27 hv,by omega,by simp,rfl,rfl,rfl⟩
 rintro f ih6 L _ _ ⟨c,b,rfl,hc,hb,hf,hd,hcb,rfl,rfl⟩ hih6
 have hc32:c<4294967296:=by omega
 have hb32:b<4294967296:=by omega
 by_cases hb0:b=0
 .subst hb0
  have e5:W7 aL N f c 0=c:=by cases f<;>rfl
  rw[e5] at hcb
  rw[<- hcb] at hres hI
  have hm2:=X35 hv hlv hI.self
  have hnd32:Z2 l c<4294967296:=U10 M44
  have hE6:D0 H5 nx5 (hs H5 nx5 (some (.cells [.int .u32 (c:Int)] 0))) (nx5+1):=(D0.refl _ _).new _ (Nat.le_refl _) (by omega)
  simp (disch:=first|omega|assumption|exact G0 (by assumption)|exact U10 (by assumption)|exact X0 (by omega)|fail) only[W0,ne_eq,not_true_eq_false,Y48]
  refine Y20 (H0:=H4) (lo:=nx3+1) (m:=1) (l:=[.int .u32 (c:Int)]) (by omega) (hA.ext hE6) (J9 (Z11 _ _ _) rfl (by omega)) (by omega) rfl (by omega) (by omega) (hE5.trans hE6) (by omega) ?_
  intro v' H' hA' hE' _
  refine hih m' _ _ _ (by omega) ⟨Z2 l c,v',res++[c],rfl,by omega,Z6 hl,by simp;omega,by rw[List.append_assoc];exact hres,?_,hE'⟩
  rw[Y22,List.length_append]
  exact hA'
 have hb0':¬ (b:Int)=0:=by omega
 obtain⟨f',rfl⟩:∃ f',f=f'+1:=by
  cases f with
  | zero=>exact absurd (X20 hb hd (by have:=Q15 N c;omega)) hb0
  | succ f=>exact⟨f,rfl⟩
 have e6:W7 aL N (f'+1) c b=W7 aL N f' (c ||| b) (Z2 (Q4 aL b N) (c ||| b)):=if_neg hb0
 rw[e6] at hcb
 have hg:=R25 hb hb0 hd
 have hcb32:c ||| b<2^N:=Z26 hc hb
 simp (disch:=first|omega|assumption|exact G0 (by assumption)|exact U10 (by assumption)|exact X0 (by omega)|fail) only[W0,ne_eq,hb0',not_false_eq_true,g5]
 refine B1 (m:=N) (fun q L H' nx'=>∃ (j:Nat),q+j=N/\L=[.int .u32 (Q4 aL b j:Int),.int .i64 (j:Int)]/\H5=H'/\nx5=nx') ?_ ⟨0,by omega,rfl,rfl,rfl⟩
 rintro q ih7 L _ _ ⟨j,hq,rfl,rfl,rfl⟩ hih7
 have hnl:=Z14 (b:=b) haL
 by_cases hj:j<N
 case neg=>
  obtain rfl:j=N:=by omega
  have hj':¬ (j:Int)<(j:Int):=by omega
  have hnj:=hnl j
  have hx32:Q4 aL b j<4294967296:=by omega
  have hy32:c ||| b<4294967296:=by omega
  simp (disch:=first|omega|assumption|exact G0 (by assumption)|exact U10 (by assumption)|exact X0 (by omega)|fail) only[W0,hj']
  refine hih6 f' _ _ _ (by omega) ⟨c ||| b,Z2 (Q4 aL b j) (c ||| b),rfl,hcb32,Z6 hnj,by omega,fun w hw => ?_,hcb,rfl,rfl⟩
  rw[N1,Bool.and_eq_true] at hw
  simpa using hw.2
 have hj':(j:Int)<(N:Int):=by omega
 obtain⟨x,hx⟩:∃ x,aL[j]? = some x:=⟨aL[j]'(by omega),List.getElem?_eq_getElem _⟩
 have hx2:=haL j x hx
 have hx32:x<4294967296:=by omega
 have hnj:=hnl j
 have hn32:Q4 aL b j<4294967296:=by omega
 have hxD:aL.getD j 0=x:=by simp[List.getD_eq_getElem?_getD,hx]
 have gx:=Q3 hx
 have hstep:Q4 aL b (j+1)=if b.testBit j=true then Q4 aL b j ||| aL.getD j 0 else Q4 aL b j:=rfl
 rw[hxD] at hstep
 have hj32:j<32:=by omega
 cases hbj:b.testBit j with
 | false=>
  rw[hbj,if_neg (by simp)] at hstep
  simp (disch:=first|omega|assumption|exact G0 (by assumption)|exact U10 (by assumption)|exact X0 (by omega)|fail) only[W0,hj',N13,hbj]
  exact hih7 (q-1) _ _ _ (by omega) ⟨j+1,by omega,by rw[hstep];simp,rfl,rfl⟩
 | true=>
  rw[hbj,if_pos rfl] at hstep
  simp (disch:=first|omega|assumption|exact G0 (by assumption)|exact U10 (by assumption)|exact X0 (by omega)|fail) only[W0,hj',N13,hbj,g53,gx]
  exact hih7 (q-1) _ _ _ (by omega) ⟨j+1,by omega,by rw[hstep];simp,rfl,rfl⟩
end Go.Proofs.YtoiioigihocgbaaGreatDoor
namespace Go.Clo
theorem Z93{P:Program}{f:FuncId}{args:List Value}{E H:Y0}{nx p q:Nat}{k:EP}{Q:EP}(J:∀ i b,J0 E i=some b->J0 H i=some b)(hp:X51 E p)(hq:X51 E q)(h:Q2 P f args E nx Q)
  (hQ:∀ v H0 nx',Q v H0 nx'->Kp E nx p q H0 nx')(hk:∀ v H' nx' H0,Q v H0 nx'->Kp H nx p q H' nx'->Sub H0 nx' H'->Top H' nx'->k v H' nx'):Y2 P f args H nx k:=by
 obtain⟨v,H0,nx',hc,O⟩:=h;have hE:=hQ _ _ _ O;obtain⟨ep,cp,hp⟩:=hp;obtain⟨eq,cq,hq⟩:=hq;obtain⟨H',h1,h2⟩:=M90 (fun i=>if i<nx/\J0 E i=none/\(J0 H i).isSome=true then J0 H i else J0 H0 i) nx';refine .inr ⟨v,H',nx',hc.beside J hE.le h1 h2,hk v H' nx' H0 O ⟨hE.le,fun i hi h3 h4 => ?_⟩ (fun i b hi hb => ?_) h2⟩
 .rw[h1 i (aO hi hE.le)]
  split
  .rfl
  .rename_i hn
   rw[hE.get i hi h3 h4]
   cases hg:J0 E i with
   | some b=>rw[J i b hg]
   | none=>
    cases U:J0 H i with
    | none=>rfl
    | some b=>exact absurd ⟨hi,hg,by rw[U];rfl⟩ hn
 .rw[h1 i hi,if_neg]
  .exact hb
  .rintro⟨g1,g2,_⟩
   have h3:i≠p:=by rintro rfl;rw[hp] at g2;cases g2
   have h4:i≠q:=by rintro rfl;rw[hq] at g2;cases g2
   rw[hE.get i g1 h3 h4,g2] at hb
   cases hb
theorem X51.sub{E H:Y0}{p:Nat}(h:X51 E p)(hs:∀ i b,J0 E i=some b->J0 H i=some b):X51 H p:=let ⟨es,c,h1⟩:=h;⟨es,c,hs _ _ h1⟩
theorem X51.out{H:Y0}{p:Nat}{qs:List Nat}(h:X51 (D6 H qs) p):p ∉ qs:=fun hm=>by
 obtain⟨es,c,h1⟩:=h;rw[U73 hm] at h1;cases h1
theorem R91{P:Program}{f:FuncId}{args:List Value}{H:Y0}{nx p q:Nat}{qs:List Nat}{k:EP}{Q:EP}(J:∀ q ∈ qs,q<nx)(hp:X51 (D6 H qs) p)(hq:X51 (D6 H qs) q)(h:Q2 P f args (D6 H qs) nx Q)
  (hQ:∀ v H0 nx',Q v H0 nx'->Kp (D6 H qs) nx p q H0 nx')
  (hk:∀ v H' nx' H0,Q v H0 nx'->Kp H nx p q H' nx'->Sub H0 nx' (D6 H' qs)->Top H' nx'->k v H' nx'):Y2 P f args H nx k:=by
 refine Z93 N68 hp hq h hQ fun v H' nx' H0 E hE hS hT=>hk v H' nx' H0 E hE (fun i b hi hb => ?_) hT
 have O:=hQ _ _ _ E;have h1:i ∉ qs:=fun hm=>by
  rw[O.get i (J i hm) (fun e=>hp.out (e ▸ hm)) (fun e=>hq.out (e ▸ hm)),U73 hm] at hb
  cases hb
 rw[Q50 h1];exact hS i b hi hb
theorem Kp.er{H:Y0}{nx p q:Nat}{H':Y0}{nx':Nat}(a:Kp H nx p q H' nx')(qs:List Nat):Kp (D6 H qs) nx p q (D6 H' qs) nx':=⟨a.le,fun x h1 h2 h3=>by
 by_cases hx:x ∈ qs
 .rw[U73 hx,U73 hx]
 .rw[Q50 hx,Q50 hx];exact a.get x h1 h2 h3⟩
theorem D0.er{H:Y0}{nx:Nat}{H':Y0}{nx':Nat}(a:D0 H nx H' nx')(qs:List Nat):D0 (D6 H qs) nx (D6 H' qs) nx':=⟨a.le,fun x h1=>by
 by_cases hx:x ∈ qs
 .rw[U73 hx,U73 hx]
 .rw[Q50 hx,Q50 hx];exact a.get x h1⟩
theorem U29.sub{H:Y0}{nx r:Nat}{M:Nat->Option Value}{H':Y0}(h:U29 H r M)(hr:r<nx)(e:Sub H nx H'):U29 H' r M:=by
 obtain⟨es,c,h1,h2⟩:=h;exact⟨es,c,e r _ hr h1,h2⟩
theorem Sl.sub'{H:Y0}{nx:Nat}{A:Option Addr}{l:List Value}{H':Y0}(h:Sl H nx A l)(e:Sub H nx H'):Sl H' nx A l:=by
 intro i v hv;obtain⟨b,o,row,e1,e2,e3,e4⟩:=h i v hv;refine⟨b,o,row,e1,e2,?_,e4⟩;unfold Q5 at e3 ⊢
 cases hg:J0 H b with
 | none=>rw[hg] at e3;cases e3
 | some x=>rw[hg] at e3;rw[e b x e2 hg];exact e3
end Go.Clo
namespace Go.Proofs.YtoiioigihocgbaaGreatDoor
open Go.Clo
theorem SV.sub{H:Y0}{nx p rc rl N:Nat}{A:Option Addr}{cap:Nat}{es nb:List Nat}{L:Nat->Rat}{H':Y0}(h:SV H nx p rc rl N A cap es nb L)(e:Sub H nx H'):SV H' nx p rc rl N A cap es nb L:=by
 refine⟨e p _ h.pn h.hp,h.pn,h.rcn,h.rln,h.nbl,h.es'.sub' e,?_,?_,h.ne⟩
 .obtain⟨M,a,b⟩:=h.cm
  exact⟨M,a.sub h.rcn e,fun n v hv=>(b n v hv).sub e⟩
 .obtain⟨M,a,b⟩:=h.lm
  exact⟨M,a.sub h.rln e,fun n v hv=>(b n v hv).sub e⟩
def M72(es nb:List Nat)(N:Nat)(width:Rat)(c l v:Nat):Bool:=
 l.testBit v&&(decide (Y25 es nb N c v l<=width)&&decide (M45 N (Y25 es nb N c) (Z2 l (2^v))<=width))
theorem B107 {H:Y0} {m p rc rl N cap:Nat} {A:Option Addr} {es nb:List Nat} {L:Nat->Rat} {qs:List Nat} (h:SV (D6 H qs) m p rc rl N A cap es nb L) (hqs:∀ q ∈ qs,q<m) (hN:N<=6) (hsm:∀ e ∈ es,e<2^N) (hle:es.length<=8)
  (hnb:∀ (u x:Nat),nb[u]? = some x->x<2^N) (hcov:∀ w,w<N->∃ e ∈ es,e.testBit w=true) {t3 t4 t5 t7 a:Nat} {lefts comps:List Nat} {CA:Option Addr} {kc:Nat} {c5:List Value} {width:Rat}
  (l3:t3<m) (l4:t4<m) (l5:t5<m) (l7:t7<m) (la:a<m)
  (g7:J0 H t7=some (.cells [.slice (some ⟨a,0,none⟩) lefts.length lefts.length] 0)) (ga:J0 H a=some (.cells (K12 lefts) 0)) (g3:J0 H t3=some (.cells [.pointer (some ⟨p,0,none⟩)] 0))
  (g4:J0 H t4=some (.cells [.slice CA comps.length kc] 0)) (gc:Sl H m CA (K12 comps)) (g5:J0 H t5=some (.cells c5 0)) (hc5:V7 c5) (hw:RR (D6 H qs) m (.agg ⟨c5⟩) width) (hws:U15 width 100000)
  {i v c l:Nat} (hi:lefts[i]? = some l) (hci:comps[i]? = some c) (hv:v<N) (hc:c<2^N) (hl:l<2^N) (hlc:∀ w,l.testBit w=true->c.testBit w=true)
  (hL:∀ l,l≠0->(∀ w,l.testBit w=true->c.testBit w=true)->L l=M45 N (Y25 es nb N c) l):
  Q2 Tryz.prog 82 [.int .i64 (i:Int),.int .i64 (v:Int),.pointer (some ⟨t7,0,none⟩),.pointer (some ⟨t3,0,none⟩),.pointer (some ⟨t4,0,none⟩),.pointer (some ⟨t5,0,none⟩)] H m
   fun r H' m'=>r = .bool (M72 es nb N width c l v)/\SV (D6 H' qs) m' p rc rl N A cap es nb L/\Kp H m rc rl H' m':=by
 have hp64:2^N<=64:=Nat.pow_le_pow_right (n:=2) (by omega) hN
 have hcovS:∀ s,s<2^N->∀ v,s.testBit v=true->∃ e ∈ es,e.testBit v=true:=fun s hs v hv=>hcov v (R7 hs hv)
 have hil:=N12 hi
 have hil2:=N12 hci
 have M44:l<4294967296:=by omega
 have hc32:c<4294967296:=by omega
 have hv32:v<32:=by omega
 have gl:=Q3 hi
 have gcc:=Q3 hci
 have hshort:∀ l,U15 (M45 N (Y25 es nb N c) l) 100000:=fun l=>(K77 (Y75 _ (by omega)) (fun v l=>B65 es N _ hle) l).1
 refine spec82 ?_
 unfold F82
 have hE0:D0 H m H (m+45):=D0.self (by omega)
 have h0:=h.ext (hE0.er qs)
 obtain⟨B,o,row,rfl,hBn,hrow,hget⟩:=gc.open (i:=i) (by rw[E1];omega)
 have q0:=hget _ _ gcc
 simp (disch:=first|omega|assumption|exact G0 (by assumption)|exact U10 (by assumption)|exact X0 (by omega)|fail) only[W0,g7,ga,gl]
 cases hlv:l.testBit v with
 | false=>
  simp (disch:=first|omega|assumption|exact G0 (by assumption)|exact U10 (by assumption)|exact X0 (by omega)|fail) only[W0]
  refine⟨?_,h0,hE0.kp⟩
  unfold M72
  rw[hlv];rfl
 | true=>
  have hp32:2^v<4294967296:=by have:=R27 hv;omega
  simp (disch:=first|omega|assumption|exact G0 (by assumption)|exact U10 (by assumption)|exact X0 (by omega)|fail) only[W0,g3,g4,X3 hrow,q0]
  refine X65 (qs:=qs) (fun q hq=>by have:=hqs q hq;omega) (V100 h0 hN hnb hv hc hl) (fun _ _ _ h=>h.2) ?_
  rintro _ H2 m2 H0 ⟨rfl,hX2⟩ hE2 hS2 _
  have h2:=(h0.ext hX2).sub hS2
  have hbl:=R96 (nb:=nb) (v:=v) (comp:=c) (left:=l) hnb hN hv
  have hbs:=E92 (nb:=nb) (comp:=c) hN hv hlv
  have hle2:=hE2.le
  refine R91 (qs:=qs) (fun q hq=>by have:=hqs q hq;omega) h2.ic h2.il (Y87 h2 (by omega) hsm hle hbl (U43 hv hbs) (hcovS _ hbl)) (fun _ _ _ h=>h.2.2) ?_
  rintro v3 H3 m3 H0' ⟨hv3,hs3,hX3⟩ hK3 hS3 _
  have h3:=hs3.sub hS3
  have hr3:=hv3.sub hS3
  have hle3:=hK3.le
  have hic2:=h2.ic.sub N68
  have hil2:=h2.il.sub N68
  have g52:=(hE2.get t5 (by omega)).trans g5
  have g53:=hK3.cell hic2 hil2 (by omega) g52
  have g32:=(hE2.get t3 (by omega)).trans g3
  have hw3:=((hw.ext (hE0.er qs)).ext (hE2.er qs)).kp (hK3.er qs) h2.ic h2.il
  simp (disch:=first|omega|assumption|exact G0 (by assumption)|exact U10 (by assumption)|exact X0 (by omega)|fail) only[W0,g53,X15 hc5]
  refine X65 (qs:=qs) (fun q hq=>by have:=hqs q hq;omega) (X81 hr3 hw3 (B65 es N _ hle) hws) (fun _ _ _ h=>h.2) ?_
  rintro _ H4 m4 H0'' ⟨rfl,hX4⟩ hE4 hS4 _
  have h4:=(h3.ext hX4).sub hS4
  have hle4:=hE4.le
  have hic3:=h3.ic.sub N68
  have hil3:=h3.il.sub N68
  have hE02:D0 H m H2 m2:=⟨by omega,fun q hq=>hE2.get q (by omega)⟩
  have hK4:Kp H m rc rl H4 m4:=(hE02.kp.trans hK3).trans hE4.kp
  have hicH:=h.ic.sub N68
  have hilH:=h.il.sub N68
  have g34:=hK4.cell hicH hilH l3 g3
  have g44:=hK4.cell hicH hilH l4 g4
  have g54:=hK4.cell hicH hilH l5 g5
  have g74:=hK4.cell hicH hilH l7 g7
  have ga4:=hK4.cell hicH hilH la ga
  have gc4:=gc.kp hK4 hicH hilH
  have hw4:=hw3.ext (hE4.er qs)
  have d3:decide (N70 (Y25 es nb N c v l) width<=0)=decide (Y25 es nb N c v l<=width):=by rw[Bool.eq_iff_iff,decide_eq_true_eq,decide_eq_true_eq];exact J98
  rw[show Y74 es N (C78 nb N v c l)=Y25 es nb N c v l from rfl]
  cases hfit:decide (Y25 es nb N c v l<=width) with
  | false=>
   rw[hfit] at d3
   simp (disch:=first|omega|assumption|exact G0 (by assumption)|exact U10 (by assumption)|exact X0 (by omega)|fail) only[W0,d3,g5,g52,g32,X15 hc5]
   refine⟨?_,h4,hK4⟩
   unfold M72
   rw[hlv,hfit];rfl
  | true=>
   rw[hfit] at d3
   obtain⟨B',o',row',e',hBn',hrow',hget'⟩:=gc4.open (i:=i) (by rw[E1];omega)
   cases e'
   have q4:=hget' _ _ gcc
   have hnd32:Z2 l (2^v)<4294967296:=U10 M44
   simp (disch:=first|omega|assumption|exact G0 (by assumption)|exact U10 (by assumption)|exact X0 (by omega)|fail) only[W0,d3,g34,g44,X3 hrow',q4,g74,ga4,gl]
   refine R91 (qs:=qs) (fun q hq=>by have:=hqs q hq;omega) h4.ic h4.il (V88 hN hsm hle hnb hcov hc hL (Z2 l (2^v)) (Z6 hl) (Y85 hlc) (D6 H4 qs) m4 h4) (fun _ _ _ h=>h.2.2) ?_
   rintro v5 H5 m5 H0''' ⟨hv5,hs5,hX5⟩ hK5 hS5 _
   have h5:=hs5.sub hS5
   have hr5:=hv5.sub hS5
   have hle5:=hK5.le
   have hK05:=hK4.trans hK5
   have g55:=hK05.cell hicH hilH l5 g5
   have hw5:=hw4.kp (hK5.er qs) h4.ic h4.il
   simp (disch:=first|omega|assumption|exact G0 (by assumption)|exact U10 (by assumption)|exact X0 (by omega)|fail) only[W0,g55,X15 hc5]
   refine X65 (qs:=qs) (fun q hq=>by have:=hqs q hq;omega) (X81 hr5 hw5 (hshort _) hws) (fun _ _ _ h=>h.2) ?_
   rintro _ H6 m6 H0'''' ⟨rfl,hX6⟩ hE6 hS6 _
   have h6:=(h5.ext hX6).sub hS6
   have d6:decide (N70 (M45 N (Y25 es nb N c) (Z2 l (2^v))) width<=0)=decide (M45 N (Y25 es nb N c) (Z2 l (2^v))<=width):=by rw[Bool.eq_iff_iff,decide_eq_true_eq,decide_eq_true_eq];exact J98
   simp (disch:=first|omega|assumption|exact G0 (by assumption)|exact U10 (by assumption)|exact X0 (by omega)|fail) only[W0,d6,g54,X15 hc5,g5,g52,g32]
   refine⟨?_,h6,hK05.trans hE6.kp⟩
   unfold M72
   rw[hlv,hfit];rfl
section
variable {A:Option Addr} {H H0:Y0} {L:Nat->Rat} {N c cap i m p rc rl:Nat} {c5:List Value} {es l lefts nb:List Nat} {perm:List Int} {v:Value} {width:Rat}
def D75(es nb:List Nat)(N:Nat)(width:Rat)(comps lefts:List Nat)(v:Nat):Nat->Nat->Option Nat
 | 0,_=>none
 | f+1,i=>if M72 es nb N width (comps.getD i 0) (lefts.getD i 0) v=true then some i else D75 es nb N width comps lefts v f (i+1)
def E80(es nb:List Nat)(N:Nat)(width:Rat)(comps lefts:List Nat):Nat->Nat->Option (Nat × Nat)
 | 0,_=>none
 | f+1,v=>match D75 es nb N width comps lefts v lefts.length 0 with
  | some i=>some (v,i)
  | none=>E80 es nb N width comps lefts f (v+1)
def Q73(es nb:List Nat)(N:Nat)(width:Rat)(comps:List Nat)(s:List Int × List Nat):List Int × List Nat:=match E80 es nb N width comps s.2 N 0 with
 | some (v,i)=>(s.1++[(v:Int)],s.2.set i (Z2 (s.2.getD i 0) (2^v)))
 | none=>s
def C54(es nb:List Nat)(N:Nat)(width:Rat)(comps:List Nat):Nat->List Int × List Nat
 | 0=>([],comps)
 | n+1=>Q73 es nb N width comps (C54 es nb N width comps n)
def M71(comps:List Nat):Nat:=comps.foldl (fun n c=>n+E9 c) 0
theorem B103(h:l[i]? = some c):M71 (l.take (i+1))=M71 (l.take i)+E9 c:=by
 unfold M71;rw[C7 h,List.foldl_append];rfl
theorem W110:∀ l:List Nat,M71 l<=6*l.length:=by
 have key:∀(l:List Nat) (n:Nat),l.foldl (fun n c=>n+E9 c) n<=n+6*l.length:=by
  intro l
  induction l with
  | nil=>intro n;simp
  | cons c l ih=>
   intro n;have h1:=ih (n+E9 c);have h2:E9 c<=6:=Q15 _ _;simp only[dF,cV];omega
 intro l;have:=key l 0;unfold M71;omega
theorem take_set(h:l[i]? = some c):(l.take i++aF (l.length-i) 0).set i c=l.take (i+1)++aF (l.length-(i+1)) 0:=by
 have hi:=N12 h;have e:(l.take i).length=i:=by rw[cK];omega
 rw[C7 h,List.append_assoc];obtain⟨k,hk⟩:∃ k,l.length-i=k+1:=⟨l.length-i-1,by omega⟩
 rw[hk,show l.length-(i+1)=k by omega,List.replicate_succ,List.set_append,if_neg (by omega),e,Nat.sub_self]
 rfl
theorem M102(a x:Value):B12 [a] 0 [x]=[x]:=rfl
def W85(es nb:List Nat)(N:Nat)(width:Rat)(comps:List Nat):List Int:=(C54 es nb N width comps (M71 comps)).1
def U81(N:Nat)(comps lefts:List Nat):Prop:=lefts.length=comps.length/\∀(i l c:Nat),lefts[i]? = some l->comps[i]? = some c->l<2^N/\∀ w,l.testBit w=true->c.testBit w=true
theorem U81.set{N:Nat}{comps lefts:List Nat}(h:U81 N comps lefts)(i v:Nat):U81 N comps (lefts.set i (Z2 (lefts.getD i 0) (2^v))):=by
 refine⟨by rw[dO];exact h.1,fun j l c hl hc => ?_⟩;rw[cQ] at hl
 split at hl
 .rename_i e
  subst e
  split at hl
  .rename_i E
   cases hl
   have hg:lefts[i]? = some lefts[i]:=aE E;obtain⟨h1,h2⟩:=h.2 i _ c hg hc;have e:lefts.getD i 0=lefts[i]:=by simp[aP,hg]
   rw[e];exact⟨Z6 h1,Y85 h2⟩
  .cases hl
 .exact h.2 j l c hl hc
theorem W104{comps:List Nat}{s:List Int × List Nat}(h:U81 N comps s.2):U81 N comps (Q73 es nb N width comps s).2/\(Q73 es nb N width comps s).1.length<=s.1.length+1:=by
 unfold Q73
 split
 .exact⟨h.set _ _,by simp⟩
 .exact⟨h,by omega⟩
structure FS (H0:Y0) (b0 p rc rl N:Nat) (A:Option Addr) (cap:Nat) (es nb:List Nat) (L:Nat->Rat) (c5:List Value) (width:Rat) (v:Value) (perm:List Int) (lefts:List Nat) (H:Y0) (m:Nat):Prop where
 sv:SV (D6 H [b0,R5 b0 v]) m p rc rl N A cap es nb L
 kp:Kp H0 b0 rc rl H m
 g7:J0 H (b0+1)=some (.cells [.slice (some ⟨b0,0,none⟩) lefts.length lefts.length] 0)
 ga:J0 H b0=some (.cells (K12 lefts) 0)
 acc:Acc (b0+2) H m 1 v perm.length (U4 perm)
 wd:RR (D6 H [b0,R5 b0 v]) m (.agg ⟨c5⟩) width
 le:b0+2<=m
theorem FS.step{b0:Nat}{H':Y0}{m':Nat}
  (h:FS H0 b0 p rc rl N A cap es nb L c5 width v perm lefts H m)(e:Kp H m rc rl H' m')(s:SV (D6 H' [b0,R5 b0 v]) m' p rc rl N A cap es nb L):FS H0 b0 p rc rl N A cap es nb L c5 width v perm lefts H' m':=by
 have J:=h.le;have E:=e.le;have hc:=h.sv.ic.sub N68;have hl:=h.sv.il.sub N68;refine⟨s,h.kp.trans ⟨e.le,fun x h1 h2 h3=>e.get x h1 h2 h3⟩,e.cell hc hl (by omega) h.g7,e.cell hc hl (by omega) h.ga,?_,h.wd.kp (e.er _) h.sv.ic h.sv.il,by omega⟩;obtain⟨h1,h2 | ⟨b,h2,h3,h4,h5⟩⟩:=h.acc
 .exact⟨h1,.inl h2⟩
 .exact⟨h1,.inr ⟨b,h2,by omega,h4,e.cell hc hl h3 h5⟩⟩
theorem FS.ext{H0:Y0}{b0 p rc rl N:Nat}{A:Option Addr}{cap:Nat}{es nb:List Nat}{L:Nat->Rat}{c5:List Value}{width:Rat}{v:Value}{perm:List Int}{lefts:List Nat}{H:Y0}{m:Nat}{H':Y0}{m':Nat}
  (h:FS H0 b0 p rc rl N A cap es nb L c5 width v perm lefts H m)(e:D0 H m H' m'):FS H0 b0 p rc rl N A cap es nb L c5 width v perm lefts H' m':=h.step e.kp (h.sv.ext (e.er _))
theorem FS.qs{b0:Nat}
  (h:FS H0 b0 p rc rl N A cap es nb L c5 width v perm lefts H m):∀ q ∈ [b0,R5 b0 v],q<m:=by
 have E:=h.le;intro q hq;rcases aU.1 hq with rfl | hq
 .omega
 .rw[dJ] at hq
  subst hq;exact W75 h.acc (by omega)
theorem R103{nx p rc rl N cap:Nat}{es nb:List Nat}{L:Nat->Rat}(h:SV H nx p rc rl N A cap es nb L)(hN:N<=6)(c8:∀ e ∈ es,e<2^N)(cn:es.length<=8)
  (cg:∀(u x:Nat),nb[u]? = some x->x<2^N)(bu:∀ w,w<N->∃ e ∈ es,e.testBit w=true){comps:List Nat}{CA:Option Addr}
  (gc:Sl H nx CA (K12 comps))(hw:RR H nx (.agg ⟨c5⟩) width)(cp:U15 width 100000)(d3:comps.length<=32)(U:∀ c ∈ comps,c<2^N)
  (hL:∀ c ∈ comps,∀ l,l≠0->(∀ w,l.testBit w=true->c.testBit w=true)->L l=M45 N (Y25 es nb N c) l):
  Q2 Tryz.prog 49 [.pointer (some ⟨p,0,none⟩),.slice CA comps.length comps.length,.agg ⟨c5⟩] H nx
   fun r H' nx'=>(∃ B,r = .slice B (W85 es nb N width comps).length (W85 es nb N width comps).length/\Sl H' nx' B (U4 (W85 es nb N width comps)))/\Kp H nx rc rl H' nx':=by
 have bo:2^N<=64:=aK (n:=2) (by omega) hN;have db:=h.pn;have d0:=h.rcn;have cx:=h.rln;have az:V7 c5:=hw.tri;refine spec49 ?_;unfold F49;simp only[W1];rw[W44,Q37,N35,Q37,Y31,az.one,if_pos rfl,Q37];simp only[Q0.val];generalize hK:hs (hs (hs H nx (some (.cells [.pointer (some ⟨p,0,none⟩)] 0))) (nx+1) (some (.cells [.slice CA comps.length comps.length] 0))) (nx+1+1) (some (.cells c5 0))=K;have k3:J0 K nx=some (.cells [.pointer (some ⟨p,0,none⟩)] 0):=by rw[<- hK,Z1 _ (by omega),Z1 _ (by omega),Z11]
 have k4:J0 K (nx+1)=some (.cells [.slice CA comps.length comps.length] 0):=by rw[<- hK,Z1 _ (by omega),Z11]
 have k5:J0 K (nx+1+1)=some (.cells c5 0):=by rw[<- hK,Z11]
 have a6:D0 H nx K (nx+1+1+1):=by
  rw[<- hK];exact(((D0.refl _ _).new _ (aD _) (m:=nx+1) (by omega)).new _ (by omega) (m:=nx+1+1) (by omega)).new _ (by omega) (by omega)
 have ax:comps.length<=1000000:=by omega
 have E6:=h.ext a6;have b4:=hw.ext a6;have hgK:=gc.ext a6;clear hK;obtain⟨b0,b5⟩:∃ b0,b0=nx+1+1+1:=⟨_,rfl⟩
 rw[<- b5] at a6 E6 b4 hgK ⊢;have l3:nx<b0:=by omega
 have l4:nx+1<b0:=by omega
 have l5:nx+1+1<b0:=by omega
 have p3:nx≠p:=by omega
 obtain⟨t5,av⟩:∃ t5,t5=nx+1+1:=⟨_,rfl⟩
 obtain⟨t4,bx⟩:∃ t4,t4=nx+1:=⟨_,rfl⟩
 rw[<- av] at k5 l5 ⊢;rw[<- bx] at k4 l4 ⊢;have cu:nx<=b0:=by omega
 clear b5 av bx;simp(disch:=first|omega|assumption)only[W0,Q0.val,k4,M27 ax,C23,M102];generalize ak:hs (hs (hs K b0 (some (.cells (K12 (aF comps.length 0)) 0))) (b0+1) (some (.cells [.slice none 0 0] 0))) (b0+1) (some (.cells [.slice (some ⟨b0,0,none⟩) comps.length comps.length] 0))=K1;have q7:J0 K1 (b0+1)=some (.cells [.slice (some ⟨b0,0,none⟩) comps.length comps.length] 0):=by rw[<- ak,Z11]
 have qa:J0 K1 b0=some (.cells (K12 (aF comps.length 0)) 0):=by rw[<- ak,Z1 _ (by omega),Z1 _ (by omega),Z11]
 have bt:D0 K b0 K1 (b0+1+1):=by
  rw[<- ak];exact(((D0.refl _ _).new _ (aD _) (m:=b0+1) (by omega)).new _ (by omega) (m:=b0+1+1) (by omega)).hs (by omega)
 have q4:=(bt.get t4 l4).trans k4;refine B1 (m:=comps.length) (fun f L H' nx'=>∃ i,f+i=comps.length/\L=[.int .i64 (M71 (comps.take i):Int),.int .i64 (i:Int)]/\J0 H' b0=some (.cells (K12 (comps.take i++aF (comps.length-i) 0)) 0) /\
  J0 H' (b0+1)=some (.cells [.slice (some ⟨b0,0,none⟩) comps.length comps.length] 0)/\D0 K b0 H' nx'/\b0+2<=nx') ?_ ⟨0,by omega,rfl,qa,q7,bt,by omega⟩
 rintro f da L H7 m7 ⟨i,hf,rfl,ai,aj,a3,cz⟩ a1;have au:=W110 (comps.take i);rw[cK] at au
 by_cases hi:i<comps.length
 .have Q:(i:Int)<(comps.length:Int):=by omega
  obtain⟨c,hc⟩:∃ c,comps[i]? = some c:=⟨_,aE hi⟩
  obtain⟨B,o,row,rfl,d6,ap,bh⟩:=(hgK.ext a3).open (i:=i) (by rw[E1];omega);have q0:=bh _ _ (Q3 hc);have d7:=U c (aH hc);have c3:i<(comps.take i++aF (comps.length-i) 0).length:=by simp;omega
  have b8:=take_set hc;simp(disch:=first|omega|assumption)only[W0,Q,X3 ap,q0,aj,ai,V10 c3];refine⟨by rw[E1];omega,?_⟩;rw[b8];refine R0 (R44 (x:=c) (by omega) _ _) ?_;rintro _ H9 m9 ⟨rfl,a8⟩;have a4:E9 c<=6:=Q15 _ _;have d1:=a8.le;simp(disch:=first|omega|assumption)only[W0];refine a1 (f-1) _ _ _ (by omega) ⟨i+1,by omega,by rw[B103 hc];simp,(a8.get b0 (by omega)).trans (Z11 _ _ _),(a8.get (b0+1) (by omega)).trans ((Z1 _ (by omega)).trans aj),(a3.hs (by omega)).trans a8,by omega⟩
 obtain rfl:i=comps.length:=by omega
 have Q:¬ (comps.length:Int)<(comps.length:Int):=by omega
 rw[gJ (aD _)] at *
 rw[Nat.sub_self,List.replicate_zero,List.append_nil] at ai;clear a1;have cj:M71 comps<=6*32:=by omega
 have a0:=E6.ic;have a2:=E6.il;have c6:FS K b0 p rc rl N A cap es nb L c5 width (.slice none 0 0) [] comps H7 m7:=
  ⟨E6.ext (K100 a3 fun q hq=>by simp[R5] at hq;omega),a3.kp,aj,ai,Acc.nil _ _ _ _,b4.ext (K100 a3 fun q hq=>by simp[R5] at hq;omega),by omega⟩
 have ah:∀ n,U81 N comps (C54 es nb N width comps n).2/\(C54 es nb N width comps n).1.length<=n:=by
  intro n
  induction n with
  | zero=>exact⟨⟨rfl,fun i l c hl hc=>by
    rw[show(C54 es nb N width comps 0).2=comps from rfl] at hl;rw[hl] at hc;cases hc;exact⟨U _ (aH hl),fun w hw=>hw⟩⟩,by simp[C54]⟩
  | succ n ih=>
   have:=W104 (es:=es) (nb:=nb) (width:=width) ih.1;exact⟨this.1,by have h1:=this.2;have h2:=ih.2;show(Q73 es nb N width comps (C54 es nb N width comps n)).1.length<=_;omega⟩
 simp(disch:=first|omega|assumption)only[W0,Q];refine B1 (m:=M71 comps) (fun f L' H' m'=>∃ r v,f+r=M71 comps/\L'=[v,.int .i64 (r:Int)]/\FS K b0 p rc rl N A cap es nb L c5 width v (C54 es nb N width comps r).1 (C54 es nb N width comps r).2 H' m') ?_ ⟨0,_,by omega,rfl,c6⟩;rintro f c7 L2 H2 m2 ⟨r,v,hf,rfl,hS⟩ a1
 by_cases hr:r<M71 comps
 case neg=>
  obtain rfl:r=M71 comps:=by omega
  have ae:¬ (M71 comps:Int)<(M71 comps:Int):=by omega
  obtain⟨B,rfl,hB⟩:=hS.acc.sl;simp(disch:=first|omega|assumption)only[W0,ae];have bg:=hS.kp;exact⟨⟨B,rfl,hB⟩,⟨by have:=bg.le;omega,fun x h1 h2 h3=>(bg.get x (by omega) h2 h3).trans (a6.get x (by omega))⟩⟩
 have ae:(r:Int)<(M71 comps:Int):=by omega
 obtain⟨a7,ce⟩:=ah r;have ag:C54 es nb N width comps (r+1)=Q73 es nb N width comps (C54 es nb N width comps r):=rfl;generalize C54 es nb N width comps r=s at *
 obtain⟨perm,lefts⟩:=s;dsimp only at a7 ce hS;have cq:lefts.length<=32:=by have:=a7.1;omega
 simp(disch:=first|omega|assumption)only[W0,ae];refine N5 (fun L' H' m'=>∃ v',L'=[v']/\FS K b0 p rc rl N A cap es nb L c5 width v' (C54 es nb N width comps (r+1)).1 (C54 es nb N width comps (r+1)).2 H' m') (fun j hj => ?_) ?_
 case refine_2=>
  rintro _ H3 m3 ⟨v',rfl,a5⟩;simp(disch:=first|omega|assumption)only[W0];exact a1 (f-1) _ _ _ (by omega) ⟨r+1,v',by omega,by simp,a5⟩
 clear a1 c7;have q3:=hS.kp.cell a0 a2 l3 k3;have qp:=N68 _ _ hS.sv.hp;simp(disch:=first|omega|assumption)only[W0,q3,qp,C89];have E:Q73 es nb N width comps (perm,lefts)=match E80 es nb N width comps lefts N 0 with
  | some (v,i)=>(perm++[(v:Int)],lefts.set i (Z2 (lefts.getD i 0) (2^v)))
  | none=>(perm,lefts):=rfl
 rw[<- ag] at E;refine B1 (m:=N) (fun f L' H' m'=>∃ w,f+w=N/\L'=[v,.int .i64 (w:Int)]/\FS K b0 p rc rl N A cap es nb L c5 width v perm lefts H' m'/\E80 es nb N width comps lefts N 0=E80 es nb N width comps lefts f w) ?_ ⟨0,by omega,rfl,hS,rfl⟩;rintro f3 d4 L3 H3 m3 ⟨w,d5,rfl,a5,W⟩ bf
 by_cases ba:w<N
 case neg=>
  have ao:¬ (w:Int)<(N:Int):=by omega
  obtain rfl:f3=0:=by omega
  rw[W] at E;simp(disch:=first|omega|assumption)only[W0,ao];refine hj _ _ _ ⟨v,rfl,?_⟩;rw[E];exact a5
 have ao:(w:Int)<(N:Int):=by omega
 obtain⟨al,rfl⟩:∃ f',f3=f'+1:=⟨f3-1,by omega⟩
 have ab:E80 es nb N width comps lefts (al+1) w=match D75 es nb N width comps lefts w lefts.length 0 with
  | some i=>some (w,i)
  | none=>E80 es nb N width comps lefts al (w+1):=rfl
 rw[ab] at W;clear ab;simp(disch:=first|omega|assumption)only[W0,ao,a5.g7];refine B1 (m:=lefts.length) (fun f L' H' m'=>∃ i,f+i=lefts.length/\L'=[v,.int .i64 (i:Int)]/\FS K b0 p rc rl N A cap es nb L c5 width v perm lefts H' m'/\D75 es nb N width comps lefts w lefts.length 0=D75 es nb N width comps lefts w f i) ?_ ⟨0,by omega,rfl,a5,rfl⟩;rintro f4 d8 L4 H4 m4 ⟨i,d9,rfl,J,Z⟩ aq
 by_cases bc:i<lefts.length
 case neg=>
  have Q:¬ (i:Int)<(lefts.length:Int):=by omega
  obtain rfl:f4=0:=by omega
  rw[Z] at W;simp(disch:=first|omega|assumption)only[W0,Q];exact bf al _ _ _ (by omega) ⟨w+1,by omega,by simp,J,W⟩
 have Q:(i:Int)<(lefts.length:Int):=by omega
 obtain⟨ad,rfl⟩:∃ f',f4=f'+1:=⟨f4-1,by omega⟩
 obtain⟨l,hl⟩:∃ l,lefts[i]? = some l:=⟨_,aE bc⟩
 obtain⟨c,hc⟩:∃ c,comps[i]? = some c:=⟨_,aE (by have:=a7.1;omega)⟩
 obtain⟨cc,c4⟩:=a7.2 i l c hl hc;have bv:=aH hc;have b3:lefts.getD i 0=l:=by simp[aP,hl]
 have ck:comps.getD i 0=c:=by simp[aP,hc]
 have aa:D75 es nb N width comps lefts w (ad+1) i=if M72 es nb N width c l w=true then some i else D75 es nb N width comps lefts w ad (i+1):=by
  show(if M72 es nb N width (comps.getD i 0) (lefts.getD i 0) w=true then _ else _)=_;rw[b3,ck]
 rw[aa] at Z;clear aa;have cy:=J.le;have a9:=J.kp;simp(disch:=first|omega|assumption)only[W0,Q];refine V22 (B107 J.sv J.qs hN c8 cn cg bu (t3:=nx) (t4:=t4) (t5:=t5) (t7:=b0+1) (a:=b0) (lefts:=lefts) (comps:=comps) (by omega) (by omega) (by omega) (by omega) (by omega) J.g7 J.ga
  (a9.cell a0 a2 l3 k3) (a9.cell a0 a2 l4 k4) (hgK.kp a9 a0 a2) (a9.cell a0 a2 l5 k5) az J.wd cp hl hc ba (U c bv) cc c4 (hL c bv)) ?_
 rintro _ H5 m5 ⟨rfl,bz,cd⟩;have an:=J.step cd bz
 cases ac:M72 es nb N width c l w with
 | false=>
  rw[ac,if_neg (by simp)] at Z;simp(disch:=first|omega|assumption)only[W0];exact aq ad _ _ _ (by omega) ⟨i+1,by omega,by simp,an,Z⟩
 | true=>
  rw[ac,if_pos rfl] at Z;rw[Z] at W;rw[W] at E;dsimp only at E;rw[b3] at E;have c9:∀(x:Int) k,K6 1 1 [.int .i64 0] [(0,.int .i64 x)] k=k [.int .i64 x]:=fun x k=>rfl
  simp(disch:=first|omega|assumption)only[W0,c9];have ci:D0 H5 m5 (hs H5 m5 (some (.cells [.int .i64 (w:Int)] 0))) (m5+1):=(D0.refl _ _).new _ (aD _) (by omega);have O:=an.ext ci;have cf:J0 (hs H5 m5 (some (.cells [.int .i64 (w:Int)] 0))) m5=some (.cells [.int .i64 (w:Int)] 0):=Z11 _ _ _;have cv:=an.le;generalize hs H5 m5 (some (.cells [.int .i64 (w:Int)] 0))=H6 at *
  refine E72 (lo:=b0+2) (d:=m5+1) (m:=1) (l:=[.int .i64 (w:Int)]) (by omega) O.acc (J9 cf rfl (by omega)) (by omega) rfl (by omega) (by omega) ?_;intro aw bw bd;have V:∀ i,i≠m5+1->(i≠R5 b0 v\/i<b0+2)->J0 aw i=J0 H6 i:=by
   intro i h1 h2;rcases N29 O.acc (d:=b0) with ⟨e0,_,_⟩ | ⟨b,e0,e,h3,h4,_⟩
   .refine bd i h1 ?_
    rw[e0];exact h1
   .refine bd i h1 ?_
    rw[e] at h2;rw[e0];show i≠b;omega
  have bk:=(V (b0+1) (by omega) (.inr (by omega))).trans O.g7;have co:=(V b0 (by omega) (.inr (by omega))).trans O.ga;have gl:=Q3 hl;have bo:2^N<=64:=aK (n:=2) (by omega) hN;have M44:l<4294967296:=by omega
  have d2:2^w<4294967296:=by have:=R27 ba;omega
  have ct:w<32:=by omega
  have ca:Z2 l (2^w)<4294967296:=U10 M44;have a4:∀ q,q<m5+1->q ∉ [b0,R5 b0 v]->J0 (hs aw b0 (some (.cells (K12 (lefts.set i (Z2 l (2^w)))) 0))) q=J0 H6 q:=fun q hi hn=>by
   simp at hn;rw[Z1 _ hn.1];exact V q (by omega) (.inl hn.2)
  have ay:∀ q ∈ [b0,m5+1],q ∈ [b0,R5 b0 v]\/m5+1<=q:=fun q hq=>by
   rcases aU.1 hq with rfl | hq
   .exact .inl (by simp)
   .rw[dJ] at hq;subst hq;exact .inr (aD _)
  simp(disch:=first|omega|assumption)only[W0,bk,co,gl,V10 bc];refine⟨by rw[E1];omega,hj _ _ _ ⟨_,rfl,?_⟩⟩;rw[E];refine⟨(O.sv.sub (V74 a4 ay)).ext (D0.self (by omega)),⟨by have:=O.kp.le;omega,fun x h1 h2 h3 => ?_⟩,?_,Z11 _ _ _,?_,(O.wd.sub (V74 a4 ay)).ext (D0.self (by omega)),by omega⟩
  .rw[Z1 _ (by omega),V x (by omega) (.inr (by omega))]
   exact O.kp.get x h1 h2 h3
  .dsimp only
   rw[dO,Z1 _ (by omega)];exact bk
  .have e:(perm++[(w:Int)]).length=perm.length+1:=by simp
   have e2:U4 (perm++[(w:Int)])=U4 perm++[.int .i64 (w:Int)]:=by simp[U4]
   dsimp only;rw[e,e2];refine X76 (by rw[bH,X9];simp) (by omega) (by omega) ?_;rw[Z1 _ (by omega),bw]
end
end Go.Proofs.YtoiioigihocgbaaGreatDoor
