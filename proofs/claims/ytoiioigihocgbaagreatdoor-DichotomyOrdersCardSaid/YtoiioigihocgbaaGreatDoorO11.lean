/-
  Contracts: below,the Check of a graph (texts of chapter 30,by name).
  Contracts: bags,neighbors (texts of chapter 30,by name).
  Contract: cover.packing.
  Contract: cover.packing (the walk).
  Contract: cover.packing (the second loop).
  Contract: cover.packing (all of it).
  Contracts: cover.vertices,zeros;plain: each vertex of a covered set lies in a part.
-/
import Derived.Test.YtoiioigihocgbaaGreatDoorO10
import Derived.Test.YtoiioigihocgbaaGreatDoorO5
import Derived.Test.YtoiioigihocgbaaGreatDoorO6
set_option maxHeartbeats 8000000
set_option maxRecDepth 100000
set_option linter.all false
noncomputable section
open Bool renaming and_eq_true->aG,eq_false_iff->bN
open Go.IntKind renaming bits->dW,signed->eK,u32->eW,wrap->eY
open Go.Value renaming bool->dU,int->cD
open Int renaming eq_ofNat_of_zero_le->fI
open List renaming any_eq_true->dY,ext_getElem?->dH,foldl_cons->dF,getD_cons_succ->gD,getD_cons_zero->fZ,getD_eq_getElem?_getD->aP,getElem?_append_left->bQ,getElem?_append_right->bS,getElem?_eq_getElem->aE,getElem?_eq_none->aT,getElem?_eq_some_iff->aJ,getElem?_map->cP,getElem?_of_mem->cH,getElem?_set->cQ,getElem_of_mem->gL,length_append->bH,length_cons->cV,length_set->dO,mem_append->dN,mem_cons->aU,mem_cons_of_mem->eJ,mem_of_getElem?->aH,range->aY,replicate->aF,take_of_length_le->gJ
open Nat renaming blt->dE,eq_of_testBit_eq->bZ,le_refl->aD,le_trans->bK,lt_of_lt_of_le->aO,lt_or_ge->aW,mod_two_eq_zero_or_one->dZ,mul_comm->cG,mul_one->eQ,pow_le_pow_right->aK,pow_succ->dR,testBit_and->bI,testBit_lt_two_pow->dV,testBit_or->aV,testBit_two_pow->aR,testBit_two_pow_sub_one->dC,zero_add->cF,zero_testBit->cN
open Option renaming elim_some->aN
namespace Go.Proofs.YtoiioigihocgbaaGreatDoor
open Go.Clo
section
variable {N:Int} {e i n:Nat} {es:List Nat}
def Z56(v:Value)(H:Y0)(nx:Nat):EP:=fun v' H' nx'=>v'=v/\H=H'/\nx=nx'
theorem U56{n:Nat}(h:n<=32):eW.wrap (IntKind.u64.wrap (IntKind.u64.wrap (1*2^min n 64)-1))=((2^n-1:Nat):Int):=by
 have h1:=N44 h;have h2:=D46 n;have e:(1*(2:Int)^min n 64)=((2^n:Nat):Int):=by
  have:min n 64=n:=by omega
  simp[this]
 rw[e];generalize 2^n=m at *
 simp only[eY,eK,dW];simp;omega
theorem M26{n:Nat}(hn:n<=32)(k:VP):(D10 .shl (.int .u64 1) (.int .i64 (n:Int)) fun t4=>D10 .sub t4 (.int .u64 1) fun t5=>W8 .u32 t5 k)=k (.int .u32 ((2^n-1:Nat):Int)):=by
 have h0:¬ (n:Int)<0:=by omega
 rw[X6];simp only[R9,N4,C18,cond_true,h0,if_false,aN,R11,Z32];rw[<- U56 hn];rfl
theorem C90{n:Nat}(hn:n<=32)(H:Y0)(nx:Nat):Q2 Tryz.prog 41 [.int .i64 (n:Int)] H nx (Z56 (.int .u32 ((2^n-1:Nat):Int)) H nx):=by
 refine spec41 ?_;unfold F41;simp only[W1,M26 hn,Y5];exact⟨rfl,rfl,rfl⟩
theorem C51{n:Nat}(hn:n<=32)(H:Y0)(nx:Nat):Q2 Tryz.prog 61 [.int .i64 (n:Int)] H nx (Z56 (.int .u32 ((2^n-1:Nat):Int)) H nx):=by
 refine spec61 ?_;unfold F61;simp only[W1,M26 hn,Y5];exact⟨rfl,rfl,rfl⟩
abbrev gv(N:Int)(A:Option Addr)(len cap:Nat):Value := .agg ⟨[.int .i64 N,.slice A len cap]⟩
def N3(N:Int)(es:List Nat):Int:=if N<0\/32<N then 3 else if 64<es.length then 12 else if ∃ e ∈ es,2^N.toNat<=e then 1 else 0
theorem Q29(h:N<0\/32<N):N3 N es=3:=by simp[N3,h]
theorem J53(h1:0<=N)(h2:N<=32)(h:64<es.length):N3 N es=12:=by
 have:¬ (N<0\/32<N):=by omega
 simp[N3,h,this]
theorem D56(h1:n<=32)(h:es.length<=64)(he:es[i]? = some e)(hb:2^n<=e):N3 n es=1:=by
 have a1:¬ ((n:Int)<0\/32<(n:Int)):=by omega
 have a2:¬ 64<es.length:=by omega
 simp[N3,a1,a2];exact⟨e,aH he,hb⟩
theorem V11{n:Nat}{es:List Nat}(h1:n<=32)(h:es.length<=64)(hb:∀(i e:Nat),es[i]? = some e->e<2^n):N3 n es=0:=by
 have a1:¬ ((n:Int)<0\/32<(n:Int)):=by omega
 have a2:¬ 64<es.length:=by omega
 simp[N3,a1,a2];intro e he;obtain⟨i,hi,rfl⟩:=gL he;exact hb i _ (aE hi)
theorem X49(he:e<4294967296):decide (Z2 e (2^n-1)≠0)=decide (2^n<=e):=by
 congr 1;apply propext
 constructor
 .intro h
  rcases aW e (2^n) with g | g
  .exfalso;apply h
   apply bZ;intro i;rw[N1,dC]
   by_cases hi:i<n
   .simp[hi]
   .rw[dV (aO g (aK (n:=2) (by omega) (show n<=i by omega)))];simp
  .exact g
 .intro h h0
  obtain⟨i,hi,hb⟩:=Nat.exists_ge_and_testBit_of_ge_two_pow h;have:=N1 e (2^n-1) i;rw[h0,hb,dC] at this;have E:¬ i<n:=by omega
  simp[E] at this
def Q70(f:FuncId):Prop:=∀(N:Int) (A:Option Addr) (es:List Nat) (cap:Nat) (H:Y0) (nx:Nat),Sl H nx A (K12 es)->U14 es ->
 Q2 Tryz.prog f [gv N A es.length cap] H nx fun v H' nx'=>v = .int .i64 (N3 N es)/\D0 H nx H' nx'
theorem N11:Q70 27:=by
 intro N A es cap H nx hS a0;refine spec27 ?_;unfold F27;have hE:D0 H nx (hs H nx (some (.cells [.int .i64 N,.slice A es.length cap] 0))) (nx+1):=(D0.refl H nx).new _ (aD _) (by omega);simp(disch:=first|omega|assumption)only[W0,Z0,Q0.val]
 by_cases h1:N<0
 .simp(disch:=first|omega|assumption)only[W0,N13,h1]
  exact⟨by rw[Q29 (.inl h1)],hE⟩
 by_cases h2:32<N
 .simp(disch:=first|omega|assumption)only[W0,N13,h1,h2]
  exact⟨by rw[Q29 (.inr h2)],hE⟩
 obtain⟨n,rfl⟩:=fI (show 0<=N by omega);simp(disch:=first|omega|assumption)only[W0,N13,h1,h2]
 by_cases h3:64<es.length
 .have O:(64:Int)<(es.length:Int):=by omega
  simp(disch:=first|omega|assumption)only[W0,O];exact⟨by rw[J53 (by omega) (by omega) h3],hE⟩
 have O:¬ (64:Int)<(es.length:Int):=by omega
 simp(disch:=first|omega|assumption)only[W0,O];refine B1 (m:=es.length) (fun m L H' nx'=>∃ i:Nat,m+i=es.length/\L=[.int .i64 (i:Int)]/\(∀(j e:Nat),j<i->es[j]? = some e->e<2^n)/\_=H'/\nx+1=nx') ?_ ⟨0,rfl,rfl,fun j e h=>by omega,rfl,rfl⟩;rintro m ih L _ _ ⟨i,hm,rfl,W,rfl,rfl⟩ a2
 by_cases hi:i<es.length
 .obtain⟨e,he⟩:∃ e,es[i]? = some e:=⟨_,aE hi⟩
  obtain⟨b,o,row,rfl,hb,V,Z⟩:=(hS.ext hE).open (i:=i) (by rw[E1];exact hi);have Q:((i:Int)<(es.length:Int)):=by omega
  have J:=a0.get he;simp(disch:=first|omega|assumption)only[W0,Q,X3 V,Z _ _ (Q3 he)];refine R0 (C51 (by omega) _ _) ?_;rintro _ _ _ ⟨rfl,rfl,rfl⟩;rw[V17 _ J (X0 (by omega))];simp(disch:=first|omega|assumption)only[W0,X49 J]
  by_cases E:2^n<=e
  .simp(disch:=first|omega|assumption)only[W0,E]
   exact⟨by rw[D56 (by omega) (by omega) he E],hE⟩
  .simp(disch:=first|omega|assumption)only[W0,E]
   refine a2 (m-1) _ _ _ (by omega) ⟨i+1,by omega,by simp,fun j e' hj U => ?_,rfl,rfl⟩
   by_cases a1:j=i
   .subst a1;rw[he] at U;cases U;omega
   .exact W j e' (by omega) U
 .have Q:¬ ((i:Int)<(es.length:Int)):=by omega
  simp(disch:=first|omega|assumption)only[W0,Q];exact⟨by rw[V11 (by omega) (by omega) fun j e he=>W j e (by have:j<es.length:=by { rcases aW j es.length with g | g;exact g;rw[aT g] at he;cases he };omega) he],hE⟩
theorem N12{α:Type}{l:List α}{a:α}(h:l[i]? = some a):i<l.length:=by
 rcases aW i l.length with g | g
 .exact g
 .rw[aT g] at h;cases h
def Q6(N free:Int)(es:List Nat):Int:=if N3 N es≠0 then N3 N es else if free<0\/N<free then 3 else 0
theorem U86(N free:Int)(A:Option Addr)(es:List Nat)(cap:Nat)(H:Y0)(nx:Nat)(hS:Sl H nx A (K12 es))(J:U14 es):
  Q2 Tryz.prog 40 [gv N A es.length cap,.int .i64 free] H nx fun v H' nx'=>v = .int .i64 (Q6 N free es)/\D0 H nx H' nx':=by
 refine spec40 ?_;unfold F40;have hE:D0 H nx (hs H nx (some (.cells [.int .i64 N,.slice A es.length cap] 0))) (nx+1):=(D0.refl H nx).new _ (aD _) (by omega);simp(disch:=first|omega|assumption)only[W0,Z0,Q0.val,C13];refine R0 (N11 N A es cap _ _ (hS.ext hE) J) ?_;rintro _ H2 nx2 ⟨rfl,E⟩;have hg:=E.get nx (by omega);rw[Z11] at hg;simp(disch:=first|omega|assumption)only[W0,hg,N13]
 by_cases h0:N3 N es=0
 .by_cases h1:free<0
  .simp(disch:=first|omega|assumption)only[W0,h0,h1,ne_eq,not_true_eq_false]
   exact⟨by simp[Q6,h0,h1],hE.trans E⟩
  .by_cases h2:N<free
   .simp(disch:=first|omega|assumption)only[W0,h0,h1,h2,ne_eq,not_true_eq_false]
    exact⟨by simp[Q6,h0,h2],hE.trans E⟩
   .simp(disch:=first|omega|assumption)only[W0,h0,h1,h2,ne_eq,not_true_eq_false]
    exact⟨by simp[Q6,h0,h1,h2],hE.trans E⟩
 .simp(disch:=first|omega|assumption)only[W0,h0,ne_eq,not_false_eq_true]
  exact⟨by simp[Q6,h0],hE.trans E⟩
end
section
variable {es l:List Nat} {i n:Nat} {α:Type}
structure Bag where
 var:Int
 key:Nat
 par:Int
def W73(b:Bag):List Value:=[.int .i64 b.var,.int .u32 (b.key:Int),.int .i64 b.par]
abbrev J74(b:Bag):Value := .agg ⟨W73 b⟩
def R34(bs:List Bag):List Value:=bs.flatMap W73
theorem N94(bs:List Bag):(R34 bs).length=bs.length*3:=by
 induction bs with
 | nil=>rfl
 | cons b bs ih=>simp[R34,W73] at ih ⊢;omega
theorem M79:∀{bs:List Bag}{i:Nat}{b:Bag},bs[i]? = some b->∀ j v,(W73 b)[j]? = some v->(R34 bs)[i*3+j]? = some v
 | [],i,b,h,_,_,_=>by simp at h
 | b0 :: bs,0,b,h,j,v,hv=>by
  simp at h;subst h;have hj:=N12 hv;show(W73 b0++R34 bs)[0*3+j]? = some v;rw[bQ (by simpa using hj)];simpa using hv
 | b0 :: bs,i+1,b,h,j,v,hv=>by
  have:=M79 (bs:=bs) (i:=i) (by simpa using h) j v hv;show(W73 b0++R34 bs)[(i+1)*3+j]? = some v;rw[bS (by simp[W73];omega)];have e:(i+1)*3+j-(W73 b0).length=i*3+j:=by simp[W73];omega
  rw[e];exact this
def Y34(b:Bag):Nat:=if b.var<0\/32<=b.var then b.key else b.key ||| 2^b.var.toNat
theorem Y18(h:n<32):2^n<4294967296:=aO (Nat.pow_lt_pow_right (by omega) h) (by decide)
theorem M110{b:Bag}(hk:b.key<4294967296)(H:Y0)(nx:Nat):Q2 Tryz.prog 78 [J74 b] H nx fun r H' nx'=>r = .int .u32 (Y34 b:Int)/\D0 H nx H' nx':=by
 obtain⟨var,key,par⟩:=b;dsimp only at hk;refine spec78 ?_;unfold F78;have hE:∀ m,nx+1<=m->D0 H nx (hs H nx (some (.cells [.int .i64 var,.int .u32 (key:Int),.int .i64 par] 0))) m:=fun m hm=>(D0.refl H nx).new _ (aD _) (by omega)
 simp only[J74,W73]
 by_cases h1:var<0
 .simp(disch:=first|omega|assumption)only[W0,Z0,Q0.val,N13,h1]
  exact⟨by rw[Y34,if_pos (.inl h1)],hE _ (by omega)⟩
 by_cases h2:32<=var
 .simp(disch:=first|omega|assumption)only[W0,Z0,Q0.val,N13,h1,h2]
  exact⟨by rw[Y34,if_pos (.inr h2)],hE _ (by omega)⟩
 obtain⟨p,rfl⟩:=fI (show 0<=var by omega);have hp:=Y18 (show p<32 by omega);simp(disch:=first|omega|assumption)only[W0,Z0,Q0.val,N13,h1,h2];exact⟨by rw[Y34,if_neg (by dsimp only;omega)];rfl,hE _ (by omega)⟩
theorem D23{l:List α}(h:¬ i<l.length):l.take i=l:=gJ (by omega)
theorem U27{N free:Int}{es:List Nat}(h:Q6 N free es=0):∃ n f:Nat,N=n/\free=f/\n<=32/\f<=n/\es.length<=64/\∀ e ∈ es,e<2^n:=by
 unfold Q6 at h
 split at h
 .rename_i hg;exact absurd h hg
 .rename_i hg
  split at h
  .cases h
  .rename_i hf
   have hg:N3 N es=0:=Decidable.of_not_not hg;unfold N3 at hg
   split at hg
   .cases hg
   .rename_i h1
    split at hg
    .cases hg
    .rename_i h2
     split at hg
     .cases hg
     .rename_i h3
      obtain⟨n,rfl⟩:=fI (show 0<=N by omega);obtain⟨f,rfl⟩:=fI (show 0<=free by omega);refine⟨n,f,rfl,rfl,by omega,by omega,by omega,fun e he => ?_⟩;rcases aW e (2^n) with g | g
      .exact g
      .exact absurd ⟨e,he,by simpa using g⟩ h3
def V72(l:List Int)(f n:Nat):Prop:=l.length+f=n/\(∀ x ∈ l,(f:Int)<=x/\x<(n:Int))/\l.Nodup
theorem C7{l:List α}{x:α}(h:l[i]? = some x):l.take (i+1)=l.take i++[x]:=by
 rw[List.take_add_one,h];rfl
theorem V89{l:List α}{x:α}(h:l.Nodup)(hx:x ∉ l):(l++[x]).Nodup:=by
 rw[List.nodup_append];exact⟨h,by simp,fun a ha b hb=>by simp at hb;subst hb;intro e;subst e;exact hx ha⟩
def adj(es:List Nat)(a b:Nat):Bool:=decide (a≠b)&&es.any fun e=>e.testBit a&&e.testBit b
theorem E43(es:List Nat)(a:Nat):adj es a a=false:=by simp[adj]
theorem Z43(es:List Nat)(a b:Nat):adj es a b=adj es b a:=by
 unfold adj;congr 1
 .simp[eq_comm]
 .congr 1;funext e;rw[Bool.and_comm]
def Q1(p:Nat->Bool):Nat->Nat
 | 0=>0
 | n+1=>if p n then Q1 p n+2^n else Q1 p n
theorem G11(p:Nat->Bool):∀ n,Q1 p n<2^n
 | 0=>by simp[Q1]
 | n+1=>by
  have:=G11 p n;have h2:2^(n+1)=2^n+2^n:=by rw[dR];omega
  unfold Q1
  split<;>omega
theorem E26(p:Nat->Bool):∀ n i,(Q1 p n).testBit i=(decide (i<n)&&p i)
 | 0,i=>by simp[Q1]
 | n+1,i=>by
  have E:=G11 p n;have ih:=E26 p n i;unfold Q1
  by_cases hp:p n=true
  .rw[if_pos hp,Nat.add_comm]
   by_cases hi:i=n
   .subst hi
    rw[Nat.testBit_two_pow_add_eq,dV E];simp[hp]
   .rcases Nat.lt_or_gt_of_ne hi with h | h
    .rw[Nat.testBit_two_pow_add_gt h,ih];simp[h,Nat.lt_succ_of_lt h]
    .have h3:2^n+Q1 p n<2^i:=by
      have:2^(n+1)<=2^i:=aK (by omega) (by omega);have h2:2^(n+1)=2^n+2^n:=by rw[dR];omega
      omega
     rw[dV h3];have:¬ i<n+1:=by omega
     simp[this]
  .rw[if_neg hp,ih]
   by_cases hi:i=n
   .subst hi;simp[hp]
   .have:decide (i<n+1)=decide (i<n):=by congr 1;apply propext;omega
    rw[this]
def R6(f:Nat):Nat->List Int
 | 0=>[]
 | i+1=>R6 f i++[((f:Int)-1-i)]
theorem Y17(f:Nat):∀ i,(R6 f i).length=i
 | 0=>rfl
 | i+1=>by simp[R6,Y17 f i]
theorem Q96(a b:List Int):U4 (a++b)=U4 a++U4 b:=by simp[U4]
theorem Q27:[cD .u32 0,.int .u32 0,.int .u32 0,.int .u32 0,.int .u32 0,.int .u32 0,.int .u32 0,.int .u32 0,.int .u32 0,.int .u32 0,.int .u32 0,.int .u32 0,.int .u32 0,.int .u32 0,.int .u32 0,.int .u32 0,.int .u32 0,.int .u32 0,.int .u32 0,.int .u32 0,.int .u32 0,.int .u32 0,.int .u32 0,.int .u32 0,.int .u32 0,.int .u32 0,.int .u32 0,.int .u32 0,.int .u32 0,.int .u32 0,.int .u32 0,.int .u32 0]=K12 (aF 32 0):=rfl
theorem Z34(h:l.length=32)(k:VP):B10 (K12 l) 0 (some 32) k=k (.agg ⟨K12 l⟩):=by
 rw[X21];have:(K12 l).length=32:=by rw[E1];exact h
 simp[<- this]
theorem W5:∀ l:List Nat,Z0 (K12 l)=true
 | []=>rfl
 | x :: l=>W5 l
def J37(v m e:Nat):Nat:=if e.testBit v then m ||| Z2 e (2^v) else m
def E10(es:List Nat)(v:Nat):Nat:=es.foldl (J37 v) 0
theorem G38{e v:Nat}(h:es[i]? = some e):E10 (es.take (i+1)) v=J37 v (E10 (es.take i) v) e:=by
 unfold E10;rw[C7 h,List.foldl_append];rfl
theorem Q46(v w:Nat):∀(es:List Nat) (m:Nat),(es.foldl (J37 v) m).testBit w=(m.testBit w || es.any fun e=>e.testBit v&&(e.testBit w&&decide (w≠v)))
 | [],m=>by simp
 | e :: es,m=>by
  rw[dF,Q46 v w es,List.any_cons,<- Bool.or_assoc];congr 1;unfold J37
  split
  .rename_i h
   rw[aV,N1,aR,h];have:decide (v=w)=decide (w=v):=by congr 1;apply propext;exact eq_comm
   rw[this];simp
  .rename_i h
   simp at h;simp[h]
theorem E44 (es:List Nat) (v w:Nat):(E10 es v).testBit w=adj es v w:=by
 unfold E10
 rw[Q46,Nat.zero_testBit,Bool.false_or]
 unfold adj
 by_cases h:v=w
 .subst h;simp
 .have h':w≠v:=fun e=>h e.symm
  simp[h,h']
theorem E36{es:List Nat}{n:Nat}(h:∀ e ∈ es,e<2^n)(v:Nat):E10 es v=Q1 (adj es v) n:=by
 apply bZ;intro w;rw[E44,E26]
 by_cases hw:w<n
 .simp[hw]
 .simp only[hw,decide_false,Bool.false_and]
  unfold adj;rw[bN];intro hc;simp only[aG,dY] at hc;obtain⟨_,e,he,_,hb⟩:=hc;rw[dV (aO (h e he) (aK (by omega) (by omega)))] at hb
  cases hb
theorem U68{es:List Nat}(h:U14 es)(v:Nat):E10 es v<4294967296:=by
 rw[E36 (n:=32) (fun e he=>h e he) v];exact G11 _ 32
theorem X33{es:List Nat}(h:U14 es)(i:Nat):U14 (es.take i):=fun e he=>h e (List.mem_of_mem_take he)
def B2(es:List Nat)(n:Nat):List Nat:=(aY 32).map fun v=>if v<n then Q1 (adj es v) n else 0
theorem V39(es:List Nat){n v:Nat}(hn:n<=32)(hv:v<n):(B2 es n)[v]? = some (Q1 (adj es v) n):=by
 have:v<32:=by omega
 simp[B2,hv,this]
theorem G32{l':List Nat}(h:l.length=32)(h':l'.length=32)(hg:∀ v,v<32->l[v]? = l'[v]?):l=l':=by
 apply dH;intro v
 by_cases hv:v<32
 .exact hg v hv
 .rw[aT (by omega),aT (by omega)]
theorem N9(es:List Nat)(n:Nat):(B2 es n).length=32:=by simp[B2]
theorem Q65 {n:Nat} (hn:n<=32) (A:Option Addr) (es:List Nat) (cap:Nat) (H:Y0) (nx:Nat) (hS:Sl H nx A (K12 es)) (hsm:∀ e ∈ es,e<2^n) (hle:es.length<=64):
  Q2 Tryz.prog 29 [gv n A es.length cap] H nx fun r H' nx'=>r = .agg ⟨K12 (B2 es n)⟩/\D0 H nx H' nx':=by
 have hsm32:U14 es:=fun e he=>Nat.lt_of_lt_of_le (hsm e he) (Nat.le_trans (Nat.pow_le_pow_right (by omega) hn) (by decide))
 refine spec29 ?_
 unfold F29
 simp (disch:=first|omega|assumption|exact G0 (by assumption)|exact U10 (by assumption)|exact X0 (by omega)|fail) only[W0,Z0,Q0.val,Q27]
 generalize hK:hs (hs (hs H nx (some (.cells [.int .i64 n,.slice A es.length cap] 0))) (nx+1) (some (.cells (K12 (List.replicate 32 0)) 0))) (nx+1+1) (some (.cells (K12 (List.replicate 32 0)) 0))=K
 have kG:J0 K nx=some (.cells [.int .i64 n,.slice A es.length cap] 0):=by rw[<- hK,Z1 _ (by omega),Z1 _ (by omega),Z11]
 have kR:J0 K (nx+1)=some (.cells (K12 (List.replicate 32 0)) 0):=by rw[<- hK,Z1 _ (by omega),Z11]
 have kA:J0 K (nx+1+1)=some (.cells (K12 (List.replicate 32 0)) 0):=by rw[<- hK,Z11]
 have hEK:D0 H nx K (nx+3):=by
  rw[<- hK];exact ((((D0.refl H nx).new _ (by omega) (by omega):D0 H nx _ (nx+1)).new _ (by omega) (by omega):D0 H nx _ (nx+1+1)).new _ (by omega) (by omega))
 refine B1 (m:=es.length) (fun m L H' nx'=>∃ (i:Nat) (l:List Nat),m+i=es.length/\L=[.int .i64 (i:Int)]/\l.length=32/\(∀ v,v<32->l[v]? = some (if v<n then E10 (es.take i) v else 0)) /\
  J0 H' (nx+1+1)=some (.cells (K12 l) 0)/\D0 K (nx+2) H' nx'/\nx+3<=nx') ?_ ⟨0,List.replicate 32 0,rfl,rfl,by simp,fun v hv=>by rw[List.getElem?_replicate,if_pos hv];simp[E10],kA,D0.self (by omega),Nat.le_refl _⟩
 rintro m ih L H2 nx2 ⟨i,l,hm,rfl,hl,hval,hg,hE2,hnx2⟩ hih
 have g2:=(hE2.get nx (by omega)).trans kG
 have r2:=(hE2.get (nx+1) (by omega)).trans kR
 have hEE2:D0 H nx H2 nx2:=⟨by omega,fun q hq=>(hE2.get q (by omega)).trans (hEK.get q hq)⟩
 simp (disch:=first|omega|assumption|exact G0 (by assumption)|exact U10 (by assumption)|exact X0 (by omega)|fail) only[W0]
 by_cases hi:i<es.length
 case neg=>
  have hi':¬ (i:Int)<(es.length:Int):=by omega
  have hll:l=B2 es n:=by
   refine G32 hl (N9 es n) fun v hv => ?_
   rw[hval v hv,D23 hi]
   simp only[B2,List.getElem?_map,List.getElem?_range hv,Option.map_some]
   split
   .rw[E36 hsm]
   .rfl
  subst hll
  have e1:(K12 (B2 es n)).length=32:=by rw[E1];exact hl
  have e2:(K12 (List.replicate 32 0)).length=32:=by rw[E1];simp
  have e3:=G24 (c:=K12 (List.replicate 32 0)) (vs:=K12 (B2 es n)) (by rw[e1,e2])
  have e4:=W5 (B2 es n)
  simp (disch:=first|omega|assumption|exact G0 (by assumption)|exact U10 (by assumption)|exact X0 (by omega)|fail) only[W0,hi',hg,Z34 hl,e1,e2,e4,r2,e3]
  exact hEE2.hs (by omega)
 have hi':(i:Int)<(es.length:Int):=by omega
 obtain⟨e,he⟩:∃ e,es[i]? = some e:=⟨_,List.getElem?_eq_getElem hi⟩
 obtain⟨A,oA,V63,rfl,hAn,hrowA,hgetA⟩:=(hS.ext hEE2).open (i:=i) (by rw[E1];omega)
 have he32:=hsm32.get he
 have g0:=hgetA _ _ (Q3 he)
 simp (disch:=first|omega|assumption|exact G0 (by assumption)|exact U10 (by assumption)|exact X0 (by omega)|fail) only[W0,hi',X3 hrowA,g0,g2]
 refine B1 (m:=n) (fun m L H' nx'=>∃ (j:Nat) (l:List Nat),m+j=n/\L=[.int .i64 (j:Int)]/\l.length=32/\(∀ v,v<32->l[v]? = some (if v<n then (if v<j then E10 (es.take (i+1)) v else E10 (es.take i) v) else 0)) /\
  J0 H' (nx+1+1)=some (.cells (K12 l) 0)/\D0 K (nx+2) H' nx'/\nx+3<=nx') ?_ ⟨0,l,rfl,rfl,hl,fun v hv=>by rw[hval v hv];simp,hg,hE2,hnx2⟩
 rintro m3 ih3 L3 H3 nx3 ⟨j,l3,hm3,rfl,hl3,hval3,hg3,hE3,hnx3⟩ hih3
 simp (disch:=first|omega|assumption|exact G0 (by assumption)|exact U10 (by assumption)|exact X0 (by omega)|fail) only[W0]
 by_cases hj:j<n
 case neg=>
  have hj':¬ (j:Int)<(n:Int):=by omega
  simp (disch:=first|omega|assumption|exact G0 (by assumption)|exact U10 (by assumption)|exact X0 (by omega)|fail) only[W0,hj']
  refine hih (m-1) _ _ _ (by omega) ⟨i+1,l3,by omega,by simp,hl3,fun v hv => ?_,hg3,hE3,hnx3⟩
  rw[hval3 v hv]
  by_cases hvn:v<n
  .rw[if_pos hvn,if_pos hvn,if_pos (by omega)]
  .rw[if_neg hvn,if_neg hvn]
 have hj':(j:Int)<(n:Int):=by omega
 have hcur:l3[j]? = some (E10 (es.take i) j):=by rw[hval3 j (by omega),if_pos hj,if_neg (by omega)]
 have hacc:=U68 (X33 hsm32 i) j
 have hp:2^j<4294967296:=Y18 (by omega)
 have step:∀ x,x=E10 (es.take (i+1)) j->∀ v,v<32->(l3.set j x)[v]? = some (if v<n then (if v<j+1 then E10 (es.take (i+1)) v else E10 (es.take i) v) else 0):=by
  intro x hx v hv
  rw[List.getElem?_set]
  by_cases hvj:j=v
  .subst hvj;rw[if_pos rfl,if_pos (by omega),if_pos hj,if_pos (by omega),hx]
  .rw[if_neg hvj,hval3 v hv]
   by_cases hvn:v<n
   .rw[if_pos hvn,if_pos hvn]
    by_cases hlt:v<j
    .rw[if_pos hlt,if_pos (by omega)]
    .rw[if_neg hlt,if_neg (by omega)]
   .rw[if_neg hvn,if_neg hvn]
 cases hb:e.testBit j with
 | false=>
  have hsame:l3.set j (E10 (es.take i) j)=l3:=by
   apply List.ext_getElem?
   intro v
   rw[List.getElem?_set]
   split
   .rename_i h;subst h;rw[if_pos (by omega),hcur]
   .rfl
  have hx:=step (E10 (es.take i) j) (by rw[G38 he,J37,if_neg (by simp[hb])])
  rw[hsame] at hx
  simp (disch:=first|omega|assumption|exact G0 (by assumption)|exact U10 (by assumption)|exact X0 (by omega)|fail) only[W0,hj',N13]
  exact hih3 (m3-1) _ _ _ (by omega) ⟨j+1,l3,by omega,by simp,hl3,hx,hg3,hE3,hnx3⟩
 | true=>
  have hnd:Z2 e (2^j)<4294967296:=U10 he32
  have hjl:j<l3.length:=by omega
  have hx:=step (E10 (es.take i) j ||| Z2 e (2^j)) (by rw[G38 he,J37,if_pos hb])
  have gc:=Q3 hcur
  have hlen3:(K12 l3).length=32:=by rw[E1];exact hl3
  simp (disch:=first|omega|assumption|exact G0 (by assumption)|exact U10 (by assumption)|exact X0 (by omega)|fail) only[W0,Nat.reduceLeDiff,hj',N13,hg3,gc,V10 hjl,hlen3]
  refine⟨by omega,hih3 (m3-1) _ _ _ (by omega) ⟨j+1,l3.set j (E10 (es.take i) j ||| Z2 e (2^j)),by omega,by simp,by rw[List.length_set];exact hl3,hx,by rw[Z11],(hE3.hs (by omega)).more (by omega),by omega⟩⟩
theorem R56{c:List Value}{i:Nat}{x:Value}(h:c[i]? = some x)(hi:i<n)(k:VP):D65 (.agg ⟨c⟩) (.int .i64 (i:Int)) n 1 false k=k x:=by
 show cond (dE i n) (E21 c (i*1) none False k) False=k x;have:dE i n=true:=by simp[Nat.blt_eq];omega
 rw[this,eQ];show C30 c i False k=k x;rw[Z12,h];rfl
theorem U61{n v:Nat}(hn:n<=32)(hv:v<n)(A:Option Addr)(es:List Nat)(cap:Nat)(H:Y0)(nx:Nat)(hS:Sl H nx A (K12 es))(Q:∀ e ∈ es,e<2^n)(W:es.length<=64)(hg:N3 n es=0):
  Q2 Tryz.prog 70 [gv n A es.length cap,.int .i64 (v:Int)] H nx fun r H' nx'=>r = .int .u32 ((Q1 (adj es v) n:Nat):Int)/\D0 H nx H' nx':=by
 have O:U14 es:=fun e he=>aO (Q e he) (bK (aK (by omega) hn) (by decide))
 refine spec70 ?_;unfold F70;have J:D0 H nx (hs H nx (some (.cells [.int .i64 n,.slice A es.length cap] 0))) (nx+1):=(D0.refl H nx).new _ (aD _) (by omega);simp(disch:=first|omega|assumption)only[W0,Z0,Q0.val,C13,N13];refine R0 (N11 n A es cap _ _ (hS.ext J) O) ?_;rintro _ H2 nx2 ⟨rfl,E⟩;have U:=E.get nx (by omega);rw[Z11] at U;have d1:decide (N3 n es≠0)=false:=by simp[hg]
 have h1:¬ (v:Int)<0:=by omega
 have h2:¬ (v:Int) ≥ (n:Int):=by omega
 simp(disch:=first|omega|assumption)only[W0,d1,h1,h2,U,C13];refine R0 (Q65 hn A es cap _ _ (hS.ext (J.trans E)) Q W) ?_;rintro _ H3 Z ⟨rfl,V⟩;rw[R56 (Q3 (V39 es hn hv)) (by omega)];simp(disch:=first|omega|assumption)only[W0];exact(J.trans E).trans V
theorem W106{n:Nat}(hn:n<=32)(A:Option Addr)(es:List Nat)(cap:Nat)(H:Y0)(nx:Nat)(hS:Sl H nx A (K12 es))(a0:∀ e ∈ es,e<2^n)(a1:es.length<=64)(a6:N3 n es=0):
  Q2 Tryz.prog 45 [gv n A es.length cap] H nx fun r H' nx'=>r = .agg ⟨K12 (B2 es n)⟩/\D0 H nx H' nx':=by
 refine spec45 ?_;unfold F45;simp(disch:=first|omega|assumption)only[W0,Z0,Q0.val,Q27];generalize hK:hs (hs (hs H nx (some (.cells [.int .i64 n,.slice A es.length cap] 0))) (nx+1) (some (.cells (K12 (aF 32 0)) 0))) (nx+1+1) (some (.cells (K12 (aF 32 0)) 0))=K;have kG:J0 K nx=some (.cells [.int .i64 n,.slice A es.length cap] 0):=by rw[<- hK,Z1 _ (by omega),Z1 _ (by omega),Z11]
 have kR:J0 K (nx+1)=some (.cells (K12 (aF 32 0)) 0):=by rw[<- hK,Z1 _ (by omega),Z11]
 have kA:J0 K (nx+1+1)=some (.cells (K12 (aF 32 0)) 0):=by rw[<- hK,Z11]
 have a5:D0 H nx K (nx+3):=by
  rw[<- hK];exact((((D0.refl H nx).new _ (by omega) (by omega):D0 H nx _ (nx+1)).new _ (by omega) (by omega):D0 H nx _ (nx+1+1)).new _ (by omega) (by omega))
 refine B1 (m:=n) (fun m L H' nx'=>∃(i:Nat) (l:List Nat),m+i=n/\L=[.int .i64 (i:Int)]/\l.length=32/\(∀ v,v<32->l[v]? = some (if v<i then Q1 (adj es v) n else 0)) /\
  J0 H' (nx+1+1)=some (.cells (K12 l) 0)/\D0 K (nx+2) H' nx'/\nx+3<=nx') ?_ ⟨0,aF 32 0,rfl,rfl,by simp,fun v hv=>by rw[List.getElem?_replicate,if_pos hv];simp,kA,D0.self (by omega),aD _⟩
 rintro m ih L H2 nx2 ⟨i,l,hm,rfl,hl,J,hg,E,a9⟩ a7;have g2:=(E.get nx (by omega)).trans kG;have r2:=(E.get (nx+1) (by omega)).trans kR;have O:D0 H nx H2 nx2:=⟨by omega,fun q hq=>(E.get q (by omega)).trans (a5.get q hq)⟩
 simp(disch:=first|omega|assumption)only[W0]
 by_cases hi:i<n
 case neg=>
  have U:¬ (i:Int)<(n:Int):=by omega
  have a2:i=n:=by omega
  subst a2;have a3:l=B2 es i:=by
   refine G32 hl (N9 es i) fun v hv => ?_
   rw[J v hv];simp[B2,hv]
  subst a3;have e1:(K12 (B2 es i)).length=32:=by rw[E1];exact hl
  have e2:(K12 (aF 32 0)).length=32:=by rw[E1];simp
  have e3:=G24 (c:=K12 (aF 32 0)) (vs:=K12 (B2 es i)) (by rw[e1,e2]);have e4:=W5 (B2 es i);simp(disch:=first|omega|assumption)only[W0,U,hg,Z34 hl,e1,e2,e4,r2,e3];exact O.hs (by omega)
 have U:(i:Int)<(n:Int):=by omega
 simp(disch:=first|omega|assumption)only[W0,U,g2,C13];refine R0 (U61 hn hi A es cap _ _ (hS.ext O) a0 a1 a6) ?_;rintro _ H3 ab ⟨rfl,Q⟩;have a8:=(Q.get (nx+1+1) (by omega)).trans hg;have aa:=Q.le;have a4:i<l.length:=by omega
 have V:(K12 l).length=32:=by rw[E1];exact hl
 simp(disch:=first|omega|assumption)only[W0,Nat.reduceLeDiff,a8,V10 a4,V];refine⟨by omega,a7 (m-1) _ _ _ (by omega) ⟨i+1,l.set i (Q1 (adj es i) n),by omega,by simp,by rw[dO];exact hl,fun v hv => ?_,by rw[Z11],((E.trans (Q.less (by omega))).hs (by omega)),by omega⟩⟩;rw[cQ]
 by_cases Z:i=v
 .subst Z;rw[if_pos rfl,if_pos (by omega),if_pos (by omega)]
 .rw[if_neg Z,J v hv]
  by_cases W:v<i
  .rw[if_pos W,if_pos (by omega)]
  .rw[if_neg W,if_neg (by omega)]
end
end Go.Proofs.YtoiioigihocgbaaGreatDoor
namespace Go.Clo
section
variable {H H':Y0} {b d lo n nx nx' set size:Nat} {c:List Value} {css:List (List Value)} {qs:List Nat} {v:Value}
def V5(N set:Nat):List Nat:=(aY N).filter fun v=>set.testBit v
theorem N37(v set:Nat):V5 (v+1) set=if set.testBit v then V5 v set++[v] else V5 v set:=by
 unfold V5;rw[List.range_succ,List.filter_append]
 cases h:set.testBit v<;>simp[h]
theorem Q62{N v:Nat}:v ∈ V5 N set<->v<N/\set.testBit v=true:=by simp[V5]
theorem Q15(N set:Nat):(V5 N set).length<=N:=bK (List.length_filter_le _ _) (by simp)
def W77(set:Nat)(ps:List Nat)(e:Nat):List Nat:=if e &&& set=0\/e &&& set ∈ ps then ps else ps++[e &&& set]
def D16(es:List Nat)(set:Nat):List Nat:=es.foldl (W77 set) []
theorem K99{es:List Nat}{i e:Nat}(h:es[i]? = some e):D16 (es.take (i+1)) set=W77 set (D16 (es.take i) set) e:=by
 unfold D16;rw[List.take_add_one,h];simp
theorem X79(set:Nat):∀(es ps:List Nat),(es.foldl (W77 set) ps).length<=ps.length+es.length
 | [],ps=>by simp
 | e :: es,ps=>by
  have:=X79 set es (W77 set ps e);have h2:(W77 set ps e).length<=ps.length+1:=by unfold W77;split<;>simp
  simp only[dF,cV];omega
def sP(es:List Nat)(N set r j:Nat):Bool:=((D16 es set).getD r 0).testBit ((V5 N set).getD j 0)
theorem RX.step{X:Nat->Rat}{qs':List Nat}(h:RX (D6 H qs) nx css X)(E:nx<=nx')(hs:∀ i,i<nx->i ∉ qs->J0 H' i=J0 H i)(hq:∀ q ∈ qs',q ∈ qs\/nx<=q):RX (D6 H' qs') nx' css X:=
 (h.sub (V74 hs hq)).ext (D0.self E)
def RO3(H:Y0)(nx b n:Nat)(X:Nat->Rat):Prop:=∃ css:List (List Value),J0 H b=some (.cells css.flatten 3)/\b<nx/\css.length=n/\RX H nx css X
theorem RO3.sub{H:Y0}{nx b n:Nat}{X:Nat->Rat}{H':Y0}(h:RO3 H nx b n X)(e:Sub H nx H'):RO3 H' nx b n X:=by
 obtain⟨css,hg,hb,hl,hx⟩:=h;exact⟨css,e b _ hb hg,hb,hl,hx.sub e⟩
theorem RO3.more {H : Y0} {nx b n : Nat} {X : Nat -> Rat} {nx' : Nat} (h : RO3 H nx b n X) (e : nx <= nx') : RO3 H nx' b n X := by
  obtain ⟨css, hg, hb, hl, hx⟩ := h
  exact ⟨css, hg, by omega, hl, hx.ext (D0.self e)⟩
theorem RO3.step{X:Nat->Rat}{qs':List Nat}(h:RO3 (D6 H qs) nx b n X)(E:nx<=nx')(hs:∀ i,i<nx->i ∉ qs->J0 H' i=J0 H i)(hq:∀ q ∈ qs',q ∈ qs\/nx<=q):RO3 (D6 H' qs') nx' b n X:=
 (h.sub (V74 hs hq)).more E
theorem RO3.rsl{X:Nat->Rat}(h:RO3 H nx b n X):RSl H nx (some ⟨b,0,none⟩) n X:=by
 obtain⟨css,hg,hb,hl,hx⟩:=h;exact⟨css,fun i v hv=>⟨b,0,css.flatten,rfl,hb,by rw[Q5,hg];rfl,by rw[cF];exact hv⟩,hl,hx⟩
theorem RX.app {X:Nat->Rat} (h:RX H nx css X) (hl:css.length=n) (hc:RR H nx (.agg ⟨c⟩) (X n)):RX H nx (css++[c]) X:=by
 intro q d hq
 rw[List.getElem?_append] at hq
 split at hq
 .exact h q d hq
 .rename_i hn
  have h1:=(List.getElem?_eq_some_iff.1 hq).1
  simp at h1
  have:q=n:=by omega
  subst this
  rw[show q-css.length=0 by omega] at hq
  simp at hq
  rw[<- hq];exact hc
theorem Z77(h:Acc lo H nx size v n c)(hd:lo<=d):lo<=R5 d v:=by
 rcases N29 h (d:=d) with ⟨_,_,e⟩ | ⟨b,_,e,h1,h2,_⟩<;>omega
theorem G81{lo:Nat}{nx size:Nat}{n:Nat}(h:Acc lo H nx size v n c)(d d':Nat):R5 d' v=R5 d v\/R5 d' v=d':=by
 rcases N29 h (d:=d) with ⟨hv,_,e⟩ | ⟨b,hv,e,h1,h2,_⟩
 .right;rw[hv];rfl
 .left;rw[e,hv];rfl
theorem W75(h:Acc lo H nx size v n c)(hd:d<nx):R5 d v<nx:=by
 rcases N29 h (d:=d) with ⟨_,_,e⟩ | ⟨b,_,e,h1,h2,_⟩<;>omega
theorem X76(hl:c.length=n*size)(h1:lo<=b)(h2:b<nx)(hg:J0 H b=some (.cells c size)):Acc lo H nx size (.slice (some ⟨b,0,none⟩) n n) n c:=⟨hl,.inr ⟨b,h1,h2,rfl,hg⟩⟩
end
theorem D87{c:List Value}(h:V7 c)(k:List Value->Prop):K6 1 3 [.bool false,.slice none 0 0,.slice none 0 0] [(0,.agg ⟨c⟩)] k=k c:=by
 obtain⟨s,A,l,q,C,l',q',rfl⟩:=h
 rfl
theorem C93(x:Int)(k:List Value->Prop):K6 1 1 [.int .i64 0] [(0,.int .i64 x)] k=k [.int .i64 x]:=rfl
theorem Y108(A:Option Addr)(l c:Nat)(k:List Value->Prop):K6 1 1 [.slice none 0 0] [(0,.slice A l c)] k=k [.slice A l c]:=rfl
theorem V95(l:List Nat)(v:Nat):U4 ((l++[v]).map fun(w:Nat)=>(w:Int))=U4 (l.map fun(w:Nat)=>(w:Int))++[.int .i64 (v:Int)]:=by simp[U4]
theorem N81(l:List Nat):(U4 (l.map fun(w:Nat)=>(w:Int))).length=l.length:=by simp[U4]
theorem N75(css:List (List Value))(c:List Value):(css++[c]).flatten=css.flatten++c:=by simp
structure PS (H0:Y0) (n0:Nat) (H:Y0) (nx b7:Nat) (vm vC:Value) (n:Nat) (ms:List Nat) (css:List (List Value)):Prop where
 ext:D0 H0 n0 H nx
 le:n0+3<=nx
 g4:J0 H (n0+1)=some (.cells [.slice none 0 0,.slice none 0 0,.slice none 0 0] 0)
 g7:J0 H (n0+2)=some (.cells [vC,.slice none 0 0,.slice none 0 0] 0)
 am:Acc (n0+3) H nx 1 vm n (U4 (ms.map fun(w:Nat)=>(w:Int)))
 aC:Acc (n0+3) H nx 3 vC n css.flatten
 lm:ms.length=n
 lc:css.length=n
 rx:RX (D6 H [n0+2,R5 (n0+2) vm,R5 (n0+2) vC]) nx css fun _=>1
 ne:(vm = .slice none 0 0/\vC = .slice none 0 0)\/R5 (n0+2) vm≠R5 (n0+2) vC
end Go.Clo
namespace Go.Proofs.YtoiioigihocgbaaGreatDoor
open Go.Clo
theorem R94 {H0:Y0} {n0:Nat} {H:Y0} {nx b7:Nat} {vm vC:Value} {n v:Nat} {ms:List Nat} {css:List (List Value)} {j:Value->Y0->Nat->Prop} (h:PS H0 n0 H nx b7 vm vC n ms css) (hn:n<=100)
  (hj:∀ vm' vC' css' H' nx',PS H0 n0 H' nx' b7 vm' vC' (n+1) (ms++[v]) css'->J0 H' n0=J0 H n0->j vm' H' nx'):
  (K6 1 1 [.int .i64 0] [(0,(.int .i64 (v:Int)))] fun tc_15=>J3 (.cells tc_15 0) (.slice 1 1) H nx fun t30_16 H6 nx6=>
     B5 vm t30_16 1 8 H6 nx6 fun t31_17 H7 nx7=>
     M2 (nx7+7) fun nx8=>
     B4 (.pointer (some ⟨n0+2,0,none⟩)) 0 fun t32_18=>
     J1 t32_18 none H7 fun t33_19=>
     Y2 Tryz.prog 75 [(.int .i64 1)] H7 nx8 fun t34_20 H9 nx9=>
     K6 1 3 [.bool false,.slice none 0 0,.slice none 0 0] [(0,t34_20)] fun tc_22=>wNm nx7 3 (.slice 1 1) fun t35_21=>
     E6 H9 (nx7+3) (some (.cells tc_22 0)) fun H10=>B5 t33_19 t35_21 3 56 H10 nx9 fun t36_23 H11 nx11=>
     B4 (.pointer (some ⟨n0+2,0,none⟩)) 0 fun t37_24=>
     D5 t37_24 t36_23 1 H11 fun H12=>
     (((((True)/\((True)/\((J1 t32_18 none H9 fun tq_25=>tq_25=t33_19)/\((J1 t32_18 none H7 fun tq_26=>tq_26=t33_19)/\True))))/\True))/\(
      j t31_17 H12 nx11))\/False):=by
 have hle:=h.le
 have hm:=Z77 h.am (d:=nx+1) (by omega)
 have hmo:=G81 h.am (n0+2) (nx+1)
 have hm2:=Z77 h.am (d:=n0+3) (by omega)
 have hCo:=fun d=>G81 h.aC (n0+2) d
 have hCl:=fun d (hd:n0+3<=d)=>Z77 h.aC (d:=d) hd
 have hmh:=W75 h.am (d:=n0+2) (by omega)
 have hCh:=W75 h.aC (d:=n0+2) (by omega)
 obtain⟨Am,lm,cm,hvm⟩:∃ A l c,vm = .slice A l c:=by
  rcases N29 h.am (d:=nx) with ⟨hv,_⟩ | ⟨b,hv,_⟩<;>exact⟨_,_,_,hv⟩
 obtain⟨AC,lC,cC,hvC⟩:∃ A l c,vC = .slice A l c:=by
  rcases N29 h.aC (d:=nx) with ⟨hv,_⟩ | ⟨b,hv,_⟩<;>exact⟨_,_,_,hv⟩
 have hE6:D0 H nx (hs H nx (some (.cells [.int .i64 (v:Int)] 0))) (nx+1):=(D0.refl _ _).new _ (Nat.le_refl _) (by omega)
 have g6:J0 (hs H nx (some (.cells [.int .i64 (v:Int)] 0))) nx=some (.cells [.int .i64 (v:Int)] 0):=Z11 _ _ _
 simp (disch:=first|omega|assumption) only[W0,Q0.val,C93]
 generalize hs H nx (some (.cells [.int .i64 (v:Int)] 0))=H6 at *
 have hsrc:Src H6 1 (.slice (some ⟨nx,0,none⟩) 1 1) 1 [.int .i64 (v:Int)]:=J9 g6 rfl (by omega)
 refine E72 (d:=nx+1) (by omega) (h.am.ext hE6) hsrc (by omega) rfl (by omega) (by omega) ?_
 intro H7 g7 hk7
 have g77:=(hk7 (n0+2) (by omega) (by omega)).trans ((hE6.get _ (by omega)).trans h.g7)
 have hlow7:∀ i,i<nx->i≠R5 (n0+2) vm->J0 H7 i=J0 H i:=fun i h1 h2=>(hk7 i (by omega) (by omega)).trans (hE6.get i h1)
 have hlow7':∀ i,i<n0+3->J0 H7 i=J0 H i:=fun i h1=>(hk7 i (by omega) (by omega)).trans (hE6.get i (by omega))
 simp (disch:=first|omega|assumption) only[W0,g77]
 refine X65 (qs:=[n0+2,nx+1,R5 (n0+2) vC,nx+1+1+3]) (by intro q hq;simp at hq;omega) (R73 (n:=1) (by omega) (by omega) _ _) (fun _ _ _ h=>h.2) ?_
 rintro r H9 nx9 E0 ⟨hr,hE0⟩ hE9 hS9 _
 have hle9:=hE9.le
 obtain⟨c,rfl,hc⟩:=hr.num
 have hr9:=hr.sub hS9
 have g97:=(hE9.get (n0+2) (by omega)).trans g77
 simp (disch:=first|omega|assumption) only[D87 hc]
 have g10:J0 (hs H9 (nx+1+1+3) (some (.cells c 0))) (nx+1+1+3)=some (.cells c 0):=Z11 _ _ _
 have hk10:∀ i,i≠nx+1+1+3->J0 (hs H9 (nx+1+1+3) (some (.cells c 0))) i=J0 H9 i:=fun i hi=>Z1 _ hi
 generalize hs H9 (nx+1+1+3) (some (.cells c 0))=H10 at *
 have haC10:Acc (n0+3) H10 nx9 3 vC n css.flatten:=h.aC.same (by omega) fun b hb1 hb2 hb3=>by
  have hbC:=hb3 (n0+2)
  rw[hk10 b (by omega),hE9.get b (by omega),hlow7 b hb2 ?_]
  rcases h.ne with ⟨h1,h2⟩ | hne
  .rw[h2] at hb3
   have:b+1=b:=hb3 (b+1)
   omega
  .omega
 have hsrc2:Src H10 3 (.slice (some ⟨nx+1+1+3,0,none⟩) 1 1) 1 c:=J9 g10 (by rw[hc.three]) (by omega)
 refine E72 (d:=nx9) (by omega) haC10 hsrc2 (by omega) hc.one (by omega) (by omega) ?_
 intro H11 g11 hk11
 have hC11:=hCl nx9 (by omega)
 have hC11o:=hCo nx9
 have g117:=(hk11 (n0+2) (by omega) (by omega)).trans ((hk10 _ (by omega)).trans g97)
 have hset0:∀ (a c d v:Value),B12 [a,c,d] 0 [v]=[v,c,d]:=fun _ _ _ _=>rfl
 have hlow:∀ i,i<n0+3->J0 H11 i=J0 H i:=fun i hi=>by
  rw[hk11 i (by omega) (by omega),hk10 i (by omega),hE9.get i (by omega),hlow7' i hi]
 have hm11:J0 H11 (nx+1)=some (.cells (U4 ((ms++[v]).map fun (w:Nat)=>(w:Int))) 1):=by
  rw[hk11 _ (by omega) (by omega),hk10 _ (by omega),hE9.get _ (by omega),g7,V95]
 subst hvm hvC
 simp (disch:=first|omega|assumption) only[W0,Nat.reduceAdd,Nat.reduceLeDiff,g117,hset0,g97]
 refine hj _ (.slice (some ⟨nx9,0,none⟩) (n+1) (n+1)) (css++[c]) _ _ ⟨⟨by have:=h.ext.le;omega,fun i hi => ?_⟩,by omega,?_,Z11 _ _ _,?_,?_,by simp[h.lm],by simp[h.lc],?_,.inr ?_⟩ ?_
 .rw[Z1 _ (by omega),hlow i (by omega)];exact h.ext.get i hi
 .rw[Z1 _ (by omega),hlow _ (by omega)];exact h.g4
 .refine X76 (by rw[N81];simp[h.lm]) (by omega) (by omega) ?_
  rw[Z1 _ (by omega)];exact hm11
 .refine X76 (by rw[N75,List.length_append,h.aC.1,hc.three];omega) (by omega) (by omega) ?_
  rw[Z1 _ (by omega),g11,N75]
 .show RX (D6 _ [n0+2,nx+1,nx9]) _ _ _
  have h9:RX (D6 H9 [n0+2,nx+1,R5 (n0+2) (Value.slice AC lC cC),nx+1+1+3]) nx9 css fun _=>1:=h.rx.step (by omega) (fun i h1 h2=>by
   simp at h2
   rw[hE9.get i (by omega),hlow7 i h1 (by omega)]) (fun q hq=>by
   simp at hq ⊢
   omega)
  refine (h9.app h.lc hr9).step (by omega) (fun i h1 h2 => ?_) (fun q hq=>by simp at hq ⊢;omega)
  simp at h2
  rw[Z1 _ (by omega),hk11 i (by omega) (by omega),hk10 i (by omega)]
 .show nx+1≠nx9
  omega
 .rw[Z1 _ (by omega),hlow _ (by omega)]
end Go.Proofs.YtoiioigihocgbaaGreatDoor
namespace Go.Clo
structure PT (H0:Y0) (n0:Nat) (H:Y0) (nx r bm bC n:Nat) (ms:List Nat) (M:Nat->Option Value) (vA vB vf:Value) (mA mf:Nat) (bs:List Nat) (cssB:List (List Value)) (fs:List Nat) (Y:Nat->Nat->Rat):Prop where
 ext:D0 H0 n0 H nx
 le:n0+3<=r
 rn:r<nx
 g4:J0 H (n0+1)=some (.cells [.slice none 0 0,.slice none 0 0,.slice none 0 0] 0)
 g7:J0 H (n0+2)=some (.cells [.slice (some ⟨bC,0,none⟩) n n,vA,vB] 0)
 gm:J0 H bm=some (.cells (U4 (ms.map fun(w:Nat)=>(w:Int))) 1)
 bmr:bm<r
 bm3:n0+3<=bm
 mp:U29 H r M
 aA:Acc (r+1) H nx 1 vA mA (slR n bs)
 aB:Acc (r+1) H nx 3 vB mA cssB.flatten
 af:Acc (r+1) H nx 1 vf mf (U4 (fs.map fun(w:Nat)=>(w:Int)))
 lA:bs.length=mA
 lB:cssB.length=mA
 lf:fs.length=mf
 roC:RO3 (D6 H [n0+2,r,R5 (n0+2) vA,R5 (n0+2) vB,R5 (n0+2) vf]) nx bC n fun _=>1
 rxB:RX (D6 H [n0+2,r,R5 (n0+2) vA,R5 (n0+2) vB,R5 (n0+2) vf]) nx cssB fun _=>1
 rows:∀ k b,bs[k]? = some b->RO3 (D6 H [n0+2,r,R5 (n0+2) vA,R5 (n0+2) vB,R5 (n0+2) vf]) nx b n (Y k)
 nAB:(vA = .slice none 0 0/\vB = .slice none 0 0)\/R5 (n0+2) vA≠R5 (n0+2) vB
 nAf:(vA = .slice none 0 0/\vf = .slice none 0 0)\/vA = .slice none 0 0\/R5 (n0+2) vA≠R5 (n0+2) vf
 nBf:(vB = .slice none 0 0/\vf = .slice none 0 0)\/vB = .slice none 0 0\/R5 (n0+2) vB≠R5 (n0+2) vf
theorem PT.ext'{H0:Y0}{n0:Nat}{H:Y0}{nx r bm bC n:Nat}{ms:List Nat}{M:Nat->Option Value}{vA vB vf:Value}{mA mf:Nat}{bs:List Nat}{cssB:List (List Value)}{fs:List Nat}{Y:Nat->Nat->Rat}{H':Y0}{nx':Nat}
  (h:PT H0 n0 H nx r bm bC n ms M vA vB vf mA mf bs cssB fs Y)(e:D0 H nx H' nx'):PT H0 n0 H' nx' r bm bC n ms M vA vB vf mA mf bs cssB fs Y:=by
 have:=e.le;have:=h.rn;have:=h.le;have:=h.bmr;have hs:∀(qs:List Nat) (i:Nat),i<nx->i ∉ qs->J0 H' i=J0 H i:=fun qs i hi _=>e.get i hi
 exact⟨h.ext.trans e,h.le,by omega,(e.get _ (by omega)).trans h.g4,(e.get _ (by omega)).trans h.g7,(e.get _ (by omega)).trans h.gm,h.bmr,h.bm3,h.mp.ext h.rn e,h.aA.ext e,h.aB.ext e,h.af.ext e,h.lA,h.lB,h.lf,
  h.roC.step e.le (hs _) (fun q hq => .inl hq),h.rxB.step e.le (hs _) (fun q hq => .inl hq),fun k b hb=>(h.rows k b hb).step e.le (hs _) (fun q hq => .inl hq),h.nAB,h.nAf,h.nBf⟩
end Go.Clo
namespace Go.Proofs.YtoiioigihocgbaaGreatDoor
open Go.Clo
theorem U99{H0:Y0}{n0:Nat}{H:Y0}{nx r bm bC n:Nat}{ms:List Nat}{M:Nat->Option Value}{vA vB vf:Value}{mA mf:Nat}{bs:List Nat}{cssB:List (List Value)}{fs:List Nat}{Y:Nat->Nat->Rat}{part i:Nat}{j:Value->Y0->Nat->Prop}
  (h:PT H0 n0 H nx r bm bC n ms M vA vB vf mA mf bs cssB fs Y)(av:mf<=100)
  (hj:∀ aa H' nx',PT H0 n0 H' nx' r bm bC n ms (fun t=>if t=part then some (.bool true) else M t) vA vB aa mA (mf+1) bs cssB (fs++[i]) Y->J0 H' n0=J0 H n0->j aa H' nx'):
  (W56 (.int .u32) (.map (some r)) (.int .u32 (part:Int)) (.bool true) H nx fun ao Q ae=>
        K6 1 1 [.int .i64 0] [(0,(.int .i64 (i:Int)))] fun a6=>J3 (.cells a6 0) (.slice 1 1) Q ae fun a1 V a9=>
        B5 vf a1 1 8 V a9 fun a2 U ad=>j a2 U ad):=by
 have aw:=h.le;have ah:=h.rn;have an:=h.bmr;have ap:=h.bm3;refine h.mp.put part (.bool true) fun ac mc ai => ?_
 have ab:∀ x,x≠r->J0 (hs H r (some (.map ac mc))) x=J0 H x:=fun x hx=>Z1 _ hx
 generalize hs H r (some (.map ac mc))=Q at *
 have a3:D0 Q nx (hs Q nx (some (.cells [.int .i64 (i:Int)] 0))) (nx+1):=(D0.refl _ _).new _ (aD _) (by omega);have aj:J0 (hs Q nx (some (.cells [.int .i64 (i:Int)] 0))) nx=some (.cells [.int .i64 (i:Int)] 0):=Z11 _ _ _;simp(disch:=first|omega|assumption)only[W0,Q0.val,C93];generalize hs Q nx (some (.cells [.int .i64 (i:Int)] 0))=V at *
 have a8:Src V 1 (.slice (some ⟨nx,0,none⟩) 1 1) 1 [.int .i64 (i:Int)]:=J9 aj rfl (by omega);have O:∀ x,x<nx->x≠r->J0 V x=J0 H x:=fun x h1 h2=>(a3.get x h1).trans (ab x h2)
 have a7:Acc (r+1) V (nx+1) 1 vf mf (U4 (fs.map fun(w:Nat)=>(w:Int))):=h.af.same (by omega) fun b ag W _=>O b W (by omega)
 refine E72 (d:=nx+1) (by omega) a7 a8 (by omega) rfl (by omega) (by omega) ?_;intro U ak Z;have aq:=Z77 h.af (d:=nx+1) (by omega);have au:=G81 h.af (n0+2) (nx+1);have a0:∀ x,x<nx->x≠r->x≠R5 (n0+2) vf->J0 U x=J0 H x:=fun x h1 h2 h3=>(Z x (by omega) (by omega)).trans (O x h1 h2)
 have E:∀ x,x<r->J0 U x=J0 H x:=fun x h1=>(Z x (by omega) (by omega)).trans (O x (by omega) (by omega))
 have al:J0 U r=J0 Q r:=(Z r (by omega) (by omega)).trans (a3.get r ah);have a5:∀ x,x<nx->x ∉ [n0+2,r,R5 (n0+2) vA,R5 (n0+2) vB,R5 (n0+2) vf]->J0 U x=J0 H x:=fun x h1 h2=>by
  simp at h2;exact a0 x h1 (by omega) (by omega)
 have a4:∀ q ∈ [n0+2,r,R5 (n0+2) vA,R5 (n0+2) vB,nx+1],q ∈ [n0+2,r,R5 (n0+2) vA,R5 (n0+2) vB,R5 (n0+2) vf]\/nx<=q:=fun q hq=>by simp at hq ⊢;omega
 refine hj _ _ _ ⟨⟨by have:=h.ext.le;omega,fun x hx => ?_⟩,h.le,by omega,?_,?_,?_,h.bmr,h.bm3,ai.same al,?_,?_,?_,h.lA,h.lB,by simp[h.lf],?_,?_,fun k b hb => ?_,h.nAB,?_,?_⟩ ?_
 .rw[E x (by omega)];exact h.ext.get x hx
 .rw[E _ (by omega)];exact h.g4
 .rw[E _ (by omega)];exact h.g7
 .rw[E _ (by omega)];exact h.gm
 .refine h.aA.same (by omega) fun b ag W J=>a0 b W (by omega) ?_
  rcases h.nAf with ⟨h1,_⟩ | h1 | h1
  .rw[h1] at J;have:b+1=b:=J (b+1);omega
  .rw[h1] at J;have:b+1=b:=J (b+1);omega
  .rw[<- J (n0+2)];exact h1
 .refine h.aB.same (by omega) fun b ag W J=>a0 b W (by omega) ?_
  rcases h.nBf with ⟨h1,_⟩ | h1 | h1
  .rw[h1] at J;have:b+1=b:=J (b+1);omega
  .rw[h1] at J;have:b+1=b:=J (b+1);omega
  .rw[<- J (n0+2)];exact h1
 .refine X76 (by rw[N81];simp[h.lf]) (by omega) (by omega) ?_
  rw[ak,V95]
 .exact h.roC.step (by omega) a5 a4
 .exact h.rxB.step (by omega) a5 a4
 .exact(h.rows k b hb).step (by omega) a5 a4
 .rcases N29 h.aA (d:=n0+2) with ⟨hv,_⟩ | ⟨b,hv,e,h1,h2,_⟩
  .exact .inr (.inl hv)
  .refine .inr (.inr ?_)
   rw[e];show b≠nx+1;omega
 .rcases N29 h.aB (d:=n0+2) with ⟨hv,_⟩ | ⟨b,hv,e,h1,h2,_⟩
  .exact .inr (.inl hv)
  .refine .inr (.inr ?_)
   rw[e];show b≠nx+1;omega
 .exact E _ (by omega)
theorem C105 {H0:Y0} {n0:Nat} {H:Y0} {nx r bm bC n:Nat} {ms:List Nat} {M:Nat->Option Value} {vA vB vf:Value} {m:Nat} {bs:List Nat} {cssB:List (List Value)} {fs:List Nat} {Y:Nat->Nat->Rat} {b:Nat} {X:Nat->Rat} {j:Y0->Nat->Prop}
  (h:PT H0 n0 H nx r bm bC n ms M vA vB vf m (m+1) bs cssB fs Y) (hm:m<=100) (hb:RO3 (D6 H [n0+2,r,R5 (n0+2) vA,R5 (n0+2) vB,R5 (n0+2) vf]) nx b n X)
  (hj:∀ vA' vB' cssB' H' nx',PT H0 n0 H' nx' r bm bC n ms M vA' vB' vf (m+1) (m+1) (bs++[b]) cssB' fs (fun k=>if k=m then X else Y k)->J0 H' n0=J0 H n0->j H' nx'):
  (B4 (.pointer (some ⟨n0+2,0,none⟩)) 1 fun t80_62=>
          J1 t80_62 none H fun t81_63=>
          K6 1 1 [.slice none 0 0] [(0,.slice (some ⟨b,0,none⟩) n n)] fun tc_64=>J3 (.cells tc_64 0) (.slice 1 1) H nx fun t83_65 H24 nx24=>
          B5 t81_63 t83_65 1 24 H24 nx24 fun t84_66 H25 nx25=>
          B4 (.pointer (some ⟨n0+2,0,none⟩)) 1 fun t85_67=>
          D5 t85_67 t84_66 1 H25 fun H26=>
          M2 (nx25+7) fun nx27=>
          B4 (.pointer (some ⟨n0+2,0,none⟩)) 2 fun t86_68=>
          J1 t86_68 none H26 fun t87_69=>
          Y2 Tryz.prog 75 [(.int .i64 1)] H26 nx27 fun t88_70 H28 nx28=>
          K6 1 3 [.bool false,.slice none 0 0,.slice none 0 0] [(0,t88_70)] fun tc_72=>wNm nx25 3 (.slice 1 1) fun t89_71=>
          E6 H28 (nx25+3) (some (.cells tc_72 0)) fun H29=>B5 t87_69 t89_71 3 56 H29 nx28 fun t90_73 H30 nx30=>
          B4 (.pointer (some ⟨n0+2,0,none⟩)) 2 fun t91_74=>
          D5 t91_74 t90_73 1 H30 fun H31=>
          (((((True)/\((True)/\((J1 t86_68 none H28 fun tq_75=>tq_75=t87_69)/\((J1 t86_68 none H26 fun tq_76=>tq_76=t87_69)/\True))))/\True))/\(
           j H31 nx30))\/False):=by
 have hle:=h.le
 have hrn:=h.rn
 have hbmr:=h.bmr
 have hbm3:=h.bm3
 have hA1:=Z77 h.aA (d:=nx+1) (by omega)
 have hAo:=G81 h.aA (n0+2) (nx+1)
 have hfh:=W75 h.af (d:=n0+2) (by omega)
 have hBh:=W75 h.aB (d:=n0+2) (by omega)
 obtain⟨A1,l1,c1,hvA⟩:∃ A l c,vA = .slice A l c:=by
  rcases N29 h.aA (d:=nx) with ⟨hv,_⟩ | ⟨b,hv,_⟩<;>exact⟨_,_,_,hv⟩
 obtain⟨A2,l2,c2,hvB⟩:∃ A l c,vB = .slice A l c:=by
  rcases N29 h.aB (d:=nx) with ⟨hv,_⟩ | ⟨b,hv,_⟩<;>exact⟨_,_,_,hv⟩
 have hE24:D0 H nx (hs H nx (some (.cells [.slice (some ⟨b,0,none⟩) n n] 0))) (nx+1):=(D0.refl _ _).new _ (Nat.le_refl _) (by omega)
 have g24:J0 (hs H nx (some (.cells [.slice (some ⟨b,0,none⟩) n n] 0))) nx=some (.cells [.slice (some ⟨b,0,none⟩) n n] 0):=Z11 _ _ _
 simp (disch:=first|omega|assumption) only[W0,Q0.val,h.g7,Y108]
 generalize hs H nx (some (.cells [.slice (some ⟨b,0,none⟩) n n] 0))=H24 at *
 have hsrc:Src H24 1 (.slice (some ⟨nx,0,none⟩) 1 1) 1 [.slice (some ⟨b,0,none⟩) n n]:=J9 g24 rfl (by omega)
 refine E72 (d:=nx+1) (by omega) (h.aA.ext hE24) hsrc (by omega) rfl (by omega) (by omega) ?_
 intro H25 g25 hk25
 have hlow25:∀ x,x<nx->x≠R5 (n0+2) vA->J0 H25 x=J0 H x:=fun x h1 h2=>(hk25 x (by omega) (by omega)).trans (hE24.get x h1)
 have hlow25':∀ x,x<=r->J0 H25 x=J0 H x:=fun x h1=>(hk25 x (by omega) (by omega)).trans (hE24.get x (by omega))
 have g257:=(hlow25' (n0+2) (by omega)).trans h.g7
 have hset1:∀ (a c d v:Value),B12 [a,c,d] 1 [v]=[a,v,d]:=fun _ _ _ _=>rfl
 have hset2:∀ (a c d v:Value),B12 [a,c,d] 2 [v]=[a,c,v]:=fun _ _ _ _=>rfl
 have hvA':=hvA
 have hvB':=hvB
 have g267:J0 (hs H25 (n0+2) (some (.cells [.slice (some ⟨bC,0,none⟩) n n,.slice (some ⟨nx+1,0,none⟩) (m+1) (m+1),vB] 0))) (n0+2)=some (.cells [.slice (some ⟨bC,0,none⟩) n n,.slice (some ⟨nx+1,0,none⟩) (m+1) (m+1),vB] 0):=Z11 _ _ _
 have hk26:∀ x,x≠n0+2->J0 (hs H25 (n0+2) (some (.cells [.slice (some ⟨bC,0,none⟩) n n,.slice (some ⟨nx+1,0,none⟩) (m+1) (m+1),vB] 0))) x=J0 H25 x:=fun x hx=>Z1 _ hx
 simp (disch:=first|omega|assumption) only[W0,Nat.reduceAdd,Nat.reduceLeDiff,g257,hset1]
 generalize hs H25 (n0+2) (some (.cells [.slice (some ⟨bC,0,none⟩) n n,.slice (some ⟨nx+1,0,none⟩) (m+1) (m+1),vB] 0))=H26 at *
 refine X65 (qs:=[n0+2,r,nx+1,R5 (n0+2) vB,R5 (n0+2) vf,nx+1+1+3]) (by intro q hq;simp at hq;omega) (R73 (n:=1) (by omega) (by omega) _ _) (fun _ _ _ h=>h.2) ?_
 rintro r1 H28 nx28 E0 ⟨hr,hE0⟩ hE28 hS28 _
 have hle28:=hE28.le
 obtain⟨c,rfl,hc⟩:=hr.num
 have hr28:=hr.sub hS28
 have g287:=(hE28.get (n0+2) (by omega)).trans g267
 simp (disch:=first|omega|assumption) only[D87 hc]
 have g29:J0 (hs H28 (nx+1+1+3) (some (.cells c 0))) (nx+1+1+3)=some (.cells c 0):=Z11 _ _ _
 have hk29:∀ i,i≠nx+1+1+3->J0 (hs H28 (nx+1+1+3) (some (.cells c 0))) i=J0 H28 i:=fun i hi=>Z1 _ hi
 generalize hs H28 (nx+1+1+3) (some (.cells c 0))=H29 at *
 have haB29:Acc (r+1) H29 nx28 3 vB m cssB.flatten:=h.aB.same (by omega) fun b hb1 hb2 hb3=>by
  have hbB:=hb3 (n0+2)
  rw[hk29 b (by omega),hE28.get b (by omega),hk26 b (by omega),hlow25 b hb2 ?_]
  rcases h.nAB with ⟨h1,h2⟩ | hne
  .rw[h2] at hb3
   have:b+1=b:=hb3 (b+1)
   omega
  .omega
 have hsrc2:Src H29 3 (.slice (some ⟨nx+1+1+3,0,none⟩) 1 1) 1 c:=J9 g29 (by rw[hc.three]) (by omega)
 refine E72 (d:=nx28) (by omega) haB29 hsrc2 (by omega) hc.one (by omega) (by omega) ?_
 intro H30 g30 hk30
 have hB1:=Z77 h.aB (d:=nx28) (by omega)
 have hBo:=G81 h.aB (n0+2) nx28
 have g307:=(hk30 (n0+2) (by omega) (by omega)).trans ((hk29 _ (by omega)).trans g287)
 simp (disch:=first|omega|assumption) only[W0,Nat.reduceAdd,g307,hset2,g287]
 have hlow:∀ x,x<=r->x≠n0+2->J0 H30 x=J0 H x:=fun x h1 h2=>by
  rw[hk30 x (by omega) (by omega),hk29 x (by omega),hE28.get x (by omega),hk26 x h2,hlow25' x h1]
 have hst:∀ x,x<nx->x ∉ [n0+2,r,R5 (n0+2) vA,R5 (n0+2) vB,R5 (n0+2) vf]->J0 (hs H30 (n0+2) (some (.cells [.slice (some ⟨bC,0,none⟩) n n,.slice (some ⟨nx+1,0,none⟩) (m+1) (m+1),.slice (some ⟨nx28,0,none⟩) (m+1) (m+1)] 0))) x=J0 H x:=fun x h1 h2=>by
  simp at h2
  rw[Z1 _ (by omega),hk30 x (by omega) (by omega),hk29 x (by omega),hE28.get x (by omega),hk26 x (by omega),hlow25 x h1 (by omega)]
 have hqs:∀ q ∈ [n0+2,r,nx+1,nx28,R5 (n0+2) vf],q ∈ [n0+2,r,R5 (n0+2) vA,R5 (n0+2) vB,R5 (n0+2) vf]\/nx<=q:=fun q hq=>by simp at hq ⊢;omega
 have hA30:J0 H30 (nx+1)=some (.cells (slR n (bs++[b])) 1):=by
  rw[hk30 _ (by omega) (by omega),hk29 _ (by omega),hE28.get _ (by omega),hk26 _ (by omega),g25,J97]
 have hfsame:∀ x,r+1<=x->x<nx->(∀ d,R5 d vf=x)->J0 (hs H30 (n0+2) (some (.cells [.slice (some ⟨bC,0,none⟩) n n,.slice (some ⟨nx+1,0,none⟩) (m+1) (m+1),.slice (some ⟨nx28,0,none⟩) (m+1) (m+1)] 0))) x=J0 H x:=fun x h1 h2 h3=>by
  have hxf:=h3 (n0+2)
  have hA:x≠R5 (n0+2) vA:=by
   rcases h.nAf with ⟨_,h5⟩ | h5 | h5
   .rw[h5] at h3;have:x+1=x:=h3 (x+1);omega
   .rw[h5];show x≠n0+2;omega
   .omega
  have hB:x≠R5 (n0+2) vB:=by
   rcases h.nBf with ⟨_,h5⟩ | h5 | h5
   .rw[h5] at h3;have:x+1=x:=h3 (x+1);omega
   .rw[h5];show x≠n0+2;omega
   .omega
  rw[Z1 _ (by omega),hk30 x (by omega) (by omega),hk29 x (by omega),hE28.get x (by omega),hk26 x (by omega),hlow25 x h2 hA]
 refine hj (.slice (some ⟨nx+1,0,none⟩) (m+1) (m+1)) (.slice (some ⟨nx28,0,none⟩) (m+1) (m+1)) (cssB++[c]) _ _ ⟨⟨by have:=h.ext.le;omega,fun x hx => ?_⟩,h.le,by omega,?_,Z11 _ _ _,?_,h.bmr,h.bm3,h.mp.same ?_,?_,?_,h.af.same (by omega) hfsame,by simp[h.lA],by simp[h.lB],h.lf,h.roC.step (by omega) hst hqs,?_,fun k d hd => ?_,.inr ?_,.inr (.inr ?_),.inr (.inr ?_)⟩ ?_
 .rw[Z1 _ (by omega),hlow x (by omega) (by omega)];exact h.ext.get x hx
 .rw[Z1 _ (by omega),hlow _ (by omega) (by omega)];exact h.g4
 .rw[Z1 _ (by omega),hlow _ (by omega) (by omega)];exact h.gm
 .rw[Z1 _ (by omega),hlow _ (by omega) (by omega)]
 .refine X76 (by rw[G75];simp[h.lA]) (by omega) (by omega) ?_
  rw[Z1 _ (by omega)];exact hA30
 .refine X76 (by rw[N75,List.length_append,h.aB.1,hc.three];omega) (by omega) (by omega) ?_
  rw[Z1 _ (by omega),g30,N75]
 .show RX (D6 _ [n0+2,r,nx+1,nx28,R5 (n0+2) vf]) _ _ _
  have h28:RX (D6 H28 [n0+2,r,nx+1,R5 (n0+2) vB,R5 (n0+2) vf,nx+1+1+3]) nx28 cssB fun _=>1:=h.rxB.step (by omega) (fun i h1 h2=>by
   simp at h2
   rw[hE28.get i (by omega),hk26 i (by omega),hlow25 i h1 (by omega)]) (fun q hq=>by
   simp at hq ⊢
   omega)
  refine (h28.app h.lB hr28).step (by omega) (fun i h1 h2 => ?_) (fun q hq=>by simp at hq ⊢;omega)
  simp at h2
  rw[Z1 _ (by omega),hk30 i (by omega) (by omega),hk29 i (by omega)]
 .rw[List.getElem?_append] at hd
  split at hd
  .rename_i hlt
   rw[if_neg (by have:=h.lA;omega)]
   exact (h.rows k d hd).step (by omega) hst hqs
  .rename_i hlt
   have h1:=(List.getElem?_eq_some_iff.1 hd).1
   simp at h1
   have hkm:k=m:=by have:=h.lA;omega
   rw[if_pos hkm]
   rw[show k-bs.length=0 by omega] at hd
   simp at hd
   rw[<- hd]
   exact hb.step (by omega) hst hqs
 .show nx+1≠nx28
  omega
 .show nx+1≠R5 (n0+2) vf
  omega
 .show nx28≠R5 (n0+2) vf
  omega
 .rw[Z1 _ (by omega),hlow _ (by omega) (by omega)]
end Go.Proofs.YtoiioigihocgbaaGreatDoor
namespace Go.Clo
def PkR(es:List Nat)(N set:Nat)(H:Y0)(nx:Nat)(v:Value):Prop:=
 ∃(AC AA AB Am Af:Option Addr) (cC cA cB cm cf:Nat) (ac:List Value) (fs:List Nat),
  v = .tuple ⟨[.agg ⟨[.slice AC (V5 N set).length cC,.slice AA (D16 es set).length cA,.slice AB (D16 es set).length cB]⟩,.slice Am (V5 N set).length cm,.slice Af (D16 es set).length cf]⟩ /\
  Sl H nx AA ac/\ac.length=(D16 es set).length/\(∀ i,i<(D16 es set).length->∃ Ai ci,ac[i]? = some (.slice Ai (V5 N set).length ci)/\RSl H nx Ai (V5 N set).length (fun j=>if sP es N set i j then 1 else 0)) /\
  RSl H nx AB (D16 es set).length (fun _=>1)/\RSl H nx AC (V5 N set).length (fun _=>1)/\Sl H nx Am (U4 ((V5 N set).map fun(w:Nat)=>(w:Int)))/\Sl H nx Af (U4 (fs.map fun(w:Nat)=>(w:Int)))/\fs.length=(D16 es set).length/\∀ f ∈ fs,f<es.length
theorem E66(k:Prop):M64 none k=k:=rfl
theorem V108(x v:Nat):(((x >>> v%2:Nat):Int):Rat)=if x.testBit v then 1 else 0:=by
 rw[<- C36];rcases dZ (x >>> v) with h | h
 .rw[h];rfl
 .rw[h];rfl
theorem M103(y:Nat)(k:VP):W8 .i64 (.int .u32 ((y%2:Nat):Int)) k=k (.int .i64 ((y%2:Nat):Int)):=by
 rw[Z32];rcases dZ y with h | h
 .rw[h];rfl
 .rw[h];rfl
theorem RO3.boxs{H:Y0}{nx b n q:Nat}{X:Nat->Rat}{l l':List Value}(h:RO3 H nx b n X)(hg:J0 H q=some (.cells l 0))(hr:noU l=true):RO3 (hs H q (some (.cells l' 0))) nx b n X:=by
 obtain⟨css,h1,h2,h3,h4⟩:=h;have E:b≠q:=by
  rintro rfl;rw[h1] at hg;cases hg
 exact⟨css,by rw[Z1 _ E];exact h1,h2,h3,fun i c hc=>(h4 i c hc).boxs hg (U47 hr) (.inl rfl)⟩
end Go.Clo
namespace Go.Proofs.YtoiioigihocgbaaGreatDoor
open Go.Clo
theorem D99 {H:Y0} {nx N set cap:Nat} {A:Option Addr} {es:List Nat} (hN:N<=8) (hS:Sl H nx A (K12 es)) (hsm:∀ e ∈ es,e<2^N) (hle:es.length<=8) (hset:set<2^N) (hn0:0<(V5 N set).length):
  Q2 Tryz.prog 108 [gv N A es.length cap,.int .u32 (set:Int)] H nx fun v H' nx'=>D0 H nx H' nx'/\PkR es N set H' nx' v:=by
 have hp32:2^N<4294967296:=Y18 (by omega)
 have hset32:set<4294967296:=by omega
 refine spec108 ?_
 unfold F108
 simp only[W1]
 have hhead:∀ K:Value->Value->Value->Value->Y0->Nat->Prop,(E5 (gv N A es.length cap) fun tc_1=>J3 (.cells tc_1 0) .ptr H nx fun t2_2 H1 nx1=>
   J3 (.cells [.slice none 0 0,.slice none 0 0,.slice none 0 0] 0) .ptr H1 nx1 fun t4_3 H2 nx2=>
   J3 (.cells [.slice none 0 0,.slice none 0 0,.slice none 0 0] 0) .ptr H2 nx2 fun t7_4 H3 nx3=>
   B4 t2_2 0 fun t18_5=>J1 t18_5 none H3 fun t19_6=>K t2_2 t4_3 t7_4 t19_6 H3 nx3) =
   K (.pointer (some ⟨nx,0,none⟩)) (.pointer (some ⟨nx+1,0,none⟩)) (.pointer (some ⟨nx+2,0,none⟩)) (.int .i64 (N:Int))
    (hs (hs (hs H nx (some (.cells [.int .i64 (N:Int),.slice A es.length cap] 0))) (nx+1) (some (.cells [.slice none 0 0,.slice none 0 0,.slice none 0 0] 0))) (nx+2) (some (.cells [.slice none 0 0,.slice none 0 0,.slice none 0 0] 0))) (nx+3):=by
  intro K
  simp (disch:=first|omega|assumption|exact G0 (by assumption)|exact U10 (by assumption)|exact X0 (by omega)|fail) only[W0,Z0,Q0.val]
 rw[hhead]
 have hE3:D0 H nx (hs (hs (hs H nx (some (.cells [.int .i64 (N:Int),.slice A es.length cap] 0))) (nx+1) (some (.cells [.slice none 0 0,.slice none 0 0,.slice none 0 0] 0))) (nx+2) (some (.cells [.slice none 0 0,.slice none 0 0,.slice none 0 0] 0))) (nx+3):=
  (((D0.refl _ _).new _ (Nat.le_refl _) (m:=nx+1) (by omega)).new _ (by omega) (m:=nx+2) (by omega)).new _ (by omega) (by omega)
 have g30:J0 (hs (hs (hs H nx (some (.cells [.int .i64 (N:Int),.slice A es.length cap] 0))) (nx+1) (some (.cells [.slice none 0 0,.slice none 0 0,.slice none 0 0] 0))) (nx+2) (some (.cells [.slice none 0 0,.slice none 0 0,.slice none 0 0] 0))) nx=some (.cells [.int .i64 (N:Int),.slice A es.length cap] 0):=by
  rw[Z1 _ (by omega),Z1 _ (by omega),Z11]
 have g34:J0 (hs (hs (hs H nx (some (.cells [.int .i64 (N:Int),.slice A es.length cap] 0))) (nx+1) (some (.cells [.slice none 0 0,.slice none 0 0,.slice none 0 0] 0))) (nx+2) (some (.cells [.slice none 0 0,.slice none 0 0,.slice none 0 0] 0))) (nx+1)=some (.cells [.slice none 0 0,.slice none 0 0,.slice none 0 0] 0):=by
  rw[Z1 _ (by omega),Z11]
 have g37:J0 (hs (hs (hs H nx (some (.cells [.int .i64 (N:Int),.slice A es.length cap] 0))) (nx+1) (some (.cells [.slice none 0 0,.slice none 0 0,.slice none 0 0] 0))) (nx+2) (some (.cells [.slice none 0 0,.slice none 0 0,.slice none 0 0] 0))) (nx+2)=some (.cells [.slice none 0 0,.slice none 0 0,.slice none 0 0] 0):=Z11 _ _ _
 generalize hs (hs (hs H nx (some (.cells [.int .i64 (N:Int),.slice A es.length cap] 0))) (nx+1) (some (.cells [.slice none 0 0,.slice none 0 0,.slice none 0 0] 0))) (nx+2) (some (.cells [.slice none 0 0,.slice none 0 0,.slice none 0 0] 0))=H3 at *
 refine B1 (m:=N) (fun k L H' nx'=>∃ (v n:Nat) (vm vC:Value) (css:List (List Value)),k+v=N/\L=[vm,.int .i64 (v:Int)]/\PS H nx H' nx' 0 vm vC n (V5 v set) css/\J0 H' nx=some (.cells [.int .i64 (N:Int),.slice A es.length cap] 0)) ?_
  ⟨0,0,.slice none 0 0,.slice none 0 0,[],by omega,rfl,⟨hE3,Nat.le_refl _,g34,g37,Acc.nil _ _ _ _,Acc.nil _ _ _ _,rfl,rfl,fun q c hc=>by simp at hc,.inl ⟨rfl,rfl⟩⟩,g30⟩
 rintro k ih L H4 nx4 ⟨v,n,vm,vC,css,hk,rfl,hps,g40⟩ hih
 show D10 .lss (.int .i64 (v:Int)) (.int .i64 (N:Int)) _
 rw[E45,C46]
 by_cases hv:v<N
 .rw[if_pos (by simpa using hv),N13]
  show D10 .shr (.int .u32 (set:Int)) (.int .i64 (v:Int)) _
  have hnl:=hps.lm
  have hml:=Q15 v set
  rw[V15 _ hset32,R40 _ (G0 hset32),V44,C36,C46]
  cases hb:set.testBit v with
  | true=>
   rw[if_pos rfl]
   refine R94 hps (by omega) ?_
   intro vm' vC' css' H' nx' h' g'
   simp (disch:=first|omega|assumption|exact G0 (by assumption)|exact U10 (by assumption)|exact X0 (by omega)|fail) only[W0]
   exact hih (k-1) _ _ _ (by omega) ⟨v+1,n+1,vm',vC',css',by omega,by simp,by rw[N37,hb];exact h',g'.trans g40⟩
  | false=>
   rw[if_neg (by simp)]
   simp (disch:=first|omega|assumption|exact G0 (by assumption)|exact U10 (by assumption)|exact X0 (by omega)|fail) only[W0]
   exact hih (k-1) _ _ _ (by omega) ⟨v+1,n,vm,vC,css,by omega,by simp,by rw[N37,hb];exact hps,g40⟩
 obtain rfl:v=N:=by omega
 rw[if_neg (by simp)]
 have hlm:=hps.lm
 have hle4:=hps.le
 have hn8:n<=8:=by have:=Q15 v set;omega
 obtain⟨bm,hvm,hbm3,hbmn,hgm⟩:∃ bm,vm = .slice (some ⟨bm,0,none⟩) n n/\nx+3<=bm/\bm<nx4/\J0 H4 bm=some (.cells (U4 ((V5 v set).map fun (w:Nat)=>(w:Int))) 1):=by
  rcases N29 hps.am (d:=nx) with ⟨_,h0,_⟩ | ⟨b,h1,_,h2,h3,h4⟩
  .omega
  .exact⟨b,h1,h2,h3,h4⟩
 obtain⟨bC,hvC,hbC3,hbCn,hgC⟩:∃ bC,vC = .slice (some ⟨bC,0,none⟩) n n/\nx+3<=bC/\bC<nx4/\J0 H4 bC=some (.cells css.flatten 3):=by
  rcases N29 hps.aC (d:=nx) with ⟨_,h0,_⟩ | ⟨b,h1,_,h2,h3,h4⟩
  .omega
  .exact⟨b,h1,h2,h3,h4⟩
 subst hvm hvC
 have hroC:RO3 (D6 H4 [nx+2]) nx4 bC n fun _=>1:=by
  refine⟨css,by rw[Q50 (by simp;omega)];exact hgC,hbCn,hps.lc,hps.rx.sub (V74 (fun _ _ _=>rfl) (fun q hq => .inl (by simp at hq ⊢;omega)))⟩
 have hmid:∀ K:Value->Value->Value->Y0->Nat->Prop,(M64 none <| J3 (.map [] 0) .map H4 nx4 fun t39_28 H13 nx13=>
   B4 (.pointer (some ⟨nx,0,none⟩)) 1 fun t40_29=>J1 t40_29 none H13 fun t41_30=>R4 t41_30 0 H13 fun t42_31=>K t39_28 t41_30 t42_31 H13 nx13) =
   K (.map (some nx4)) (.slice A es.length cap) (.int .i64 (es.length:Int)) (hs H4 nx4 (some (.map [] 0))) (nx4+1):=by
  intro K
  simp (disch:=first|omega|assumption|exact G0 (by assumption)|exact U10 (by assumption)|exact X0 (by omega)|fail) only[W0,Q0.val,E66,g40]
 rw[hmid]
 have hE13:D0 H4 nx4 (hs H4 nx4 (some (.map [] 0))) (nx4+1):=(D0.refl _ _).new _ (Nat.le_refl _) (by omega)
 have g13:J0 (hs H4 nx4 (some (.map [] 0))) nx4=some (.map [] 0):=Z11 _ _ _
 generalize hs H4 nx4 (some (.map [] 0))=H13 at *
 refine B1 (m:=es.length) (fun k L H' nx'=>∃ (i:Nat) (vA vB vf:Value) (m:Nat) (bs:List Nat) (cssB:List (List Value)) (fs:List Nat),k+i=es.length/\L=[vf,.int .i64 (i:Int)]/\(D16 (es.take i) set).length=m/\m<=i/\(∀ f ∈ fs,f<i) /\
   PT H nx H' nx' nx4 bm bC n (V5 v set) (fun t=>if t ∈ D16 (es.take i) set then some (.bool true) else none) vA vB vf m m bs cssB fs (fun r j=>if ((D16 (es.take i) set).getD r 0).testBit ((V5 v set).getD j 0) then 1 else 0)/\J0 H' nx=some (.cells [.int .i64 (v:Int),.slice A es.length cap] 0)) ?_
  ⟨0,.slice none 0 0,.slice none 0 0,.slice none 0 0,0,[],[],[],by omega,rfl,rfl,Nat.le_refl _,by simp,⟨hps.ext.trans hE13,by omega,by omega,(hE13.get _ (by omega)).trans hps.g4,(hE13.get _ (by omega)).trans hps.g7,(hE13.get _ hbmn).trans hgm,hbmn,hbm3,(U29.nil g13).congr (fun t=>by simp[D16]),Acc.nil _ _ _ _,Acc.nil _ _ _ _,Acc.nil _ _ _ _,rfl,rfl,rfl,
   hroC.step (by omega) (fun i hi _=>hE13.get i hi) (fun q hq=>by simp[R5] at hq ⊢;omega),fun q c hc=>by simp at hc,fun k b hb=>by simp at hb,.inl ⟨rfl,rfl⟩,.inl ⟨rfl,rfl⟩,.inl ⟨rfl,rfl⟩⟩,(hE13.get _ (by omega)).trans g40⟩
 rintro k2 ih2 L2 H14 nx14 ⟨i,vA,vB,vf,m,bs,cssB,fs,hk2,rfl,hpl,hmi,hfs,hpt,g140⟩ hih2
 show D10 .lss (.int .i64 (i:Int)) (.int .i64 (es.length:Int)) _
 rw[E45,C46]
 by_cases hi:i<es.length
 case neg=>
  obtain rfl:i=es.length:=by omega
  rw[if_neg (by simp)]
  rw[List.take_length] at hpt hpl
  have hput:∀ (a b c a' b' c':Value),B12 [a,b,c] 0 [a',b',c']=[a',b',c']:=fun _ _ _ _ _ _=>rfl
  obtain⟨AA,eA,hAA⟩:=hpt.aA.sl
  obtain⟨AB,eB,hAB⟩:=hpt.aB.sl
  obtain⟨Af,eF,hAf⟩:=hpt.af.sl
  have hrn:=hpt.rn
  have hler:=hpt.le
  have h7:=hpt.g7
  subst eA eB eF
  simp (disch:=first|omega|assumption|exact G0 (by assumption)|exact U10 (by assumption)|exact X0 (by omega)|fail) only[W0,Z0,Nat.reduceAdd,h7,Y12,hpt.g4,hput]
  have hk:∀ x,x≠nx+1->J0 (hs H14 (nx+1) (some (.cells [.slice (some ⟨bC,0,none⟩) n n,.slice AA m m,.slice AB m m] 0))) x=J0 H14 x:=fun x hx=>Z1 _ hx
  have hro:∀ {qs:List Nat} {b:Nat} {X:Nat->Rat},RO3 (D6 H14 qs) nx14 b n X->RSl (hs H14 (nx+1) (some (.cells [.slice (some ⟨bC,0,none⟩) n n,.slice AA m m,.slice AB m m] 0))) nx14 (some ⟨b,0,none⟩) n X:=fun h=>
   ((h.sub (fun x b _ hb=>N68 x b hb)).boxs hpt.g4 rfl).rsl
  have hxB:RX (hs H14 (nx+1) (some (.cells [.slice (some ⟨bC,0,none⟩) n n,.slice AA m m,.slice AB m m] 0))) nx14 cssB fun _=>1:=fun q c hc=>
   ((hpt.rxB q c hc).sub (fun x b _ hb=>N68 x b hb)).boxs hpt.g4 (U47 rfl) (.inl rfl)
  have haA:=(hpt.aA.same (H':=hs H14 (nx+1) (some (.cells [.slice (some ⟨bC,0,none⟩) n n,.slice AA m m,.slice AB m m] 0))) (Nat.le_refl _) fun b h1 _ _=>hk b (by omega)).sl
  have haB:=(hpt.aB.same (H':=hs H14 (nx+1) (some (.cells [.slice (some ⟨bC,0,none⟩) n n,.slice AA m m,.slice AB m m] 0))) (Nat.le_refl _) fun b h1 _ _=>hk b (by omega)).sl
  have haf:=(hpt.af.same (H':=hs H14 (nx+1) (some (.cells [.slice (some ⟨bC,0,none⟩) n n,.slice AA m m,.slice AB m m] 0))) (Nat.le_refl _) fun b h1 _ _=>hk b (by omega)).sl
  obtain⟨AA',eA',hAA'⟩:=haA
  obtain⟨AB',eB',hAB'⟩:=haB
  obtain⟨Af',eF',hAf'⟩:=haf
  cases eA';cases eB';cases eF'
  have hgmk:=(hk bm (by omega)).trans hpt.gm
  refine⟨⟨by have:=hpt.ext.le;omega,fun x hx=>(hk x (by omega)).trans (hpt.ext.get x hx)⟩,some ⟨bC,0,none⟩,AA,AB,some ⟨bm,0,none⟩,Af,n,m,m,n,m,slR n bs,fs,by rw[hlm,hpl],hAA',by rw[G75,hpt.lA,hpl],fun x hx => ?_,?_,by rw[hlm];exact hro hpt.roC,?_,hAf',by rw[hpt.lf,hpl],hfs⟩
  .rw[hpl] at hx
   have hbx:bs[x]? = some (bs[x]'(by have:=hpt.lA;omega)):=List.getElem?_eq_getElem _
   refine⟨_,_,by rw[hlm];exact G71 hbx,?_⟩
   rw[hlm]
   have:=hro (hpt.rows x _ hbx)
   obtain⟨cs,h1,h2,h3⟩:=this
   exact⟨cs,h1,h2,fun q c hc=>by simpa [sP] using h3 q c hc⟩
  .rw[hpl];exact⟨cssB,hAB',hpt.lB,hxB⟩
  .intro x u hu
   exact⟨bm,0,_,rfl,by have:=hpt.bmr;have:=hpt.rn;omega,by rw[Q5,hgmk];rfl,by rw[Nat.zero_add];exact hu⟩
 rw[if_pos (by simpa using hi),N13]
 simp only[List.getD_cons_zero,List.getD_cons_succ]
 have hei:es[i]? = some es[i]:=List.getElem?_eq_getElem hi
 generalize es[i]=e at hei
 have he:e<2^v:=hsm e (List.mem_of_getElem? hei)
 have he32:e<4294967296:=by omega
 obtain⟨bE,oE,rwE,rfl,hbE,hrwE,hgetE⟩:=hS.open (i:=0) (by rw[E1];omega)
 have hrw14:Q5 H14 bE=some rwE:=(hpt.ext.row hbE).trans hrwE
 have hge:=hgetE i _ (Q3 hei)
 have hpre:∀ K:Value->Prop,(M3 (.slice (some ⟨bE,oE,none⟩) es.length cap) (.int .i64 (i:Int)) none 1 fun t46=>J1 t46 none H14 fun t47=>D10 .and t47 (.int .u32 (set:Int)) fun t50=>K t50)=K (.int .u32 ((e &&& set:Nat):Int)):=by
  intro K
  have hi':(i:Int)<(es.length:Int):=by omega
  simp (disch:=first|omega|assumption|exact G0 (by assumption)|exact U10 (by assumption)|exact X0 (by omega)|fail) only[W0,X3 hrw14,hge]
 rw[hpre]
 have hp32':e &&& set<4294967296:=D52 he32
 have hjn:∀ rest:JK,(V4 (fun tj_40=>D10 .eql (.int .u32 ((e &&& set:Nat):Int)) (.int .u32 0) fun t52_42=>
   K3 false t52_42 (wLk (.int .u32) (.bool false) (.map (some nx4)) (.int .u32 ((e &&& set:Nat):Int)) false H14 fun t56_43=>tj_40 [t56_43] H14 nx14) (tj_40 [(.bool true)] H14 nx14)) rest) =
   rest [.bool (decide (e &&& set=0\/e &&& set ∈ D16 (es.take i) set))] H14 nx14:=by
  intro rest
  rw[N13,V44,Z27]
  by_cases h0:e &&& set=0
  .rw[if_pos (by simp[h0])];simp[h0]
  .rw[if_neg (by simpa using fun h=>h0 (by omega))]
   by_cases h1:e &&& set ∈ D16 (es.take i) set
   .rw[hpt.mp.lkS' (v := .bool true) (by simp[h1])];simp[h1]
   .rw[hpt.mp.lkN' (by simp[h1])];simp[h0,h1]
 rw[hjn]
 simp only[List.getD_cons_zero]
 rw[C46]
 have hpn:=K99 (set:=set) hei
 by_cases hsk:e &&& set=0\/e &&& set ∈ D16 (es.take i) set
 .rw[if_pos (by simpa using hsk)]
  have hadd:D16 (es.take (i+1)) set=D16 (es.take i) set:=by rw[hpn];unfold W77;rw[if_pos hsk]
  simp (disch:=first|omega|assumption|exact G0 (by assumption)|exact U10 (by assumption)|exact X0 (by omega)|fail) only[W0]
  exact hih2 (k2-1) _ _ _ (by omega) ⟨i+1,vA,vB,vf,m,bs,cssB,fs,by omega,by simp,by rw[hadd];exact hpl,by omega,fun f hf=>by have:=hfs f hf;omega,by rw[hadd];exact hpt,g140⟩
 rw[if_neg (by simpa using hsk)]
 have hadd:D16 (es.take (i+1)) set=D16 (es.take i) set++[e &&& set]:=by rw[hpn];unfold W77;rw[if_neg hsk]
 generalize hpart:e &&& set=part at *
 refine U99 hpt (by omega) ?_
 intro vf' H19 nx19 h19 g19
 rw[J35]
 have h19n:=h19.rn
 have h19b:=h19.bmr
 have h19l:=h19.le
 have hAh:=W75 h19.aA (d:=nx+2) (by omega)
 have hBh:=W75 h19.aB (d:=nx+2) (by omega)
 have hfh:=W75 h19.af (d:=nx+2) (by omega)
 refine B1 (m:=n) (fun k3 L H' nx'=>∃ (j:Nat) (vrow:Value) (css:List (List Value)),k3+j=n/\L=[vrow,.int .i64 (j:Int)]/\D0 H19 nx19 H' nx'/\Acc nx19 H' nx' 3 vrow j css.flatten/\css.length=j /\
   RX (D6 H' (R5 (nx+2) vrow :: [nx+2,nx4,R5 (nx+2) vA,R5 (nx+2) vB,R5 (nx+2) vf'])) nx' css (fun t=>if part.testBit ((V5 v set).getD t 0) then 1 else 0)) ?_
  ⟨0,.slice none 0 0,[],by omega,rfl,D0.refl _ _,Acc.nil _ _ _ _,rfl,fun q c hc=>by simp at hc⟩
 rintro k3 ih3 L3 H20 nx20 ⟨j,vrow,csr,hk3,rfl,hE20,haR,hlR,hxR⟩ hih3
 have hle20:=hE20.le
 show D10 .lss (.int .i64 (j:Int)) (.int .i64 (n:Int)) _
 rw[E45,C46]
 by_cases hj:j<n
 .rw[if_pos (by simpa using hj)]
  have hj':(j:Int)<(n:Int):=by omega
  obtain⟨w,hw⟩:∃ w,(V5 v set)[j]? = some w:=⟨(V5 v set)[j]'(by omega),List.getElem?_eq_getElem _⟩
  have hwD:(V5 v set).getD j 0=w:=by simp[List.getD_eq_getElem?_getD,hw]
  have hgw:(U4 ((V5 v set).map fun (w:Nat)=>(w:Int)))[j]? = some (.int .i64 (w:Int)):=by simp[U4,hw]
  have hgm20:=(hE20.get bm (by omega)).trans h19.gm
  have hpar:part<4294967296:=hp32'
  simp (disch:=first|omega|assumption|exact G0 (by assumption)|exact U10 (by assumption)|exact X0 (by omega)|fail) only[W0,Q0.val,hgm20,hgw,M103]
  have hRh:=W75 haR (d:=nx+2) (by omega)
  have hRl:=Z77 haR (d:=nx20+2) (by omega)
  refine X65 (qs:=R5 (nx+2) vrow :: [nx+2,nx4,R5 (nx+2) vA,R5 (nx+2) vB,R5 (nx+2) vf']) (by intro q hq;simp at hq;omega) (R73 (n:=((part >>> w%2:Nat):Int)) (by omega) (by omega) _ _) (fun _ _ _ h=>h.2) ?_
  rintro r1 H21 nx21 E0 ⟨hr,hE0⟩ hE21 hS21 _
  have hle21:=hE21.le
  obtain⟨c,rfl,hc⟩:=hr.num
  have hr21:=hr.sub hS21
  rw[V108] at hr21
  have hE22:D0 H21 nx21 (hs H21 nx21 (some (.cells c 0))) (nx21+1):=(D0.refl _ _).new _ (Nat.le_refl _) (by omega)
  have g22:J0 (hs H21 nx21 (some (.cells c 0))) nx21=some (.cells c 0):=Z11 _ _ _
  simp (disch:=first|omega|assumption|exact G0 (by assumption)|exact U10 (by assumption)|exact X0 (by omega)|fail) only[D87 hc]
  generalize hs H21 nx21 (some (.cells c 0))=H22 at *
  have hsrc:Src H22 3 (.slice (some ⟨nx21,0,none⟩) 1 1) 1 c:=J9 g22 (by rw[hc.three]) (by omega)
  refine E72 (d:=nx21+1) (by omega) ((haR.ext hE21).ext hE22) hsrc (by omega) hc.one (by omega) (by omega) ?_
  intro H23 g23 hk23
  have hR1:=Z77 haR (d:=nx21+1) (by omega)
  have hRo:=G81 haR (nx+2) (nx21+1)
  refine hih3 (k3-1) _ _ _ (by omega) ⟨j+1,.slice (some ⟨nx21+1,0,none⟩) (j+1) (j+1),csr++[c],by omega,by simp,⟨by omega,fun x hx => ?_⟩,X76 (by rw[N75,List.length_append,haR.1,hc.three];omega) (by omega) (by omega) (by rw[g23,N75]),by simp[hlR],?_⟩
  .rw[hk23 x (by omega) (by omega),hE22.get x (by omega),hE21.get x (by omega)];exact hE20.get x hx
  .show RX (D6 H23 ((nx21+1) :: _)) _ _ _
   have h21:=hxR.step (H':=H21) (nx':=nx21) (qs':=R5 (nx+2) vrow :: [nx+2,nx4,R5 (nx+2) vA,R5 (nx+2) vB,R5 (nx+2) vf']) (by omega) (fun x h1 _=>hE21.get x h1) (fun q hq => .inl hq)
   refine (h21.app hlR (by rw[hwD];exact hr21)).step (by omega) (fun x h1 h2 => ?_) (fun q hq=>by simp at hq ⊢;omega)
   simp at h2
   rw[hk23 x (by omega) (by omega),hE22.get x h1]
 obtain rfl:j=n:=by omega
 rw[if_neg (by simp)]
 simp only[List.getD_cons_zero]
 obtain⟨b,hvb,hb19,hb20,hgb⟩:∃ b,vrow = .slice (some ⟨b,0,none⟩) j j/\nx19<=b/\b<nx20/\J0 H20 b=some (.cells csr.flatten 3):=by
  rcases N29 haR (d:=nx) with ⟨_,h0,_⟩ | ⟨b,h1,_,h2,h3,h4⟩
  .omega
  .exact⟨b,h1,h2,h3,h4⟩
 subst hvb
 have hro:RO3 (D6 H20 [nx+2,nx4,R5 (nx+2) vA,R5 (nx+2) vB,R5 (nx+2) vf']) nx20 b j (fun t=>if part.testBit ((V5 v set).getD t 0) then 1 else 0):=
  ⟨csr,by rw[Q50 (by simp;omega)];exact hgb,hb20,hlR,hxR.sub (V74 (fun _ _ _=>rfl) (fun q hq => .inl (List.mem_cons_of_mem _ hq)))⟩
 refine C105 (h19.ext' hE20) (by omega) hro ?_
 intro vA' vB' cssB' H' nx' h' g'
 simp (disch:=first|omega|assumption|exact G0 (by assumption)|exact U10 (by assumption)|exact X0 (by omega)|fail) only[W0]
 have hM:(fun t=>if t=part then some (Value.bool true) else if t ∈ D16 (es.take i) set then some (.bool true) else none)=fun t=>if t ∈ D16 (es.take (i+1)) set then some (.bool true) else none:=by
  funext t
  rw[hadd]
  by_cases h1:t=part
  .simp[h1]
  .simp[h1]
 have hY:(fun k=>if k=m then (fun t=>if part.testBit ((V5 v set).getD t 0) then (1:Rat) else 0) else fun j=>if ((D16 (es.take i) set).getD k 0).testBit ((V5 v set).getD j 0) then (1:Rat) else 0) =
   fun r j=>if ((D16 (es.take (i+1)) set).getD r 0).testBit ((V5 v set).getD j 0) then (1:Rat) else 0:=by
  funext r t
  rw[hadd]
  by_cases h1:r=m
  .subst h1
   rw[if_pos rfl]
   have:(D16 (es.take i) set++[part]).getD r 0=part:=by
    rw[List.getD_eq_getElem?_getD,List.getElem?_append_right (by omega),hpl];simp
   rw[this]
  .rw[if_neg h1]
   have:(D16 (es.take i) set++[part]).getD r 0=(D16 (es.take i) set).getD r 0:=by
    rw[List.getD_eq_getElem?_getD,List.getD_eq_getElem?_getD]
    rcases Nat.lt_or_ge r m with g | g
    .rw[List.getElem?_append_left (by omega)]
    .rw[List.getElem?_eq_none (by simp;omega),List.getElem?_eq_none (by omega)]
   rw[this]
 rw[hM,hY] at h'
 exact hih2 (k2-1) _ _ _ (by omega) ⟨i+1,vA',vB',vf',m+1,bs++[b],cssB',fs++[i],by omega,by simp,by rw[hadd];simp[hpl],by omega,fun f hf=>by
  rcases List.mem_append.1 hf with h1 | h1
  .have:=hfs f h1;omega
  .simp at h1;omega,h',g'.trans ((hE20.get nx (by omega)).trans (g19.trans g140))⟩
end Go.Proofs.YtoiioigihocgbaaGreatDoor
namespace Go.Clo
theorem U92(set x:Nat):∀(es ps:List Nat),x ∈ ps->x ∈ es.foldl (W77 set) ps
 | [],ps,h=>h
 | e :: es,ps,h=>U92 set x es _ (by unfold W77;split<;>simp[h])
theorem M83(set e:Nat)(h0:e &&& set≠0):∀(es ps:List Nat),e ∈ es->e &&& set ∈ es.foldl (W77 set) ps
 | [],ps,h=>by simp at h
 | d :: es,ps,h=>by
  rw[dF];rcases aU.1 h with rfl | h
  .refine U92 set _ es _ ?_
   unfold W77
   by_cases h1:e &&& set ∈ ps
   .rw[if_pos (.inr h1)];exact h1
   .rw[if_neg (by simp[h0,h1])];simp
  .exact M83 set e h0 es _ h
theorem K102{es:List Nat}{set v:Nat}(hv:set.testBit v=true)(hc:∃ e ∈ es,e.testBit v=true):∃ r,r<(D16 es set).length/\((D16 es set).getD r 0).testBit v=true:=by
 obtain⟨e,he,hb⟩:=hc;have E:(e &&& set).testBit v=true:=by rw[bI,hb,hv];rfl
 have h0:e &&& set≠0:=by intro h;rw[h] at E;simp at E
 obtain⟨r,hr⟩:=cH (M83 set e h0 es [] he);refine⟨r,(aJ.1 hr).1,?_⟩;have:(D16 es set).getD r 0=e &&& set:=by rw[aP];unfold D16;rw[hr];rfl
 rw[this];exact E
theorem G83{es:List Nat}{N set:Nat}(E:∀ v,set.testBit v=true->∃ e ∈ es,e.testBit v=true){j:Nat}(hj:j<(V5 N set).length):∃ r,r<(D16 es set).length/\sP es N set r j=true:=by
 have hm:(V5 N set)[j]? = some (V5 N set)[j]:=aE hj;have hb:=(Q62.1 (aH hm)).2;obtain⟨r,hr,h⟩:=K102 hb (E _ hb);refine⟨r,hr,?_⟩;unfold sP;rw[show(V5 N set).getD j 0=(V5 N set)[j] by simp[aP,hm]];exact h
def D73(es:List Nat)(N set:Nat):Rat:=(Lp.tabK (V5 N set).length (D16 es set).length (sP es N set) (Lp.steps (V5 N set).length (D16 es set).length (sP es N set))).g ((V5 N set).length+(D16 es set).length+1)
def Z7(es:List Nat):Nat:=es.foldl (· ||| ·) 0
theorem U105{es:List Nat}{i e:Nat}(h:es[i]? = some e):Z7 (es.take (i+1))=Z7 (es.take i) ||| e:=by
 unfold Z7;rw[List.take_add_one,h];simp
theorem X37(v:Nat):∀(es:List Nat) (m:Nat),(es.foldl (· ||| ·) m).testBit v=(m.testBit v || es.any fun e=>e.testBit v)
 | [],m=>by simp
 | e :: es,m=>by rw[dF,X37 v es,aV,List.any_cons,Bool.or_assoc]
theorem V107(es:List Nat)(v:Nat):(Z7 es).testBit v=es.any fun e=>e.testBit v:=by unfold Z7;rw[X37];simp
theorem R58:∀(es:List Nat)(m:Nat),m<4294967296->(∀ e ∈ es,e<4294967296)->es.foldl (· ||| ·) m<4294967296
 | [],m,h,_=>h
 | e :: es,m,h,h2=>R58 es _ (M54 h (h2 e (by simp))) fun d hd=>h2 d (by simp[hd])
theorem V102{es:List Nat}(h:∀ e ∈ es,e<4294967296):Z7 es<4294967296:=R58 es 0 (by omega) h
theorem M34 {a b:Nat} (h:∀ v,a.testBit v=true->b.testBit v=true):Z2 a b=0:=by
 apply Nat.eq_of_testBit_eq
 intro v
 rw[N1,Nat.zero_testBit]
 cases ha:a.testBit v with
 | false=>rfl
 | true=>rw[h v ha];rfl
end Go.Clo
namespace Go.Proofs.YtoiioigihocgbaaGreatDoor
open Go.Clo
theorem J96{n:Nat}{A:Option Addr}{l c:Nat}(hn:n<=32)(H:Y0)(nx:Nat):Q2 Tryz.prog 107 [gv n A l c] H nx fun v H' nx'=>v = .int .u32 ((2^n-1:Nat):Int)/\D0 H nx H' nx':=by
 refine spec107 ?_;unfold F107;simp(disch:=first|omega|assumption)only[W0,Z0,Q0.val,M26 hn];exact(D0.refl _ _).new _ (aD _) (by omega)
theorem M91{n:Nat}(hn:n<=1000)(H:Y0)(nx:Nat):Q2 Tryz.prog 110 [.int .i64 (n:Int)] H nx fun v H' nx'=>v = .slice (some ⟨nx,0,none⟩) n n/\TC H' nx n/\nx<nx'/\D0 H nx H' nx':=by
 refine spec110 ?_;unfold F110;simp only[W1];rw[M27 (by omega),show [dU false,.slice none 0 0,.slice none 0 0]=Z29 from rfl,Z83];simp(disch:=first|omega|assumption)only[W0,Q0.val];have W:D0 H nx (hs H nx (some (.cells (aF n Z29).flatten 0))) (nx+1):=(D0.refl H nx).new _ (aD _) (by omega);refine B1 (m:=n) (fun m L H' nx'=>∃(i:Nat) (css:List (List Value)),m+i=n/\L=[.int .i64 (i:Int)]/\css.length=n/\(∀ d ∈ css,V7 d) /\
  J0 H' nx=some (.cells css.flatten 0)/\D0 H nx H' nx'/\nx<nx') ?_ ⟨0,aF n Z29,rfl,rfl,by simp,fun d hd=>by rw[(List.mem_replicate.1 hd).2];exact D106,Z11 _ _ _,W,by omega⟩
 rintro m ih L H1 V ⟨i,css,hm,rfl,J,E,hg,hE,U⟩ Z
 by_cases hi:i<n
 case neg=>
  have Q:¬ (i:Int)<(n:Int):=by omega
  simp(disch:=first|omega|assumption)only[W0,Q];exact⟨⟨css,hg,J,E⟩,U,hE⟩
 have Q:(i:Int)<(n:Int):=by omega
 simp(disch:=first|omega|assumption)only[W0,Q];refine R0 (R73 (n:=0) (by omega) (by omega) H1 V) ?_;rintro r H2 nx2 ⟨hr,O⟩;have a0:=(O.get nx U).trans hg;obtain⟨c,rfl,hc⟩:=hr.num;rw[cG i 3,R74 a0 E hc (by omega)];have a1:=O.le;exact Z (m-1) _ _ _ (by omega) ⟨i+1,css.set i c,by omega,by simp,by simp[J],J85 E hc,Z11 _ _ _,(hE.trans O).hs (aD _),by omega⟩
end Go.Proofs.YtoiioigihocgbaaGreatDoor
