/-
  Contracts: below,the Check of a graph (texts of chapter 30,by name).
  Contracts: bags,neighbors (texts of chapter 30,by name).
  Contract: cover.packing.
-/
import Derived.Test.YtpiobdofbhkmjaaDoorL21
import Derived.Test.YtpiobdofbhkmjaaDoorL15
import Derived.Test.YtpiobdofbhkmjaaDoorL16
import Derived.Test.YtpiobdofbhkmjaaDoorL33
set_option linter.unusedSimpArgs false
set_option linter.unusedVariables false
set_option linter.unusedSectionVars false
namespace Go.Proofs.YtpiobdofbhkmjaaDoor
open Go.Clo
variable {N:Int} {e i n:Nat} {es:List Nat}
def K63 (v:Value) (H:Y0) (nx:Nat):EP:=fun v' H' nx'=>v'=v/\H=H'/\nx=nx'
theorem V72 {n:Nat} (h:n<=32):IntKind.u32.wrap (IntKind.u64.wrap (IntKind.u64.wrap (1*2^min n 64)-1))=((2^n-1:Nat):Int):=by
 have h1:=M66 h
 have h2:=E64 n
 have e:(1*(2:Int)^min n 64)=((2^n:Nat):Int):=by
  have:min n 64=n:=by omega
  simp[this]
 rw[e]
 generalize 2^n=m at *
 simp only[IntKind.wrap,IntKind.signed,IntKind.bits]
 simp
 omega
theorem K41 {n:Nat} (hn:n<=32) (k:VP):(J0 .shl (.int .u64 1) (.int .i64 (n:Int)) fun t4=>J0 .sub t4 (.int .u64 1) fun t5=>M3 .u32 t5 k)=k (.int .u32 ((2^n-1:Nat):Int)):=by
 have h0:¬ (n:Int)<0:=by omega
 rw[C7]
 simp only[U12,M7,E20,cond_true,h0,if_false,Option.elim_some,E37,W17]
 rw[<- V72 hn];rfl
theorem C54 {n:Nat} (hn:n<=32) (H:Y0) (nx:Nat):J2 Tryd.prog 22 [.int .i64 (n:Int)] H nx (K63 (.int .u32 ((2^n-1:Nat):Int)) H nx):=by
 refine spec22 ?_
 unfold F22
 simp only[K41 hn,N7]
 exact⟨rfl,rfl,rfl⟩
theorem Y69 {n:Nat} (hn:n<=32) (H:Y0) (nx:Nat):J2 Tryd.prog 47 [.int .i64 (n:Int)] H nx (K63 (.int .u32 ((2^n-1:Nat):Int)) H nx):=by
 refine spec47 ?_
 unfold F47
 simp only[K41 hn,N7]
 exact⟨rfl,rfl,rfl⟩
abbrev gv (N:Int) (A:Option Addr) (len cap:Nat):Value := .agg ⟨[.int .i64 N,.slice A len cap]⟩
def R8 (N:Int) (es:List Nat):Int:=if N<0\/32<N then 3 else if 64<es.length then 12 else if ∃ e ∈ es,2^N.toNat<=e then 1 else 0
theorem Q25 (h:N<0\/32<N):R8 N es=3:=by simp[R8,h]
theorem D51 (h1:0<=N) (h2:N<=32) (h:64<es.length):R8 N es=12:=by
 have:¬ (N<0\/32<N):=by omega
 simp[R8,h,this]
theorem E56 (h1:n<=32) (h:es.length<=64) (he:es[i]? = some e) (hb:2^n<=e):R8 n es=1:=by
 have a1:¬ ((n:Int)<0\/32<(n:Int)):=by omega
 have a2:¬ 64<es.length:=by omega
 simp[R8,a1,a2]
 exact⟨e,List.mem_of_getElem? he,hb⟩
theorem W14 {n:Nat} {es:List Nat} (h1:n<=32) (h:es.length<=64) (hb:∀ (i e:Nat),es[i]? = some e->e<2^n):R8 n es=0:=by
 have a1:¬ ((n:Int)<0\/32<(n:Int)):=by omega
 have a2:¬ 64<es.length:=by omega
 simp[R8,a1,a2]
 intro e he
 obtain⟨i,hi,rfl⟩:=List.getElem_of_mem he
 exact hb i _ (List.getElem?_eq_getElem hi)
theorem G46 (he:e<4294967296):decide (M2 e (2^n-1)≠0)=decide (2^n<=e):=by
 congr 1
 apply propext
 constructor
 .intro h
  rcases Nat.lt_or_ge e (2^n) with g | g
  .exfalso;apply h
   apply Nat.eq_of_testBit_eq
   intro i
   rw[N3,Nat.testBit_two_pow_sub_one]
   by_cases hi:i<n
   .simp[hi]
   .rw[Nat.testBit_lt_two_pow (Nat.lt_of_lt_of_le g (Nat.pow_le_pow_right (n:=2) (by omega) (show n<=i by omega)))];simp
  .exact g
 .intro h h0
  obtain⟨i,hi,hb⟩:=Nat.exists_ge_and_testBit_of_ge_two_pow h
  have:=N3 e (2^n-1) i
  rw[h0,hb,Nat.testBit_two_pow_sub_one] at this
  have hni:¬ i<n:=by omega
  simp[hni] at this
def Y89 (f:FuncId):Prop:=∀ (N:Int) (A:Option Addr) (es:List Nat) (cap:Nat) (H:Y0) (nx:Nat),Sl H nx A (N1 es)->Z4 es ->
 J2 Tryd.prog f [gv N A es.length cap] H nx fun v H' nx'=>v = .int .i64 (R8 N es)/\D0 H nx H' nx'
theorem Y24:Y89 42:=by
 intro N A es cap H nx hS hsm
 refine spec42 ?_
 unfold F42
 have hE:D0 H nx (hs H nx (some (.cells [.int .i64 N,.slice A es.length cap] 0))) (nx+1):=(D0.refl H nx).new _ (Nat.le_refl _) (by omega)
 simp (disch:=first|omega|assumption) only[W0,Z0,B0.val]
 by_cases h1:N<0
 .simp (disch:=first|omega|assumption) only[W0,K3,h1]
  exact⟨by rw[Q25 (.inl h1)],hE⟩
 by_cases h2:32<N
 .simp (disch:=first|omega|assumption) only[W0,K3,h1,h2]
  exact⟨by rw[Q25 (.inr h2)],hE⟩
 obtain⟨n,rfl⟩:=Int.eq_ofNat_of_zero_le (show 0<=N by omega)
 simp (disch:=first|omega|assumption) only[W0,K3,h1,h2]
 by_cases h3:64<es.length
 .have h3':(64:Int)<(es.length:Int):=by omega
  simp (disch:=first|omega|assumption) only[W0,h3']
  exact⟨by rw[D51 (by omega) (by omega) h3],hE⟩
 have h3':¬ (64:Int)<(es.length:Int):=by omega
 simp (disch:=first|omega|assumption) only[W0,h3']
 refine E1 (m:=es.length) (fun m L H' nx'=>∃ i:Nat,m+i=es.length/\L=[.int .i64 (i:Int)]/\(∀ (j e:Nat),j<i->es[j]? = some e->e<2^n)/\_=H'/\nx+1=nx') ?_ ⟨0,rfl,rfl,fun j e h=>by omega,rfl,rfl⟩
 rintro m ih L _ _ ⟨i,hm,rfl,hst,rfl,rfl⟩ hih
 by_cases hi:i<es.length
 .obtain⟨e,he⟩:∃ e,es[i]? = some e:=⟨_,List.getElem?_eq_getElem hi⟩
  obtain⟨b,o,row,rfl,hb,hrow,hget⟩:=(hS.ext hE).open (i:=i) (by rw[G1];exact hi)
  have hlt:((i:Int)<(es.length:Int)):=by omega
  have he32:=hsm.get he
  simp (disch:=first|omega|assumption) only[W0,hlt,Y3 hrow,hget _ _ (G3 he)]
  refine K0 (Y69 (by omega) _ _) ?_
  rintro _ _ _ ⟨rfl,rfl,rfl⟩
  rw[E17 _ he32 (J1 (by omega))]
  simp (disch:=first|omega|assumption) only[W0,G46 he32]
  by_cases hbig:2^n<=e
  .simp (disch:=first|omega|assumption) only[W0,hbig]
   exact⟨by rw[E56 (by omega) (by omega) he hbig],hE⟩
  .simp (disch:=first|omega|assumption) only[W0,hbig]
   refine hih (m-1) _ _ _ (by omega) ⟨i+1,by omega,by simp,fun j e' hj he' => ?_,rfl,rfl⟩
   by_cases hji:j=i
   .subst hji;rw[he] at he';cases he';omega
   .exact hst j e' (by omega) he'
 .have hlt:¬ ((i:Int)<(es.length:Int)):=by omega
  simp (disch:=first|omega|assumption) only[W0,hlt]
  exact⟨by rw[W14 (by omega) (by omega) fun j e he=>hst j e (by have:j<es.length:=by { rcases Nat.lt_or_ge j es.length with g | g;exact g;rw[List.getElem?_eq_none g] at he;cases he };omega) he],hE⟩
theorem Q12 {α:Type} {l:List α} {a:α} (h:l[i]? = some a):i<l.length:=by
 rcases Nat.lt_or_ge i l.length with g | g
 .exact g
 .rw[List.getElem?_eq_none g] at h;cases h
theorem D72 (he:e<4294967296) (h:∀ v,n<=v->v<32->e.testBit v=false):e<2^n:=by
 rcases Nat.lt_or_ge e (2^n) with g | g
 .exact g
 .obtain⟨i,hi,hb⟩:=Nat.exists_ge_and_testBit_of_ge_two_pow g
  rw[h i hi (U88 he hb)] at hb;cases hb
theorem U78 {v:Nat} (hv:n<=v) (h:e.testBit v=true):2^n<=e:=by
 rcases Nat.lt_or_ge e (2^n) with g | g
 .rw[Nat.testBit_lt_two_pow (Nat.lt_of_lt_of_le g (Nat.pow_le_pow_right (n:=2) (by omega) hv))] at h;cases h
 .exact g
def V9 (N free:Int) (es:List Nat):Int:=if R8 N es≠0 then R8 N es else if free<0\/N<free then 3 else 0
theorem M45 (N free:Int) (A:Option Addr) (es:List Nat) (cap:Nat) (H:Y0) (nx:Nat) (hS:Sl H nx A (N1 es)) (hsm:Z4 es):
  J2 Tryd.prog 21 [gv N A es.length cap,.int .i64 free] H nx fun v H' nx'=>v = .int .i64 (V9 N free es)/\D0 H nx H' nx':=by
 refine spec21 ?_
 unfold F21
 have hE:D0 H nx (hs H nx (some (.cells [.int .i64 N,.slice A es.length cap] 0))) (nx+1):=(D0.refl H nx).new _ (Nat.le_refl _) (by omega)
 simp (disch:=first|omega|assumption) only[W0,Z0,B0.val,J3]
 refine K0 (Y24 N A es cap _ _ (hS.ext hE) hsm) ?_
 rintro _ H2 nx2 ⟨rfl,hE2⟩
 have hg:=hE2.get nx (by omega)
 rw[Q0] at hg
 simp (disch:=first|omega|assumption) only[W0,hg,K3]
 by_cases h0:R8 N es=0
 .by_cases h1:free<0
  .simp (disch:=first|omega|assumption) only[W0,h0,h1,ne_eq,not_true_eq_false]
   exact⟨by simp[V9,h0,h1],hE.trans hE2⟩
  .by_cases h2:N<free
   .simp (disch:=first|omega|assumption) only[W0,h0,h1,h2,ne_eq,not_true_eq_false]
    exact⟨by simp[V9,h0,h2],hE.trans hE2⟩
   .simp (disch:=first|omega|assumption) only[W0,h0,h1,h2,ne_eq,not_true_eq_false]
    exact⟨by simp[V9,h0,h1,h2],hE.trans hE2⟩
 .simp (disch:=first|omega|assumption) only[W0,h0,ne_eq,not_false_eq_true]
  exact⟨by simp[V9,h0],hE.trans hE2⟩
end Go.Proofs.YtpiobdofbhkmjaaDoor

namespace Go.Proofs.YtpiobdofbhkmjaaDoor
open Go.Clo
variable {es l:List Nat} {i n:Nat} {α:Type}
structure Bag where
 var:Int
 key:Nat
 par:Int
def B19 (b:Bag):List Value:=[.int .i64 b.var,.int .u32 (b.key:Int),.int .i64 b.par]
abbrev D93 (b:Bag):Value := .agg ⟨B19 b⟩
def M8 (bs:List Bag):List Value:=bs.flatMap B19
theorem Z42 (bs:List Bag):(M8 bs).length=bs.length*3:=by
 induction bs with
 | nil=>rfl
 | cons b bs ih=>simp[M8,B19] at ih ⊢;omega
theorem Z19:∀ {bs:List Bag} {i:Nat} {b:Bag},bs[i]? = some b->∀ j v,(B19 b)[j]? = some v->(M8 bs)[i*3+j]? = some v
 | [],i,b,h,_,_,_=>by simp at h
 | b0 :: bs,0,b,h,j,v,hv=>by
  simp at h;subst h
  have hj:=Q12 hv
  show (B19 b0++M8 bs)[0*3+j]? = some v
  rw[List.getElem?_append_left (by simpa using hj)];simpa using hv
 | b0 :: bs,i+1,b,h,j,v,hv=>by
  have:=Z19 (bs:=bs) (i:=i) (by simpa using h) j v hv
  show (B19 b0++M8 bs)[(i+1)*3+j]? = some v
  rw[List.getElem?_append_right (by simp[B19];omega)]
  have e:(i+1)*3+j-(B19 b0).length=i*3+j:=by simp[B19];omega
  rw[e];exact this
def E89 (bs:List Bag):Prop:=∀ b ∈ bs,b.key<4294967296
theorem E89.get {bs:List Bag} (h:E89 bs) {b:Bag} (hb:bs[i]? = some b):b.key<4294967296:=h b (List.mem_of_getElem? hb)
def X6 (b:Bag):Nat:=if b.var<0\/32<=b.var then b.key else b.key ||| 2^b.var.toNat
theorem Q33 (h:n<32):2^n<4294967296:=Nat.lt_of_lt_of_le (Nat.pow_lt_pow_right (by omega) h) (by decide)
theorem Y90 {b:Bag} (hk:b.key<4294967296) (H:Y0) (nx:Nat):J2 Tryd.prog 44 [D93 b] H nx fun r H' nx'=>r = .int .u32 (X6 b:Int)/\D0 H nx H' nx':=by
 obtain⟨var,key,par⟩:=b
 dsimp only at hk
 refine spec44 ?_
 unfold F44
 have hE:∀ m,nx+1<=m->D0 H nx (hs H nx (some (.cells [.int .i64 var,.int .u32 (key:Int),.int .i64 par] 0))) m:=fun m hm=>(D0.refl H nx).new _ (Nat.le_refl _) (by omega)
 simp only[D93,B19]
 by_cases h1:var<0
 .simp (disch:=first | omega | assumption | exact Y2 (by assumption) | exact Q1 (by assumption) | exact J1 (by omega) | fail) only[W0,Z0,B0.val,K3,h1]
  exact⟨by rw[X6,if_pos (.inl h1)],hE _ (by omega)⟩
 by_cases h2:32<=var
 .simp (disch:=first | omega | assumption | exact Y2 (by assumption) | exact Q1 (by assumption) | exact J1 (by omega) | fail) only[W0,Z0,B0.val,K3,h1,h2]
  exact⟨by rw[X6,if_pos (.inr h2)],hE _ (by omega)⟩
 obtain⟨p,rfl⟩:=Int.eq_ofNat_of_zero_le (show 0<=var by omega)
 have hp:=Q33 (show p<32 by omega)
 simp (disch:=first | omega | assumption | exact Y2 (by assumption) | exact Q1 (by assumption) | exact J1 (by omega) | fail) only[W0,Z0,B0.val,K3,h1,h2]
 exact⟨by rw[X6,if_neg (by dsimp only;omega)];rfl,hE _ (by omega)⟩
theorem M29 {l:List α} (h:¬ i<l.length):l.take i=l:=List.take_of_length_le (by omega)
theorem D42 {N free:Int} {es:List Nat} (h:V9 N free es=0):∃ n f:Nat,N=n/\free=f/\n<=32/\f<=n/\es.length<=64/\∀ e ∈ es,e<2^n:=by
 unfold V9 at h
 split at h
 .rename_i hg;exact absurd h hg
 .rename_i hg
  split at h
  .cases h
  .rename_i hf
   have hg:R8 N es=0:=Decidable.of_not_not hg
   unfold R8 at hg
   split at hg
   .cases hg
   .rename_i h1
    split at hg
    .cases hg
    .rename_i h2
     split at hg
     .cases hg
     .rename_i h3
      obtain⟨n,rfl⟩:=Int.eq_ofNat_of_zero_le (show 0<=N by omega)
      obtain⟨f,rfl⟩:=Int.eq_ofNat_of_zero_le (show 0<=free by omega)
      refine⟨n,f,rfl,rfl,by omega,by omega,by omega,fun e he => ?_⟩
      rcases Nat.lt_or_ge e (2^n) with g | g
      .exact g
      .exact absurd ⟨e,he,by simpa using g⟩ h3
def M15 (l:List Int) (f n:Nat):Prop:=l.length+f=n/\(∀ x ∈ l,(f:Int)<=x/\x<(n:Int))/\l.Nodup
theorem K9 {l:List α} {x:α} (h:l[i]? = some x):l.take (i+1)=l.take i++[x]:=by
 rw[List.take_add_one,h];rfl
theorem G28 {l:List α} {x:α} (h:l.Nodup) (hx:x ∉ l):(l++[x]).Nodup:=by
 rw[List.nodup_append]
 exact⟨h,by simp,fun a ha b hb=>by simp at hb;subst hb;intro e;subst e;exact hx ha⟩
def adj (es:List Nat) (a b:Nat):Bool:=decide (a≠b)&&es.any fun e=>e.testBit a&&e.testBit b
theorem G86 (es:List Nat) (a:Nat):adj es a a=false:=by simp[adj]
theorem Z50 (es:List Nat) (a b:Nat):adj es a b=adj es b a:=by
 unfold adj
 congr 1
 .simp[eq_comm]
 .congr 1;funext e;rw[Bool.and_comm]
def G4 (p:Nat->Bool):Nat->Nat
 | 0=>0
 | n+1=>if p n then G4 p n+2^n else G4 p n
theorem V22 (p:Nat->Bool):∀ n,G4 p n<2^n
 | 0=>by simp[G4]
 | n+1=>by
  have:=V22 p n
  have h2:2^(n+1)=2^n+2^n:=by rw[Nat.pow_succ];omega
  unfold G4
  split<;>omega
theorem X9 (p:Nat->Bool):∀ n i,(G4 p n).testBit i=(decide (i<n)&&p i)
 | 0,i=>by simp[G4]
 | n+1,i=>by
  have hlt:=V22 p n
  have ih:=X9 p n i
  unfold G4
  by_cases hp:p n=true
  .rw[if_pos hp,Nat.add_comm]
   by_cases hi:i=n
   .subst hi
    rw[Nat.testBit_two_pow_add_eq,Nat.testBit_lt_two_pow hlt];simp[hp]
   .rcases Nat.lt_or_gt_of_ne hi with h | h
    .rw[Nat.testBit_two_pow_add_gt h,ih];simp[h,Nat.lt_succ_of_lt h]
    .have h3:2^n+G4 p n<2^i:=by
      have:2^(n+1)<=2^i:=Nat.pow_le_pow_right (by omega) (by omega)
      have h2:2^(n+1)=2^n+2^n:=by rw[Nat.pow_succ];omega
      omega
     rw[Nat.testBit_lt_two_pow h3]
     have:¬ i<n+1:=by omega
     simp[this]
  .rw[if_neg hp,ih]
   by_cases hi:i=n
   .subst hi;simp[hp]
   .have:decide (i<n+1)=decide (i<n):=by congr 1;apply propext;omega
    rw[this]
def E8 (f:Nat):Nat->List Int
 | 0=>[]
 | i+1=>E8 f i++[((f:Int)-1-i)]
theorem D17 (f:Nat):∀ i,(E8 f i).length=i
 | 0=>rfl
 | i+1=>by simp[E8,D17 f i]
theorem E34 (a b:List Int):R3 (a++b)=R3 a++R3 b:=by simp[R3]
theorem Y44:[Value.int .u32 0,.int .u32 0,.int .u32 0,.int .u32 0,.int .u32 0,.int .u32 0,.int .u32 0,.int .u32 0,.int .u32 0,.int .u32 0,.int .u32 0,.int .u32 0,.int .u32 0,.int .u32 0,.int .u32 0,.int .u32 0,.int .u32 0,.int .u32 0,.int .u32 0,.int .u32 0,.int .u32 0,.int .u32 0,.int .u32 0,.int .u32 0,.int .u32 0,.int .u32 0,.int .u32 0,.int .u32 0,.int .u32 0,.int .u32 0,.int .u32 0,.int .u32 0]=N1 (List.replicate 32 0):=rfl
theorem Y50 (h:l.length=32) (k:VP):N9 (N1 l) 0 (some 32) k=k (.agg ⟨N1 l⟩):=by
 rw[D16]
 have:(N1 l).length=32:=by rw[G1];exact h
 simp[<- this]
theorem Q14:∀ l:List Nat,Z0 (N1 l)=true
 | []=>rfl
 | x :: l=>Q14 l
def E55 (v m e:Nat):Nat:=if e.testBit v then m ||| M2 e (2^v) else m
def K17 (es:List Nat) (v:Nat):Nat:=es.foldl (E55 v) 0
theorem X58 {e v:Nat} (h:es[i]? = some e):K17 (es.take (i+1)) v=E55 v (K17 (es.take i) v) e:=by
 unfold K17;rw[K9 h,List.foldl_append];rfl
theorem E62 (v w:Nat):∀ (es:List Nat) (m:Nat),(es.foldl (E55 v) m).testBit w=(m.testBit w || es.any fun e=>e.testBit v&&(e.testBit w&&decide (w≠v)))
 | [],m=>by simp
 | e :: es,m=>by
  rw[List.foldl_cons,E62 v w es,List.any_cons,<- Bool.or_assoc]
  congr 1
  unfold E55
  split
  .rename_i h
   rw[Nat.testBit_or,N3,Nat.testBit_two_pow,h]
   have:decide (v=w)=decide (w=v):=by congr 1;apply propext;exact eq_comm
   rw[this]
   simp
  .rename_i h
   simp at h;simp[h]
theorem W85 (es:List Nat) (v w:Nat):(K17 es v).testBit w=adj es v w:=by
 unfold K17
 rw[E62,Nat.zero_testBit,Bool.false_or]
 unfold adj
 by_cases h:v=w
 .subst h;simp
 .have h':w≠v:=fun e=>h e.symm
  simp[h,h']
theorem U71 {es:List Nat} {n:Nat} (h:∀ e ∈ es,e<2^n) (v:Nat):K17 es v=G4 (adj es v) n:=by
 apply Nat.eq_of_testBit_eq
 intro w
 rw[W85,X9]
 by_cases hw:w<n
 .simp[hw]
 .simp only[hw,decide_false,Bool.false_and]
  unfold adj
  rw[Bool.eq_false_iff]
  intro hc
  simp only[Bool.and_eq_true,List.any_eq_true] at hc
  obtain⟨_,e,he,_,hb⟩:=hc
  rw[Nat.testBit_lt_two_pow (Nat.lt_of_lt_of_le (h e he) (Nat.pow_le_pow_right (by omega) (by omega)))] at hb
  cases hb
theorem Q93 {es:List Nat} (h:Z4 es) (v:Nat):K17 es v<4294967296:=by
 rw[U71 (n:=32) (fun e he=>h e he) v]
 exact V22 _ 32
theorem W76 {es:List Nat} (h:Z4 es) (i:Nat):Z4 (es.take i):=fun e he=>h e (List.mem_of_mem_take he)
def E4 (es:List Nat) (n:Nat):List Nat:=(List.range 32).map fun v=>if v<n then G4 (adj es v) n else 0
theorem N57 (es:List Nat) {n v:Nat} (hn:n<=32) (hv:v<n):(E4 es n)[v]? = some (G4 (adj es v) n):=by
 have:v<32:=by omega
 simp[E4,hv,this]
theorem Y54 {l':List Nat} (h:l.length=32) (h':l'.length=32) (hg:∀ v,v<32->l[v]? = l'[v]?):l=l':=by
 apply List.ext_getElem?
 intro v
 by_cases hv:v<32
 .exact hg v hv
 .rw[List.getElem?_eq_none (by omega),List.getElem?_eq_none (by omega)]
theorem B16 (es:List Nat) (n:Nat):(E4 es n).length=32:=by simp[E4]
theorem B89 {n:Nat} (hn:n<=32) (A:Option Addr) (es:List Nat) (cap:Nat) (H:Y0) (nx:Nat) (hS:Sl H nx A (N1 es)) (hsm:∀ e ∈ es,e<2^n) (hle:es.length<=64):
  J2 Tryd.prog 46 [gv n A es.length cap] H nx fun r H' nx'=>r = .agg ⟨N1 (E4 es n)⟩/\D0 H nx H' nx':=by
 have hsm32:Z4 es:=fun e he=>Nat.lt_of_lt_of_le (hsm e he) (Nat.le_trans (Nat.pow_le_pow_right (by omega) hn) (by decide))
 refine spec46 ?_
 unfold F46
 simp (disch:=first | omega | assumption | exact Y2 (by assumption) | exact Q1 (by assumption) | exact J1 (by omega) | fail) only[W0,Z0,B0.val,Y44]
 generalize hK:hs (hs (hs H nx (some (.cells [.int .i64 n,.slice A es.length cap] 0))) (nx+1) (some (.cells (N1 (List.replicate 32 0)) 0))) (nx+1+1) (some (.cells (N1 (List.replicate 32 0)) 0))=K
 have kG:X0 K nx=some (.cells [.int .i64 n,.slice A es.length cap] 0):=by rw[<- hK,M0 _ (by omega),M0 _ (by omega),Q0]
 have kR:X0 K (nx+1)=some (.cells (N1 (List.replicate 32 0)) 0):=by rw[<- hK,M0 _ (by omega),Q0]
 have kA:X0 K (nx+1+1)=some (.cells (N1 (List.replicate 32 0)) 0):=by rw[<- hK,Q0]
 have hEK:D0 H nx K (nx+3):=by
  rw[<- hK];exact ((((D0.refl H nx).new _ (by omega) (by omega):D0 H nx _ (nx+1)).new _ (by omega) (by omega):D0 H nx _ (nx+1+1)).new _ (by omega) (by omega))
 refine E1 (m:=es.length) (fun m L H' nx'=>∃ (i:Nat) (l:List Nat),m+i=es.length/\L=[.int .i64 (i:Int)]/\l.length=32/\(∀ v,v<32->l[v]? = some (if v<n then K17 (es.take i) v else 0)) /\
  X0 H' (nx+1+1)=some (.cells (N1 l) 0)/\D0 K (nx+2) H' nx'/\nx+3<=nx') ?_ ⟨0,List.replicate 32 0,rfl,rfl,by simp,fun v hv=>by rw[List.getElem?_replicate,if_pos hv];simp[K17],kA,D0.self (by omega),Nat.le_refl _⟩
 rintro m ih L H2 nx2 ⟨i,l,hm,rfl,hl,hval,hg,hE2,hnx2⟩ hih
 have g2:=(hE2.get nx (by omega)).trans kG
 have r2:=(hE2.get (nx+1) (by omega)).trans kR
 have hEE2:D0 H nx H2 nx2:=⟨by omega,fun q hq=>(hE2.get q (by omega)).trans (hEK.get q hq)⟩
 simp (disch:=first | omega | assumption | exact Y2 (by assumption) | exact Q1 (by assumption) | exact J1 (by omega) | fail) only[W0]
 by_cases hi:i<es.length
 case neg=>
  have hi':¬ (i:Int)<(es.length:Int):=by omega
  have hll:l=E4 es n:=by
   refine Y54 hl (B16 es n) fun v hv => ?_
   rw[hval v hv,M29 hi]
   simp only[E4,List.getElem?_map,List.getElem?_range hv,Option.map_some]
   split
   .rw[U71 hsm]
   .rfl
  subst hll
  have e1:(N1 (E4 es n)).length=32:=by rw[G1];exact hl
  have e2:(N1 (List.replicate 32 0)).length=32:=by rw[G1];simp
  have e3:=Z5 (c:=N1 (List.replicate 32 0)) (vs:=N1 (E4 es n)) (by rw[e1,e2])
  have e4:=Q14 (E4 es n)
  simp (disch:=first | omega | assumption | exact Y2 (by assumption) | exact Q1 (by assumption) | exact J1 (by omega) | fail) only[W0,hi',hg,Y50 hl,e1,e2,e4,r2,e3]
  exact hEE2.hs (by omega)
 have hi':(i:Int)<(es.length:Int):=by omega
 obtain⟨e,he⟩:∃ e,es[i]? = some e:=⟨_,List.getElem?_eq_getElem hi⟩
 obtain⟨A,oA,G17,rfl,hAn,hrowA,hgetA⟩:=(hS.ext hEE2).open (i:=i) (by rw[G1];omega)
 have he32:=hsm32.get he
 have g0:=hgetA _ _ (G3 he)
 simp (disch:=first | omega | assumption | exact Y2 (by assumption) | exact Q1 (by assumption) | exact J1 (by omega) | fail) only[W0,hi',Y3 hrowA,g0,g2]
 refine E1 (m:=n) (fun m L H' nx'=>∃ (j:Nat) (l:List Nat),m+j=n/\L=[.int .i64 (j:Int)]/\l.length=32/\(∀ v,v<32->l[v]? = some (if v<n then (if v<j then K17 (es.take (i+1)) v else K17 (es.take i) v) else 0)) /\
  X0 H' (nx+1+1)=some (.cells (N1 l) 0)/\D0 K (nx+2) H' nx'/\nx+3<=nx') ?_ ⟨0,l,rfl,rfl,hl,fun v hv=>by rw[hval v hv];simp,hg,hE2,hnx2⟩
 rintro m3 ih3 L3 H3 nx3 ⟨j,l3,hm3,rfl,hl3,hval3,hg3,hE3,hnx3⟩ hih3
 simp (disch:=first | omega | assumption | exact Y2 (by assumption) | exact Q1 (by assumption) | exact J1 (by omega) | fail) only[W0]
 by_cases hj:j<n
 case neg=>
  have hj':¬ (j:Int)<(n:Int):=by omega
  simp (disch:=first | omega | assumption | exact Y2 (by assumption) | exact Q1 (by assumption) | exact J1 (by omega) | fail) only[W0,hj']
  refine hih (m-1) _ _ _ (by omega) ⟨i+1,l3,by omega,by simp,hl3,fun v hv => ?_,hg3,hE3,hnx3⟩
  rw[hval3 v hv]
  by_cases hvn:v<n
  .rw[if_pos hvn,if_pos hvn,if_pos (by omega)]
  .rw[if_neg hvn,if_neg hvn]
 have hj':(j:Int)<(n:Int):=by omega
 have hcur:l3[j]? = some (K17 (es.take i) j):=by rw[hval3 j (by omega),if_pos hj,if_neg (by omega)]
 have hacc:=Q93 (W76 hsm32 i) j
 have hp:2^j<4294967296:=Q33 (by omega)
 have step:∀ x,x=K17 (es.take (i+1)) j->∀ v,v<32->(l3.set j x)[v]? = some (if v<n then (if v<j+1 then K17 (es.take (i+1)) v else K17 (es.take i) v) else 0):=by
  intro x hx v hv
  rw[List.getElem?_set]
  by_cases hvj:j=v
  .subst hvj;rw[if_pos rfl,if_pos (by omega),if_pos hj,if_pos (by omega),hx]
  .rw[if_neg hvj,hval3 v hv]
   by_cases hvn:v<n
   .rw[if_pos hvn,if_pos hvn]
    by_cases hlt:v<j
    .rw[if_pos hlt,if_pos (by omega)]
    .rw[if_neg hlt,if_neg (by omega)]
   .rw[if_neg hvn,if_neg hvn]
 cases hb:e.testBit j with
 | false=>
  have hsame:l3.set j (K17 (es.take i) j)=l3:=by
   apply List.ext_getElem?
   intro v
   rw[List.getElem?_set]
   split
   .rename_i h;subst h;rw[if_pos (by omega),hcur]
   .rfl
  have hx:=step (K17 (es.take i) j) (by rw[X58 he,E55,if_neg (by simp[hb])])
  rw[hsame] at hx
  simp (disch:=first | omega | assumption | exact Y2 (by assumption) | exact Q1 (by assumption) | exact J1 (by omega) | fail) only[W0,hj',K3]
  exact hih3 (m3-1) _ _ _ (by omega) ⟨j+1,l3,by omega,by simp,hl3,hx,hg3,hE3,hnx3⟩
 | true=>
  have hnd:M2 e (2^j)<4294967296:=Q1 he32
  have hjl:j<l3.length:=by omega
  have hx:=step (K17 (es.take i) j ||| M2 e (2^j)) (by rw[X58 he,E55,if_pos hb])
  have gc:=G3 hcur
  have hlen3:(N1 l3).length=32:=by rw[G1];exact hl3
  simp (disch:=first | omega | assumption | exact Y2 (by assumption) | exact Q1 (by assumption) | exact J1 (by omega) | fail) only[W0,Nat.reduceLeDiff,hj',K3,hg3,gc,Z7 hjl,hlen3]
  refine⟨by omega,hih3 (m3-1) _ _ _ (by omega) ⟨j+1,l3.set j (K17 (es.take i) j ||| M2 e (2^j)),by omega,by simp,by rw[List.length_set];exact hl3,hx,by rw[Q0],(hE3.hs (by omega)).more (by omega),by omega⟩⟩
theorem Q80 {c:List Value} {i:Nat} {x:Value} (h:c[i]? = some x) (hi:i<n) (k:VP):W89 (.agg ⟨c⟩) (.int .i64 (i:Int)) n 1 false k=k x:=by
 show cond (Nat.blt i n) (N34 c (i*1) none False k) False=k x
 have:Nat.blt i n=true:=by simp[Nat.blt_eq];omega
 rw[this,Nat.mul_one]
 show X47 c i False k=k x
 rw[X20,h];rfl
theorem Q95 {n v:Nat} (hn:n<=32) (hv:v<n) (A:Option Addr) (es:List Nat) (cap:Nat) (H:Y0) (nx:Nat) (hS:Sl H nx A (N1 es)) (hsm:∀ e ∈ es,e<2^n) (hle:es.length<=64) (hg:R8 n es=0):
  J2 Tryd.prog 48 [gv n A es.length cap,.int .i64 (v:Int)] H nx fun r H' nx'=>r = .int .u32 ((G4 (adj es v) n:Nat):Int)/\D0 H nx H' nx':=by
 have hsm32:Z4 es:=fun e he=>Nat.lt_of_lt_of_le (hsm e he) (Nat.le_trans (Nat.pow_le_pow_right (by omega) hn) (by decide))
 refine spec48 ?_
 unfold F48
 have hE1:D0 H nx (hs H nx (some (.cells [.int .i64 n,.slice A es.length cap] 0))) (nx+1):=(D0.refl H nx).new _ (Nat.le_refl _) (by omega)
 simp (disch:=first | omega | assumption | exact Y2 (by assumption) | exact Q1 (by assumption) | exact J1 (by omega) | fail) only[W0,Z0,B0.val,J3,K3]
 refine K0 (Y24 n A es cap _ _ (hS.ext hE1) hsm32) ?_
 rintro _ H2 nx2 ⟨rfl,hE2⟩
 have hg2:=hE2.get nx (by omega)
 rw[Q0] at hg2
 have d1:decide (R8 n es≠0)=false:=by simp[hg]
 have h1:¬ (v:Int)<0:=by omega
 have h2:¬ (v:Int) ≥ (n:Int):=by omega
 simp (disch:=first | omega | assumption | exact Y2 (by assumption) | exact Q1 (by assumption) | exact J1 (by omega) | fail) only[W0,d1,h1,h2,hg2,J3]
 refine K0 (B89 hn A es cap _ _ (hS.ext (hE1.trans hE2)) hsm hle) ?_
 rintro _ H3 nx3 ⟨rfl,hE3⟩
 rw[Q80 (G3 (N57 es hn hv)) (by omega)]
 simp (disch:=first | omega | assumption | exact Y2 (by assumption) | exact Q1 (by assumption) | exact J1 (by omega) | fail) only[W0]
 exact (hE1.trans hE2).trans hE3
theorem V89 {n:Nat} (hn:n<=32) (A:Option Addr) (es:List Nat) (cap:Nat) (H:Y0) (nx:Nat) (hS:Sl H nx A (N1 es)) (hsm:∀ e ∈ es,e<2^n) (hle:es.length<=64) (hgc:R8 n es=0):
  J2 Tryd.prog 26 [gv n A es.length cap] H nx fun r H' nx'=>r = .agg ⟨N1 (E4 es n)⟩/\D0 H nx H' nx':=by
 refine spec26 ?_
 unfold F26
 simp (disch:=first | omega | assumption | exact Y2 (by assumption) | exact Q1 (by assumption) | exact J1 (by omega) | fail) only[W0,Z0,B0.val,Y44]
 generalize hK:hs (hs (hs H nx (some (.cells [.int .i64 n,.slice A es.length cap] 0))) (nx+1) (some (.cells (N1 (List.replicate 32 0)) 0))) (nx+1+1) (some (.cells (N1 (List.replicate 32 0)) 0))=K
 have kG:X0 K nx=some (.cells [.int .i64 n,.slice A es.length cap] 0):=by rw[<- hK,M0 _ (by omega),M0 _ (by omega),Q0]
 have kR:X0 K (nx+1)=some (.cells (N1 (List.replicate 32 0)) 0):=by rw[<- hK,M0 _ (by omega),Q0]
 have kA:X0 K (nx+1+1)=some (.cells (N1 (List.replicate 32 0)) 0):=by rw[<- hK,Q0]
 have hEK:D0 H nx K (nx+3):=by
  rw[<- hK];exact ((((D0.refl H nx).new _ (by omega) (by omega):D0 H nx _ (nx+1)).new _ (by omega) (by omega):D0 H nx _ (nx+1+1)).new _ (by omega) (by omega))
 refine E1 (m:=n) (fun m L H' nx'=>∃ (i:Nat) (l:List Nat),m+i=n/\L=[.int .i64 (i:Int)]/\l.length=32/\(∀ v,v<32->l[v]? = some (if v<i then G4 (adj es v) n else 0)) /\
  X0 H' (nx+1+1)=some (.cells (N1 l) 0)/\D0 K (nx+2) H' nx'/\nx+3<=nx') ?_ ⟨0,List.replicate 32 0,rfl,rfl,by simp,fun v hv=>by rw[List.getElem?_replicate,if_pos hv];simp,kA,D0.self (by omega),Nat.le_refl _⟩
 rintro m ih L H2 nx2 ⟨i,l,hm,rfl,hl,hval,hg,hE2,hnx2⟩ hih
 have g2:=(hE2.get nx (by omega)).trans kG
 have r2:=(hE2.get (nx+1) (by omega)).trans kR
 have hEE2:D0 H nx H2 nx2:=⟨by omega,fun q hq=>(hE2.get q (by omega)).trans (hEK.get q hq)⟩
 simp (disch:=first | omega | assumption | exact Y2 (by assumption) | exact Q1 (by assumption) | exact J1 (by omega) | fail) only[W0]
 by_cases hi:i<n
 case neg=>
  have hi':¬ (i:Int)<(n:Int):=by omega
  have hin:i=n:=by omega
  subst hin
  have hll:l=E4 es i:=by
   refine Y54 hl (B16 es i) fun v hv => ?_
   rw[hval v hv]
   simp[E4,hv]
  subst hll
  have e1:(N1 (E4 es i)).length=32:=by rw[G1];exact hl
  have e2:(N1 (List.replicate 32 0)).length=32:=by rw[G1];simp
  have e3:=Z5 (c:=N1 (List.replicate 32 0)) (vs:=N1 (E4 es i)) (by rw[e1,e2])
  have e4:=Q14 (E4 es i)
  simp (disch:=first | omega | assumption | exact Y2 (by assumption) | exact Q1 (by assumption) | exact J1 (by omega) | fail) only[W0,hi',hg,Y50 hl,e1,e2,e4,r2,e3]
  exact hEE2.hs (by omega)
 have hi':(i:Int)<(n:Int):=by omega
 simp (disch:=first | omega | assumption | exact Y2 (by assumption) | exact Q1 (by assumption) | exact J1 (by omega) | fail) only[W0,hi',g2,J3]
 refine K0 (Q95 hn hi A es cap _ _ (hS.ext hEE2) hsm hle hgc) ?_
 rintro _ H3 nx3 ⟨rfl,hE3⟩
 have hg3:=(hE3.get (nx+1+1) (by omega)).trans hg
 have hnx3:=hE3.le
 have hjl:i<l.length:=by omega
 have hlen3:(N1 l).length=32:=by rw[G1];exact hl
 simp (disch:=first | omega | assumption | exact Y2 (by assumption) | exact Q1 (by assumption) | exact J1 (by omega) | fail) only[W0,Nat.reduceLeDiff,hg3,Z7 hjl,hlen3]
 refine⟨by omega,hih (m-1) _ _ _ (by omega) ⟨i+1,l.set i (G4 (adj es i) n),by omega,by simp,by rw[List.length_set];exact hl,fun v hv => ?_,by rw[Q0],((hE2.trans (hE3.less (by omega))).hs (by omega)),by omega⟩⟩
 rw[List.getElem?_set]
 by_cases hvj:i=v
 .subst hvj;rw[if_pos rfl,if_pos (by omega),if_pos (by omega)]
 .rw[if_neg hvj,hval v hv]
  by_cases hlt:v<i
  .rw[if_pos hlt,if_pos (by omega)]
  .rw[if_neg hlt,if_neg (by omega)]
end Go.Proofs.YtpiobdofbhkmjaaDoor

namespace Go.Clo
variable {H H':Y0} {b d lo n nx nx' set size:Nat} {c:List Value} {css:List (List Value)} {qs:List Nat} {v:Value}
def Y4 (N set:Nat):List Nat:=(List.range N).filter fun v=>set.testBit v
theorem M32 (v set:Nat):Y4 (v+1) set=if set.testBit v then Y4 v set++[v] else Y4 v set:=by
 unfold Y4
 rw[List.range_succ,List.filter_append]
 cases h:set.testBit v<;>simp[h]
theorem G31 {N v:Nat}:v ∈ Y4 N set<->v<N/\set.testBit v=true:=by simp[Y4]
theorem E15 (N set:Nat):(Y4 N set).length<=N:=Nat.le_trans (List.length_filter_le _ _) (by simp)
def W23 (set:Nat) (ps:List Nat) (e:Nat):List Nat:=if e &&& set=0\/e &&& set ∈ ps then ps else ps++[e &&& set]
def Q4 (es:List Nat) (set:Nat):List Nat:=es.foldl (W23 set) []
theorem J73 {es:List Nat} {i e:Nat} (h:es[i]? = some e):Q4 (es.take (i+1)) set=W23 set (Q4 (es.take i) set) e:=by
 unfold Q4;rw[List.take_add_one,h];simp
theorem D33 (set:Nat):∀ (es ps:List Nat),(es.foldl (W23 set) ps).length<=ps.length+es.length
 | [],ps=>by simp
 | e :: es,ps=>by
  have:=D33 set es (W23 set ps e)
  have h2:(W23 set ps e).length<=ps.length+1:=by unfold W23;split<;>simp
  simp only[List.foldl_cons,List.length_cons];omega
def sP (es:List Nat) (N set r j:Nat):Bool:=((Q4 es set).getD r 0).testBit ((Y4 N set).getD j 0)
theorem RX.step {X:Nat->Rat} {qs':List Nat} (h:RX (U8 H qs) nx css X) (hle:nx<=nx') (hs:∀ i,i<nx->i ∉ qs->X0 H' i=X0 H i) (hq:∀ q ∈ qs',q ∈ qs\/nx<=q):RX (U8 H' qs') nx' css X:=
 (h.sub (R13 hs hq)).ext (D0.self hle)
theorem RR.step {x:Rat} {qs':List Nat} (h:RR (U8 H qs) nx v x) (hle:nx<=nx') (hs:∀ i,i<nx->i ∉ qs->X0 H' i=X0 H i) (hq:∀ q ∈ qs',q ∈ qs\/nx<=q):RR (U8 H' qs') nx' v x:=
 (h.sub (R13 hs hq)).ext (D0.self hle)
def RO3 (H:Y0) (nx b n:Nat) (X:Nat->Rat):Prop:=∃ css:List (List Value),X0 H b=some (.cells css.flatten 3)/\b<nx/\css.length=n/\RX H nx css X
theorem RO3.sub {H:Y0} {nx b n:Nat} {X:Nat->Rat} {H':Y0} (h:RO3 H nx b n X) (e:Sub H nx H'):RO3 H' nx b n X:=by
 obtain⟨css,hg,hb,hl,hx⟩:=h
 exact⟨css,e b _ hb hg,hb,hl,hx.sub e⟩
theorem RO3.more {H:Y0} {nx b n:Nat} {X:Nat->Rat} {nx':Nat} (h:RO3 H nx b n X) (e:nx<=nx'):RO3 H nx' b n X:=by
 obtain⟨css,hg,hb,hl,hx⟩:=h
 exact⟨css,hg,by omega,hl,hx.ext (D0.self e)⟩
theorem RO3.step {X:Nat->Rat} {qs':List Nat} (h:RO3 (U8 H qs) nx b n X) (hle:nx<=nx') (hs:∀ i,i<nx->i ∉ qs->X0 H' i=X0 H i) (hq:∀ q ∈ qs',q ∈ qs\/nx<=q):RO3 (U8 H' qs') nx' b n X:=
 (h.sub (R13 hs hq)).more hle
theorem RO3.rsl {X:Nat->Rat} (h:RO3 H nx b n X):RSl H nx (some ⟨b,0,none⟩) n X:=by
 obtain⟨css,hg,hb,hl,hx⟩:=h
 exact⟨css,fun i v hv=>⟨b,0,css.flatten,rfl,hb,by rw[V3,hg];rfl,by rw[Nat.zero_add];exact hv⟩,hl,hx⟩
theorem RX.app {X:Nat->Rat} (h:RX H nx css X) (hl:css.length=n) (hc:RR H nx (.agg ⟨c⟩) (X n)):RX H nx (css++[c]) X:=by
 intro q d hq
 rw[List.getElem?_append] at hq
 split at hq
 .exact h q d hq
 .rename_i hn
  have h1:=(List.getElem?_eq_some_iff.1 hq).1
  simp at h1
  have:q=n:=by omega
  subst this
  rw[show q-css.length=0 by omega] at hq
  simp at hq
  rw[<- hq];exact hc
theorem Z26 (h:Q6 lo H nx size v n c) (hd:lo<=d):lo<=R4 d v:=by
 rcases W8 h (d:=d) with ⟨_,_,e⟩ | ⟨b,_,e,h1,h2,_⟩<;>omega
theorem K36 {lo:Nat} {nx size:Nat} {n:Nat} (h:Q6 lo H nx size v n c) (d d':Nat):R4 d' v=R4 d v\/R4 d' v=d':=by
 rcases W8 h (d:=d) with ⟨hv,_,e⟩ | ⟨b,hv,e,h1,h2,_⟩
 .right;rw[hv];rfl
 .left;rw[e,hv];rfl
theorem B20 (h:Q6 lo H nx size v n c) (hd:d<nx):R4 d v<nx:=by
 rcases W8 h (d:=d) with ⟨_,_,e⟩ | ⟨b,_,e,h1,h2,_⟩<;>omega
theorem X22 (hl:c.length=n*size) (h1:lo<=b) (h2:b<nx) (hg:X0 H b=some (.cells c size)):Q6 lo H nx size (.slice (some ⟨b,0,none⟩) n n) n c:=⟨hl,.inr ⟨b,h1,h2,rfl,hg⟩⟩
end Go.Clo
