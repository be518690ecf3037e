/-
  Plain: what the reference accepts;contracts: the reference's search,Accepted.
  Contracts: the reference's Renamed,Inversions.
  Contracts: the reference's nearest,Nearest.
-/
import Derived.Test.YtoiioigihocgbaaGreatDoorN25
import Derived.Test.YtoiioigihocgbaaGreatDoorN17
import Derived.Test.YtoiioigihocgbaaGreatDoorN20
import Derived.Test.YtoiioigihocgbaaGreatDoorN16
import Derived.Test.YtoiioigihocgbaaGreatDoorN21
set_option linter.all false
noncomputable section
namespace Go.Proofs.YtoiioigihocgbaaGreatDoor
open Go.Clo
variable {es p:List Nat} {f n:Nat}
theorem J43{es:List Nat}{n:Nat}(Q:∀ v,v<n->U6 es v):∀ {J:List Nat} {N:Nb},J.Nodup->(∀ w ∈ J,w<n)->(∀ a b,a ∈ J->b ∈ J->N a b=adj es a b)->(C21 es n N J=true<->D6 es J)
 | [],N,_,_,_=>by simp[C21,D6]
 | v :: E,N,hnd,hlt,hN=>by
  rw[List.nodup_cons] at hnd;have hv:=hlt v (by simp);have O:∀ w,K9 N v E w=true<->w ∈ E/\V3 es v w:=fun w=>by
   unfold K9;rw[Bool.and_eq_true,decide_eq_true_eq]
   constructor
   .rintro⟨h1,h2⟩;exact⟨h2,B15.1 (by rw[<- hN v w (by simp) (by simp[h2])];exact h1)⟩
   .rintro⟨h1,h2⟩;exact⟨by rw[hN v w (by simp) (by simp[h1])];exact B15.2 h2,h1⟩
  have hb:R10 es (Q1 (K9 N v E) n ||| 2^v)=true<->∃ e ∈ es,e.testBit v=true/\∀ w ∈ E,V3 es v w->e.testBit w=true:=by
   rw[J46]
   constructor
   .rintro⟨e,h1,h2⟩
    refine⟨e,h1,h2 v (by rw[Nat.testBit_or,Nat.testBit_two_pow_self,Bool.or_true]),fun w hw ha=>h2 w ?_⟩;rw[Nat.testBit_or,C2,(O w).2 ⟨hw,ha⟩,decide_eq_true (hlt w (by simp[hw]))];rfl
   .rintro⟨e,h1,h2,h3⟩
    refine⟨e,h1,fun w hw => ?_⟩;rw[Nat.testBit_or,C2,Nat.testBit_two_pow,Bool.or_eq_true,Bool.and_eq_true] at hw;rcases hw with ⟨_,hw⟩ | hw
    .exact h3 w ((O w).1 hw).1 ((O w).1 hw).2
    .have:=of_decide_eq_true hw;subst this;exact h2
  have U:(∃ e ∈ es,e.testBit v=true/\∀ w ∈ E,V3 es v w->e.testBit w=true)->∀ a b,a ∈ E->b ∈ E->U9 N v E a b=adj es a b:=by
   rintro⟨e,h1,h2,h3⟩ a b ha hb;have h0:=hN a b (by simp[ha]) (by simp[hb]);unfold U9;rw[h0]
   by_cases hx:decide (a≠b)&&(K9 N v E a&&K9 N v E b)
   .simp only[Bool.and_eq_true,decide_eq_true_eq] at hx
    obtain⟨x1,x2,x3⟩:=hx;have:adj es a b=true:=B15.2 ⟨x1,e,h1,h3 a ha ((O a).1 x2).2,h3 b hb ((O b).1 x3).2⟩;rw[this];rfl
   .rw[Bool.eq_false_iff.2 hx,Bool.or_false]
  have ih:(∃ e ∈ es,e.testBit v=true/\∀ w ∈ E,V3 es v w->e.testBit w=true)->(C21 es n (U9 N v E) E=true<->D6 es E):=fun h=>J43 Q hnd.2 (fun w hw=>hlt w (by simp[hw])) (U h)
  rw[C21,Bool.and_eq_true,hb,D6]
  constructor
  .rintro⟨h1,h2⟩;exact⟨fun _=>h1,(ih h1).1 h2⟩
  .rintro⟨h1,h2⟩;exact⟨h1 (Q v hv),(ih (h1 (Q v hv))).2 h2⟩
def SrP(es:List Nat)(n f:Nat)(p:List Nat):Prop:=∃ q:List Nat,IsP n f (p++q)/\D6 es (p++q++D9 f)
theorem J64{p:List Nat}(E:p.Nodup)(hp:∀ x ∈ p,f<=x/\x<n)(hl:p.length=n-f):IsP n f p:=by
 refine⟨E,fun v=>⟨hp v,fun hv=>Classical.byContradiction fun h => ?_⟩⟩;have h1:(v :: p).Nodup:=List.nodup_cons.2 ⟨h,E⟩;have h2:=List.Nodup.length_le_of_subset (l₂:=List.range' f (n-f)) h1 fun x hx=>by
  rw[List.mem_range'_1];rcases List.mem_cons.1 hx with rfl | hx
  .omega
  .have:=hp x hx;omega
 rw[List.length_range',List.length_cons] at h2;omega
theorem J63(h:IsP n f p):SrP es n f p<->D6 es (p++D9 f):=by
 constructor
 .rintro⟨q,h1,h2⟩
  have h3:=h1.len;have h4:=h.len;rw[List.length_append] at h3;have:q=[]:=List.length_eq_zero_iff.1 (by omega);subst this;rwa [List.append_nil] at h2
 .intro h2
  exact⟨[],by rwa [List.append_nil],by rwa [List.append_nil]⟩
theorem Y44(hl:p.length<n-f):SrP es n f p<->∃ v,f<=v/\v<n/\v ∉ p/\SrP es n f (p++[v]):=by
 constructor
 .rintro⟨q,h1,h2⟩
  cases q with
  | nil=>
   have:=h1.len;rw[List.append_nil] at this;omega
  | cons v q=>
   have h3:=(h1.mem v).1 (by simp);have h4:=h1.nd;rw[List.nodup_append] at h4;refine⟨v,h3.1,h3.2,fun hv=>h4.2.2 v hv v (by simp) rfl,q,by simpa using h1,by simpa using h2⟩
 .rintro⟨v,_,_,_,q,h1,h2⟩
  exact⟨v :: q,by simpa using h1,by simpa using h2⟩
theorem B32(f:Nat):∀ i,i<=f->∀ x ∈ R6 f i,0<=x
 | 0,_,x,hx=>by simp[R6] at hx
 | i+1,h,x,hx=>by
  rw[R6,List.mem_append] at hx;rcases hx with hx | hx
  .exact B32 f i (by omega) x hx
  .simp at hx;omega
theorem E48(f:Nat):R6 f f=(D9 f).map fun(x:Nat)=>(x:Int):=by
 rw[<- V35,List.map_map];refine Eq.trans (List.map_id _).symm (List.map_congr_left fun x hx => ?_);have:=B32 f f (Nat.le_refl _) x hx;simp only[Function.comp,id];omega
theorem K39{H:Y0}{nx:Nat}{P:Option Addr}{p:List Nat}{E:Nat}{v:Nat}{k:EP}(hP:Sl H nx P (U4 (p.map fun(x:Nat)=>(x:Int))))(h0:Has H nx P)(hl:p.length<=100)
  (hk:∀ B H' nx',Sl H' nx' B (U4 ((p++[v]).map fun(x:Nat)=>(x:Int)))->Has H' nx' B->D0 H nx H' nx'->B≠none->k (.slice B (p++[v]).length (p++[v]).length) H' nx'):
  (K6 0 1 [.int .i64 0] [] fun a3=>B5 (.slice (some ⟨nx,0,none⟩) 0 0) (.slice P p.length E) 1 8 (hs H nx (some (.cells a3 0))) (nx+1) fun a1 H7 O=>
   K6 1 1 [.int .i64 0] [(0,.int .i64 (v:Int))] fun a4=>B5 a1 (.slice (some ⟨O,0,none⟩) 1 1) 1 8 (hs H7 O (some (.cells a4 0))) (O+1) k):=by
 simp(disch:=first|omega|assumption)only[U21];have hX:D0 H nx (hs H nx (some (.cells [] 0))) (nx+1):=(D0.refl H nx).new _ (Nat.le_refl _) (by omega);have Z:=C27 (size:=1) (m:=p.length) (cap:=E) (hP.ext hX) (h0.ext hX) (by rw[J6,Nat.mul_one]) (by omega);refine R20 (lo:=nx) (H0:=H) (E0 _ _ _) (Nat.le_refl _) (by omega) Z (K13 _) (by omega) (by omega) hX ?_;intro v1 H1 J _ a0 Q;have a5:∀(x:Int) k,K6 1 1 [.int .i64 0] [(0,.int .i64 x)] k=k [.int .i64 x]:=fun x k=>rfl
 rw[a5];have U:D0 H1 J (hs H1 J (some (.cells [.int .i64 (v:Int)] 0))) (J+1):=(D0.refl _ _).new _ (Nat.le_refl _) (by omega);have a6:=Q.le;refine K38 (H0:=H) (lo:=nx) (y := .int .i64 (v:Int)) (a0.ext U) (J9 (E0 _ _ _) rfl (by omega)) rfl (by omega) (by rw[J6];omega) (Q.trans U) (by omega) ?_;intro v' H' W a2 _;have e:U4 ((p++[v]).map fun(x:Nat)=>(x:Int))=U4 (p.map fun(x:Nat)=>(x:Int))++[.int .i64 (v:Int)]:=by simp[U4]
 rw[<- e] at W;obtain⟨B,rfl,V,hB⟩:=W.sl;rw[J6];refine hk B _ _ V hB a2 fun h => ?_
 subst h;obtain⟨b,o,row,e,_⟩:=V.open (i:=0) (by rw[J6];simp)
 cases e
set_option maxHeartbeats 4000000 in
theorem Z53{n f:Nat}(hn:n<=6)(hf:f<=n)(A:Option Addr)(es:List Nat)(cap:Nat)(a9:∀ e ∈ es,e<2^n)(ag:es.length<=8)(Z:∀ v,v<n->U6 es v):∀(k:Nat) (p:List Nat) (P:Option Addr) (Q:Nat) (H:Y0) (nx:Nat),p.length+k=n-f->p.Nodup->(∀ x ∈ p,f<=x/\x<n) ->
  Sl H nx A (C0 es)->Sl H nx P (U4 (p.map fun(x:Nat)=>(x:Int)))->Has H nx P ->
  Q2 Tryz.prog 56 [.slice A es.length cap,.int .i64 (n:Int),.int .i64 (f:Int),.slice P p.length Q] H nx fun r H' nx'=>(∃ c:Bool,r = .bool c/\(c=true<->SrP es n f p))/\D0 H nx H' nx':=by
 intro k
 induction k with
 | zero=>
  intro p P Q H nx hl a4 hp hS hP h0;have a1:=J64 a4 hp (by omega);have V:(p++D9 f).Nodup:=J69 hn a9 ag Z hf a1;have E:∀ w,w ∈ p++D9 f<->w<n:=fun w=>by rw[List.mem_append,a1.mem,D10];omega
  have a5:(p++D9 f).length=n:=by
   have:=Y17 f f;rw[List.length_append,<- V35,List.length_map,this];omega
  have a6:p.map (fun(x:Nat)=>(x:Int))++R6 f f=(p++D9 f).map fun(w:Nat)=>(w:Int):=by
   rw[List.map_append,E48]
  have d1:decide ((p.length:Int)=(n:Int)-(f:Int))=true:=by simp;omega
  refine spec56 ?_;unfold F56;simp(disch:=first|omega|assumption)only[W0,Q0.val,d1];have h:=X61 (n:=n) (f:=f) (by omega) hf A es cap P (p.map fun(x:Nat)=>(x:Int)) Q (p++D9 f) H nx hS a9 (by omega) hP h0 (by rw[List.length_map];omega) a6 V (fun w hw=>(E w).1 hw) a5;rw[List.length_map] at h;refine R0 h ?_;rintro _ H1 ap ⟨rfl,hE⟩;refine⟨⟨_,rfl,?_⟩,hE⟩;rw[J63 a1];exact J43 Z V (fun w hw=>(E w).1 hw) fun a b _ _=>rfl
 | succ k ih=>
  intro p P Q H nx hl a4 hp hS hP h0;have d1:decide ((p.length:Int)=(n:Int)-(f:Int))=false:=by simp;omega
  refine spec56 ?_;unfold F56;simp(disch:=first|omega|assumption)only[W0,Q0.val,d1];refine B1 (m:=n-f) (fun m L H' nx'=>∃ i:Nat,m+i=n/\f<=i/\L=[.int .i64 (i:Int)]/\(∀ v,f<=v->v<i->v ∉ p->¬ SrP es n f (p++[v]))/\D0 H nx H' nx') ?_ ⟨f,by omega,Nat.le_refl _,rfl,fun v h1 h2=>by omega,D0.refl _ _⟩;rintro m aq L H2 nx2 ⟨i,hm,ae,rfl,a3,O⟩ aa
  by_cases hi:i<n
  case neg=>
   have a2:¬ (i:Int)<(n:Int):=by omega
   simp(disch:=first|omega|assumption)only[W0,a2];refine⟨⟨false,rfl,fun h=>(by cases h),fun h => ?_⟩,O⟩;obtain⟨v,h1,h2,h3,h4⟩:=(Y44 (by omega)).1 h;exact absurd h4 (a3 v h1 (by omega) h3)
  have a2:(i:Int)<(n:Int):=by omega
  have ak:=O.le;simp(disch:=first|omega|assumption)only[W0,a2];refine B1 (m:=p.length) (fun m L H' nx'=>∃ j:Nat,m+j=p.length/\L=[.bool (decide (i ∈ p.take j)),.int .i64 (j:Int)]/\H2=H'/\nx2=nx') ?_ ⟨0,by omega,by simp,rfl,rfl⟩;rintro m3 ao L3 _ _ ⟨j,al,rfl,rfl,rfl⟩ W
  by_cases hj:j<p.length
  .have U:(j:Int)<(p.length:Int):=by omega
   obtain⟨x,hx⟩:∃ x,p[j]? = some x:=⟨_,List.getElem?_eq_getElem hj⟩
   have aj:(p.map fun(x:Nat)=>(x:Int))[j]? = some (x:Int):=by rw[List.getElem?_map,hx];rfl
   obtain⟨b,o,row,rfl,hb,ac,ab⟩:=(hP.ext O).open (i:=j) (by rw[J6];omega);have g0:=ab _ _ (Z9 aj);have J:decide (i ∈ p.take (j+1))=(decide (i ∈ p.take j) || decide ((x:Int)=(i:Int))):=by
    rw[C7 hx,Bool.eq_iff_iff];simp only[List.mem_append,List.mem_singleton,decide_eq_true_eq,Bool.or_eq_true];exact or_congr Iff.rfl ⟨fun e=>by rw[e],fun e=>(Int.ofNat.inj e).symm⟩
   cases hc:decide (i ∈ p.take j) with
   | true=>
    rw[hc,Bool.true_or] at J;simp(disch:=first|omega|assumption)only[W0,U,R1];exact W (m3-1) _ _ _ (by omega) ⟨j+1,by omega,by rw[J];simp,rfl,rfl⟩
   | false=>
    rw[hc,Bool.false_or] at J;simp(disch:=first|omega|assumption)only[W0,U,R1,X3 ac,g0];exact W (m3-1) _ _ _ (by omega) ⟨j+1,by omega,by rw[J];simp,rfl,rfl⟩
  have U:¬ (j:Int)<(p.length:Int):=by omega
  rw[List.take_of_length_le (by omega)]
  by_cases E:i ∈ p
  .simp(disch:=first|omega|assumption)only[W0,U,R1,decide_eq_true E]
   refine aa (m-1) _ _ _ (by omega) ⟨i+1,by omega,by omega,by simp,fun v h1 h2 h3 => ?_,O⟩
   by_cases e:v=i
   .subst e;exact absurd E h3
   .exact a3 v h1 (by omega) h3
  simp(disch:=first|omega|assumption)only[W0,U,R1,decide_eq_false E];refine K39 (hP.ext O) (h0.ext O) (by omega) fun B H5 ad ai hB a7 _ => ?_
  have a8:(p++[i]).Nodup:=by
   rw[List.nodup_append];exact⟨a4,by simp,fun a ha b hb e=>by simp at hb;subst hb;subst e;exact E ha⟩
  refine R0 (ih (p++[i]) B (p++[i]).length H5 ad (by simp;omega) a8 (fun x hx => ?_) (hS.ext (O.trans a7)) ai hB) ?_
  .rcases List.mem_append.1 hx with hx | hx
   .exact hp x hx
   .simp at hx;omega
  rintro _ H6 an ⟨⟨c,rfl,hc⟩,ah⟩;have a0:=(O.trans a7).trans ah
  cases c with
  | true=>
   simp(disch:=first|omega|assumption)only[W0];exact⟨⟨true,rfl,fun _=>(Y44 (by omega)).2 ⟨i,ae,hi,E,hc.1 rfl⟩,fun _=>rfl⟩,a0⟩
  | false=>
   simp(disch:=first|omega|assumption)only[W0];refine aa (m-1) _ _ _ (by omega) ⟨i+1,by omega,by omega,by simp,fun v h1 h2 h3 => ?_,a0⟩
   by_cases e:v=i
   .subst e;intro h4;have:=hc.2 h4;cases this
   .exact a3 v h1 (by omega) h3
theorem U26{n f:Nat}(hn:n<=6)(hf:f<=n)(A:Option Addr)(es:List Nat)(cap:Nat)(O:∀ e ∈ es,e<2^n)(Q:es.length<=8)(E:∀ v,v<n->U6 es v)(H:Y0)(nx:Nat)(hS:Sl H nx A (C0 es)):
  Q2 Tryz.prog 23 [.slice A es.length cap,.int .i64 (n:Int),.int .i64 (f:Int)] H nx fun r H' nx'=>(∃ c:Bool,r = .bool c/\(c=true<->J12 es n f))/\D0 H nx H' nx':=by
 refine spec23 ?_;unfold F23;refine R0 (Z53 hn hf A es cap O Q E (n-f) [] none 0 H nx (by simp) List.nodup_nil (fun x h=>by simp at h) hS (Sl.nil _ _ _) (.inl rfl)) ?_;rintro _ H1 U ⟨⟨c,rfl,hc⟩,hE⟩;simp(disch:=first|omega|assumption)only[W0];refine⟨⟨c,rfl,hc.trans ?_⟩,hE⟩;have J:∀ v,U6 es v<->v<n:=fun v=>⟨fun⟨e,h1,h2⟩=>R7 (O e h1) h2,E v⟩
 unfold J12;rw[<- R48 hf J]
 constructor
 .rintro⟨q,h1,h2⟩;exact⟨q,h1.nd,h1.mem,h2⟩
 .rintro⟨q,h1,h2,h3⟩;exact⟨q,⟨h1,h2⟩,h3⟩
end Go.Proofs.YtoiioigihocgbaaGreatDoor

namespace Go.Proofs.YtoiioigihocgbaaGreatDoor
open Go.Clo Go.Inv
theorem Q36{e N:Nat}(h:e<2^N):∀ k,B13 e k<2^N
 | 0=>h
 | k+1=>Z6 (Q36 h k)
theorem E50{e m N:Nat}{p:List Nat}(hm:m<2^N):∀ k,k<=N->Q12 e p m k<2^N
 | 0,_=>hm
 | k+1,h=>by
  have ih:=E50 (e:=e) (p:=p) hm k (by omega);rw[Q12]
  split
  .exact Nat.or_lt_two_pow ih (Nat.pow_lt_pow_right (by omega) (by omega))
  .exact ih
set_option maxHeartbeats 4000000 in
theorem J49{n:Nat}(hn:n<=6)(A:Option Addr)(es:List Nat)(cap:Nat)(P:Option Addr)(p:List Nat)(a7:Nat)(ab:∀ e ∈ es,e<2^n)(aq:es.length<=8)(hp:∀ x ∈ p,x<n)(az:p.length<=n)(H:Y0)(nx:Nat)(hS:Sl H nx A (C0 es))(hP:Sl H nx P (U4 (p.map fun(x:Nat)=>(x:Int)))):
  Q2 Tryz.prog 21 [.slice A es.length cap,.slice P p.length a7] H nx fun r H' nx'=>(∃ B,r = .slice B es.length es.length/\Sl H' nx' B (C0 (V7 es p)))/\D0 H nx H' nx':=by
 have ak:2^n<=64:=Nat.pow_le_pow_right (n:=2) (by omega) hn;refine spec21 ?_;unfold F21;refine B1 (m:=es.length) (fun m L H' nx'=>∃(i:Nat) (u:Value),m+i=es.length/\L=[u,.int .i64 (i:Int)]/\Acc nx H' nx' 1 u i (C0 (V7 (es.take i) p))/\D0 H nx H' nx') ?_ ⟨0,.slice none 0 0,by omega,rfl,Acc.nil _ _ _ _,D0.refl _ _⟩;rintro m ih L H2 nx2 ⟨i,u,hm,rfl,hA,O⟩ ad;have al:=O.le
 by_cases hi:i<es.length
 case neg=>
  have a2:¬ (i:Int)<(es.length:Int):=by omega
  obtain rfl:i=es.length:=by omega
  obtain⟨B,rfl,hB⟩:=hA.sl;simp(disch:=first|omega|assumption)only[W0,Q0.val,a2];rw[List.take_of_length_le (Nat.le_refl _)] at hB;exact⟨⟨B,rfl,hB⟩,O⟩
 have a2:(i:Int)<(es.length:Int):=by omega
 obtain⟨e,he⟩:∃ e,es[i]? = some e:=⟨_,List.getElem?_eq_getElem hi⟩
 obtain⟨b,o,row,rfl,hb,J,a8⟩:=(hS.ext O).open (i:=i) (by rw[E1];omega);have g0:=a8 _ _ (Q3 he);have a6:=ab e (List.mem_of_getElem? he);simp(disch:=first|omega|assumption)only[W0,Q0.val,a2,X3 J,g0];refine B1 (m:=p.length) (fun m L H' nx'=>∃ k:Nat,m+k=p.length/\L=[.int .u32 (B13 e k:Int),.int .i64 (k:Int)]/\H2=H'/\nx2=nx') ?_ ⟨0,by omega,rfl,rfl,rfl⟩;rintro m3 ax L3 _ _ ⟨k,ap,rfl,rfl,rfl⟩ a4
 by_cases hk:k<p.length
 .have a3:(k:Int)<(p.length:Int):=by omega
  have an:(k:Int)<18446744073709551616:=by omega
  have Z:k<32:=by omega
  have au:B13 e k<4294967296:=by have:=Q36 a6 k;omega
  have pk:2^k<4294967296:=Y18 Z;simp(disch:=first|omega|assumption)only[W0,a3,Z10];exact a4 (m3-1) _ _ _ (by omega) ⟨k+1,by omega,by simp[B13],rfl,rfl⟩
 have a3:¬ (k:Int)<(p.length:Int):=by omega
 obtain rfl:k=p.length:=by omega
 simp(disch:=first|omega|assumption)only[W0,a3];refine B1 (m:=p.length) (fun m L H' nx'=>∃ k:Nat,m+k=p.length/\L=[.int .u32 (Q12 e p (B13 e p.length) k:Int),.int .i64 (k:Int)]/\H2=H'/\nx2<=nx') ?_ ⟨0,by omega,rfl,rfl,Nat.le_refl _⟩;rintro m4 ay L4 _ a0 ⟨k,ao,rfl,rfl,a9⟩ Q;have aj:Q12 e p (B13 e p.length) k<2^n:=E50 (Q36 a6 _) k (by omega)
 by_cases hk:k<p.length
 .have W:(k:Int)<(p.length:Int):=by omega
  have Z:k<32:=by omega
  have aw:Q12 e p (B13 e p.length) k<4294967296:=by omega
  have pk:2^k<4294967296:=Y18 Z;obtain⟨x,hx⟩:∃ x,p[k]? = some x:=⟨_,List.getElem?_eq_getElem hk⟩
  have a5:p.getD k 0=x:=by rw[List.getD_eq_getElem?_getD,hx];rfl
  have b3:=hp x (List.mem_of_getElem? hx);have ah:(p.map fun(x:Nat)=>(x:Int))[k]? = some (x:Int):=by rw[List.getElem?_map,hx];rfl
  obtain⟨b2,o2,ai,rfl,av,E,a1⟩:=(hP.ext O).open (i:=k) (by rw[J6];omega);have g1:=a1 _ _ (Z9 ah);simp(disch:=first|omega|assumption)only[W0,W,R1,X3 J,X3 E,g0,g1];refine R0 (W53 (by omega) (by omega) _ _) ?_;rintro _ _ _ ⟨rfl,rfl,rfl⟩
  cases U:e.testBit x with
  | false=>
   simp(disch:=first|omega|assumption)only[W0];refine Q (m4-1) _ _ _ (by omega) ⟨k+1,by omega,?_,rfl,by omega⟩;rw[Q12,a5,if_neg (by rw[U];simp)];simp
  | true=>
   simp(disch:=first|omega|assumption)only[W0,Z10];refine Q (m4-1) _ _ _ (by omega) ⟨k+1,by omega,?_,rfl,by omega⟩;rw[Q12,a5,if_pos U];simp
 have W:¬ (k:Int)<(p.length:Int):=by omega
 obtain rfl:k=p.length:=by omega
 have ac:∀(x:Int) k,K6 1 1 [.int .u32 0] [(0,.int .u32 x)] k=k [.int .u32 x]:=fun x k=>rfl
 simp(disch:=first|omega|assumption)only[W0,W,ac];have aa:D0 H2 a0 (hs H2 a0 (some (.cells [.int .u32 (Q12 e p (B13 e p.length) p.length:Int)] 0))) (a0+1):=(D0.refl _ _).new _ (Nat.le_refl _) (by omega);have V:=(D0.self (H:=H2) a9).trans aa;refine Y20 (H0:=H) (lo:=nx) (m:=1) (l:=[.int .u32 (Q12 e p (B13 e p.length) p.length:Int)]) (by omega) (hA.ext V) (J9 (E0 _ _ _) rfl (by omega)) (by omega) rfl (by omega) (by omega) (O.trans V) (by omega) ?_;intro v' H' ae ag _;refine ad (m-1) _ _ _ (by omega) ⟨i+1,v',by omega,by simp,?_,ag⟩;have e1:C0 (V7 (es.take (i+1)) p)=C0 (V7 (es.take i) p)++[.int .u32 (Q12 e p (B13 e p.length) p.length:Int)]:=by
  rw[C7 he];simp[V7,C0,N46]
 rw[e1];exact ae
theorem R37{p:List Int}{i:Nat}{x:Int}(h:p[i]? = some x):p.drop i=x :: p.drop (i+1):=by
 obtain⟨hi,rfl⟩:=List.getElem?_eq_some_iff.1 h;exact List.drop_eq_getElem_cons hi
set_option maxHeartbeats 1000000 in
theorem X56(A:Option Addr)(p:List Int)(cap:Nat)(H:Y0)(nx:Nat)(hS:Sl H nx A (U4 p))(hl:p.length<=1000):
  Q2 Tryz.prog 20 [.slice A p.length cap] H nx fun r H' nx' => .int .i64 (inv p:Nat)=r/\H=H'/\nx<=nx':=by
 refine spec20 ?_;unfold F20;have hb:=D35 p;have a6:p.length*p.length<=1000000:=Nat.mul_le_mul hl hl;refine B1 (fun m L H' nx'=>∃ i c:Nat,m+i=p.length/\L=[.int .i64 (c:Int),.int .i64 (i:Int)]/\c+inv (p.drop i)=inv p/\H=H'/\nx<=nx') ?_ (m:=p.length) ⟨0,0,by omega,rfl,by simp,rfl,Nat.le_refl _⟩;rintro m ih L _ n1 ⟨i,c,hm,rfl,hc,rfl,W⟩ a0;simp(disch:=first|omega|assumption)only[W0]
 by_cases hi:i<p.length
 .have O:(i:Int)<(p.length:Int):=by omega
  have hx:p[i]? = some p[i]:=List.getElem?_eq_getElem hi;generalize p[i]=x at hx;have hd:=R37 hx;rw[hd,inv] at hc;simp(disch:=first|omega|assumption)only[W0,O];refine B1 (fun m2 L2 H' nx'=>∃ k c2:Nat,m2+k=p.length/\L2=[.int .i64 (c2:Int),.int .i64 (k:Int)]/\i<k/\c2+less x (p.drop k)=c+less x (p.drop (i+1))/\H=H'/\nx<=nx') ?_ (m:=p.length-(i+1)) ⟨i+1,c,by omega,by simp,by omega,rfl,rfl,W⟩;rintro m2 a7 L2 _ n2 ⟨k,c2,a4,rfl,a3,E,rfl,a1⟩ U;simp(disch:=first|omega|assumption)only[W0]
  by_cases hk:k<p.length
  .have Q:(k:Int)<(p.length:Int):=by omega
   obtain⟨b,o,row,rfl,a5,V,J⟩:=hS.open (i:=0) (by rw[X9];omega);have hy:p[k]? = some p[k]:=List.getElem?_eq_getElem hk;generalize p[k]=y at hy;have a2:=R37 hy;rw[a2] at E;simp only[less,List.countP_cons] at E
   by_cases Z:y<x
   .have e1:decide (y<x)=true:=by simp[Z]
    rw[e1] at E;simp(disch:=first|omega|assumption)only[W0,R1,Q,X3 V,J _ _ (Z9 hx),J _ _ (Z9 hy),e1];refine U (m2-1) _ _ _ (by omega) ⟨k+1,c2+1,by omega,by simp,by omega,?_,rfl,by omega⟩;simp only[less];simp at E;omega
   .have e1:decide (y<x)=false:=by simp[Z]
    rw[e1] at E;simp(disch:=first|omega|assumption)only[W0,R1,Q,X3 V,J _ _ (Z9 hx),J _ _ (Z9 hy),e1];refine U (m2-1) _ _ _ (by omega) ⟨k+1,c2,by omega,by simp,by omega,?_,rfl,by omega⟩;simp only[less];simp at E;omega
  .have Q:¬ (k:Int)<(p.length:Int):=by omega
   simp(disch:=first|omega|assumption)only[W0,Q];refine a0 (m-1) _ _ _ (by omega) ⟨i+1,c2,by omega,by simp,?_,rfl,a1⟩;rw[List.drop_eq_nil_of_le (show p.length<=k by omega)] at E;simp only[less,List.countP_nil] at E hc;omega
 .have O:¬ (i:Int)<(p.length:Int):=by omega
  simp(disch:=first|omega|assumption)only[W0,O];rw[List.drop_eq_nil_of_le (show p.length<=i by omega)] at hc;simp only[inv] at hc;exact⟨by rw[<- hc];simp,W⟩
end Go.Proofs.YtoiioigihocgbaaGreatDoor

namespace Go.Proofs.YtoiioigihocgbaaGreatDoor
open Go.Clo Go.Inv
variable {es p:List Nat} {f n:Nat}
def LsO(best:Option (List Nat))(v:Value)(H:Y0)(nx:Nat):Prop:=match best with
 | none=>v = .slice none 0 0
 | some b=>∃ a c,v = .slice (some a) b.length c/\Sl H nx (some a) (U4 (b.map fun(x:Nat)=>(x:Int)))
theorem LsO.ext{best:Option (List Nat)}{v:Value}{H:Y0}{nx:Nat}{H':Y0}{nx':Nat}(h:LsO best v H nx)(e:D0 H nx H' nx'):LsO best v H' nx':=by
 cases best with
 | none=>exact h
 | some b=>obtain⟨a,c,h1,h2⟩:=h;exact⟨a,c,h1,h2.ext e⟩
theorem G69{es p:List Nat}(hf:f<=n)(h:IsF f p)(J:∀ e ∈ es,e<2^n):∀ e ∈ V7 es p,e<2^n:=fun e' E=>by
 obtain⟨e,he,rfl⟩:=List.mem_map.1 E;refine Nat.lt_pow_two_of_testBit _ fun w hw=>Bool.eq_false_iff.2 fun hb => ?_
 rw[E24] at hb;have h1:=R7 (J e he) hb;have h2:=(h.sgm_n hf w).1 (by unfold sgm;exact h1);omega
theorem X68(hf:f<=n)(h:IsF f p)(E:∀ v,v<n->U6 es v):∀ v,v<n->U6 (V7 es p) v:=fun v hv=>(h.ren es).cov.2 (E _ ((h.sgm_n hf v).2 hv))
theorem D66{H:Y0}{nx:Nat}{P:Option Addr}{p:List Nat}(h:Sl H nx P (U4 (p.map fun(x:Nat)=>(x:Int))))(h0:0<p.length):∃ a,P=some a:=by
 obtain⟨b,o,row,rfl,_⟩:=h.open (i:=0) (by rw[J6];exact h0);exact⟨_,rfl⟩
open Classical in
def nrS(f:Nat)(P:List Nat->Prop)(k:Nat)(p:List Nat)(best:Option (List Nat))(v:Nat):Option (List Nat):=(List.range v).foldl (fun s v=>if v ∈ p then s else nr f P k (p++[v]) s) best
theorem V32{P:List Nat->Prop}{k:Nat}{best:Option (List Nat)}{v:Nat}:nrS f P k p best (v+1)=if v ∈ p then nrS f P k p best v else nr f P k (p++[v]) (nrS f P k p best v):=by
 unfold nrS;rw[List.range_succ,List.foldl_append,List.foldl_cons,List.foldl_nil]
theorem Y41(h:p.length<=6):R5 p<=36:=by
 have E:=D35 (p.map fun(x:Nat)=>(x:Int));rw[List.length_map] at E;exact Nat.le_trans E (Nat.mul_le_mul h h)
set_option maxHeartbeats 8000000 in
theorem D48{n f:Nat}(hn:n<=6)(hf:f<=n)(bf:0<f)(A:Option Addr)(es:List Nat)(cap:Nat)(ae:∀ e ∈ es,e<2^n)(ad:es.length<=8)(ac:∀ v,v<n->U6 es v):∀(k:Nat) (p:List Nat) (P:Option Addr) (E:Nat) (best:Option (List Nat)) (bv:Value) (H:Y0) (nx:Nat),
  p.length+k=f->p.Nodup->(∀ x ∈ p,x<f)->(∀ b,best=some b->b.length=f)->Sl H nx A (C0 es)->Sl H nx P (U4 (p.map fun(x:Nat)=>(x:Int)))->Has H nx P->LsO best bv H nx ->
  Q2 Tryz.prog 51 [.slice A es.length cap,.int .i64 (n:Int),.int .i64 (f:Int),.slice P p.length E,bv] H nx fun r H' nx'=>LsO (nr f (fun q=>J12 (V7 es q) n f) k p best) r H' nx'/\D0 H nx H' nx':=by
 intro k
 induction k with
 | zero=>
  intro p P E best bv H nx hl a7 hp a0 hS hP h0 hb;have hF:IsF f p:=⟨a7,hp,by omega⟩
  obtain⟨a,rfl⟩:=D66 hP (by omega);have d1:decide ((p.length:Int)=(f:Int))=true:=by simp;omega
  have aq:(p.map fun(x:Nat)=>(x:Int)).length=p.length:=List.length_map _;have ba:=Y41 (p:=p) (by omega);refine spec51 ?_;unfold F51;simp(disch:=first|omega|assumption)only[W0,Q0.val,d1];have acc:∀(H3:Y0) (n3:Nat) (kk:EP),D0 H nx H3 n3->(∀(c:Bool) (H':Y0) (nx':Nat),(c=true<->J12 (V7 es p) n f)->D0 H nx H' nx'->kk (.bool c) H' nx') ->
    Y2 Tryz.prog 21 [.slice A es.length cap,.slice (some a) p.length E] H3 n3 fun t9 H4 aw=>Y2 Tryz.prog 23 [t9,.int .i64 (n:Int),.int .i64 (f:Int)] H4 aw kk:=by
   intro H3 n3 kk a3 az;refine R0 (J49 hn A es cap (some a) p E ae ad (fun x hx=>by have:=hp x hx;omega) (by omega) H3 n3 (hS.ext a3) (hP.ext a3)) ?_;rintro _ H4 n4 ⟨⟨B,rfl,hB⟩,ax⟩;have ao:=U26 hn hf B (V7 es p) es.length (G69 hf hF ae) (by rw[V45];exact ad) (X68 hf hF ac) H4 n4 hB;rw[V45] at ao;refine R0 ao ?_;rintro _ H5 n5 ⟨⟨c,rfl,hc⟩,J⟩;exact az c H5 n5 hc ((a3.trans ax).trans J)
  refine N5 (fun L H' nx'=>(∃ c:Bool,L=[.bool c]/\(c=true<->Lss p best/\J12 (V7 es p) n f))/\D0 H nx H' nx') ?_ ?_
  .intro j hj
   cases best with
   | none=>
    cases hb
    rw[G21];simp(disch:=first|omega|assumption)only[W0,Option.isNone_none];refine acc H nx _ (D0.refl _ _) fun c H' nx' hc a8 => ?_
    exact hj _ _ _ ⟨⟨c,rfl,by rw[hc];exact⟨fun g=>⟨fun b e=>(by cases e),g⟩,fun g=>g.2⟩⟩,a8⟩
   | some b=>
    obtain⟨ab,cb,rfl,a4⟩:=hb;have a0:=a0 b rfl;have au:(b.map fun(x:Nat)=>(x:Int)).length=b.length:=List.length_map _;have bc:=Y41 (p:=b) (by omega);rw[G21];simp(disch:=first|omega|assumption)only[W0,Option.isNone_some];have r1:=X56 (some a) (p.map fun(x:Nat)=>(x:Int)) E H nx hP (by omega);rw[aq] at r1;refine R0 r1 ?_;rintro _ _ n6 ⟨rfl,rfl,av⟩;have hX:D0 H nx H n6:=D0.self av;have r2:=X56 (some ab) (b.map fun(x:Nat)=>(x:Int)) cb H n6 (a4.ext hX) (by omega);rw[au] at r2;refine R0 r2 ?_;rintro _ _ n7 ⟨rfl,rfl,b8⟩;have ai:D0 H nx H n7:=D0.self (by omega);rw[show inv (p.map fun(x:Nat)=>(x:Int))=R5 p from rfl,show inv (b.map fun(x:Nat)=>(x:Int))=R5 b from rfl]
    by_cases aa:R5 p<R5 b
    .have Z:(R5 p:Int)<(R5 b:Int):=by omega
     simp(disch:=first|omega|assumption)only[W0,Z];refine acc H n7 _ ai fun c H' nx' hc a8 => ?_
     exact hj _ _ _ ⟨⟨c,rfl,by rw[hc];exact⟨fun g=>⟨fun b' e=>by cases e;exact aa,g⟩,fun g=>g.2⟩⟩,a8⟩
    .have Z:¬ (R5 p:Int)<(R5 b:Int):=by omega
     simp(disch:=first|omega|assumption)only[W0,Z];exact hj _ _ _ ⟨⟨false,rfl,fun h=>(by cases h),fun g=>absurd (g.1 b rfl) aa⟩,ai⟩
  rintro _ H5 n5 ⟨⟨c,rfl,hc⟩,J⟩;rw[nr]
  cases c with
  | true=>
   rw[if_pos (hc.1 rfl)];simp(disch:=first|omega|assumption)only[W0];exact⟨⟨a,E,rfl,hP.ext J⟩,J⟩
  | false=>
   rw[if_neg (fun g=>by have:=hc.2 g;cases this)];have ag:=hb.ext J
   cases best with
   | none=>cases ag;simp(disch:=first|omega|assumption)only[W0];exact⟨rfl,J⟩
   | some b=>
    obtain⟨ab,cb,rfl,a4⟩:=ag;simp(disch:=first|omega|assumption)only[W0];exact⟨⟨ab,cb,rfl,a4⟩,J⟩
 | succ k ih=>
  intro p P E best bv H nx hl a7 hp a0 hS hP h0 hb;have d1:decide ((p.length:Int)=(f:Int))=false:=by simp;omega
  refine spec51 ?_;unfold F51;simp(disch:=first|omega|assumption)only[W0,Q0.val,d1];rw[show nr f (fun q=>J12 (V7 es q) n f) (k+1) p best=nrS f (fun q=>J12 (V7 es q) n f) k p best f by rw[nr];rfl];have aj:∀ v b,nrS f (fun q=>J12 (V7 es q) n f) k p best v=some b->b.length=f:=by
   intro v
   induction v with
   | zero=>exact a0
   | succ v a9=>
    intro b hb;rw[V32] at hb
    split at hb
    .exact a9 b hb
    .exact U36 k _ _ (by simp;omega) a9 b hb
  refine B1 (m:=f) (fun m L H' nx'=>∃(i:Nat) (an:Value),m+i=f/\L=[an,.int .i64 (i:Int)]/\LsO (nrS f (fun q=>J12 (V7 es q) n f) k p best i) an H' nx'/\D0 H nx H' nx') ?_ ⟨0,bv,by omega,rfl,hb,D0.refl _ _⟩;rintro m bk L H2 nx2 ⟨i,a6,hm,rfl,V,U⟩ ah
  by_cases hi:i<f
  case neg=>
   have a5:¬ (i:Int)<(f:Int):=by omega
   obtain rfl:i=f:=by omega
   have hv:∃ A' l' c',a6 = .slice A' l' c':=by
    cases hx:nrS i (fun q=>J12 (V7 es q) n i) k p best i with
    | none=>rw[hx] at V;cases V;exact⟨_,_,_,rfl⟩
    | some b=>rw[hx] at V;obtain⟨ab,cb,rfl,_⟩:=V;exact⟨_,_,_,rfl⟩
   obtain⟨A',l',c',rfl⟩:=hv;simp(disch:=first|omega|assumption)only[W0,a5];exact⟨V,U⟩
  have a5:(i:Int)<(f:Int):=by omega
  have b5:=U.le;simp(disch:=first|omega|assumption)only[W0,a5,R1];refine B1 (m:=p.length) (fun m L H' nx'=>∃ j:Nat,m+j=p.length/\L=[.bool (decide (i ∈ p.take j)),.int .i64 (j:Int)]/\H2=H'/\nx2=nx') ?_ ⟨0,by omega,by simp,rfl,rfl⟩;rintro m3 bh L3 _ _ ⟨j,bd,rfl,rfl,rfl⟩ a1
  by_cases hj:j<p.length
  .have W:(j:Int)<(p.length:Int):=by omega
   obtain⟨x,hx⟩:∃ x,p[j]? = some x:=⟨_,List.getElem?_eq_getElem hj⟩
   have b4:(p.map fun(x:Nat)=>(x:Int))[j]? = some (x:Int):=by rw[List.getElem?_map,hx];rfl
   obtain⟨b,o,row,rfl,hb,al,ak⟩:=(hP.ext U).open (i:=j) (by rw[J6];omega);have g0:=ak _ _ (Z9 b4);have O:decide (i ∈ p.take (j+1))=(decide (i ∈ p.take j) || decide ((x:Int)=(i:Int))):=by
    rw[C7 hx,Bool.eq_iff_iff];simp only[List.mem_append,List.mem_singleton,decide_eq_true_eq,Bool.or_eq_true];exact or_congr Iff.rfl ⟨fun e=>by rw[e],fun e=>(Int.ofNat.inj e).symm⟩
   cases hc:decide (i ∈ p.take j) with
   | true=>
    rw[hc,Bool.true_or] at O;simp(disch:=first|omega|assumption)only[W0,W];exact a1 (m3-1) _ _ _ (by omega) ⟨j+1,by omega,by rw[O];simp,rfl,rfl⟩
   | false=>
    rw[hc,Bool.false_or] at O;simp(disch:=first|omega|assumption)only[W0,W,X3 al,g0];exact a1 (m3-1) _ _ _ (by omega) ⟨j+1,by omega,by rw[O];simp,rfl,rfl⟩
  have W:¬ (j:Int)<(p.length:Int):=by omega
  rw[List.take_of_length_le (by omega)]
  by_cases Q:i ∈ p
  .simp(disch:=first|omega|assumption)only[W0,W,decide_eq_true Q]
   refine ah (m-1) _ _ _ (by omega) ⟨i+1,a6,by omega,by simp,?_,U⟩;rw[V32,if_pos Q];exact V
  simp(disch:=first|omega|assumption)only[W0,W,decide_eq_false Q];refine K39 (hP.ext U) (h0.ext U) (by omega) fun B H5 ap b3 hB J _ => ?_
  have a2:=U.trans J;refine R0 (ih (p++[i]) B (p++[i]).length (nrS f (fun q=>J12 (V7 es q) n f) k p best i) a6 H5 ap (by simp;omega) (N22 a7 Q) (K22 hp hi) (aj i) (hS.ext a2) b3 hB (V.ext J)) ?_;rintro r H6 bg ⟨hr,ay⟩;refine ah (m-1) _ _ _ (by omega) ⟨i+1,r,by omega,by simp,?_,a2.trans ay⟩;rw[V32,if_neg Q];exact hr
open Classical in
theorem B36{n f:Nat}(hn:n<=6)(hf:f<=n)(A:Option Addr)(es:List Nat)(cap:Nat)(U:∀ e ∈ es,e<2^n)(J:es.length<=8)(E:∀ v,v<n->U6 es v)(H:Y0)(nx:Nat)(hS:Sl H nx A (C0 es)):
  Q2 Tryz.prog 18 [.slice A es.length cap,.int .i64 (n:Int),.int .i64 (f:Int)] H nx fun r H' nx'=>(∃ B c,r = .tuple ⟨[.slice B ((J15 es n f).getD []).length c,.bool (J15 es n f).isSome]⟩/\Sl H' nx' B (U4 (((J15 es n f).getD []).map fun(x:Nat)=>(x:Int))))/\D0 H nx H' nx':=by
 refine spec18 ?_;unfold F18
 by_cases h0:f=0
 .subst h0
  have d1:decide (((0:Nat):Int)=0)=true:=by decide
  have V:=U26 hn hf A es cap U J E H nx hS;have O:V7 es []=es:=by
   unfold V7;refine Eq.trans (List.map_congr_left fun e _ => ?_) (List.map_id _);apply Nat.eq_of_testBit_eq;intro w;rw[E24];rfl
  have hr:J15 es n 0=if J12 es n 0 then some [] else none:=by
   unfold J15;rw[nr,O]
   by_cases h:J12 es n 0
   .rw[if_pos h,if_pos ⟨fun b e=>(by cases e),h⟩]
   .rw[if_neg h,if_neg fun g=>h g.2]
  simp(disch:=first|omega|assumption)only[W0,d1];refine R0 V ?_;rintro _ H1 Q ⟨⟨c,rfl,hc⟩,hE⟩;rw[hr]
  cases c with
  | true=>rw[if_pos (hc.1 rfl)];exact⟨⟨none,0,rfl,Sl.nil _ _ _⟩,hE⟩
  | false=>rw[if_neg (fun g=>by have:=hc.2 g;cases this)];exact⟨⟨none,0,rfl,Sl.nil _ _ _⟩,hE⟩
 .have d1:decide ((f:Int)=0)=false:=by simp;omega
  simp(disch:=first|omega|assumption)only[W0,d1];refine R0 (D48 hn hf (by omega) A es cap U J E f [] none 0 none (.slice none 0 0) H nx (by simp) List.nodup_nil (fun x h=>by simp at h) (fun b e=>by cases e) hS (Sl.nil _ _ _) (.inl rfl) rfl) ?_;rintro r H1 Q ⟨hr,hE⟩;have hr:LsO (J15 es n f) r H1 Q:=hr
  cases hx:J15 es n f with
  | none=>
   rw[hx] at hr;cases hr;rw[N34];simp(disch:=first|omega|assumption)only[Option.isSome_none];exact⟨⟨none,0,rfl,Sl.nil _ _ _⟩,hE⟩
  | some b=>
   rw[hx] at hr;obtain⟨ab,cb,rfl,W⟩:=hr;rw[N34];simp(disch:=first|omega|assumption)only[Option.isSome_some];exact⟨⟨some ab,cb,rfl,W⟩,hE⟩
end Go.Proofs.YtoiioigihocgbaaGreatDoor
