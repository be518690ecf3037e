/-
  Contracts: the reference's Path.
  Contracts: the reference's next step,Reduce,Acyclic.
-/
import Derived.Test.YtpiobdofbhkmjaaDoorL47
import Derived.Test.YtpiobdofbhkmjaaDoorL37
set_option linter.unusedSimpArgs false
set_option linter.unusedVariables false
set_option linter.unusedSectionVars false
namespace Go.Clo
theorem R88 {H:Y0} {nx bytes cap:Nat} {B:Option Addr} {l:List Value} {k:EP} (hS:Sl H nx B l) (h0:Has H nx B) (hb:bytes<=16) (hl:l.length<=1000000) (ho:Z0 l=true)
  (hk:∀ v' H' nx',X30 nx H' nx' v' l->D0 H nx H' nx'->k v' H' nx'):U7 (.slice none 0 0) (.slice B l.length cap) 1 bytes H nx k:=by
 have hsrc:=Y36 (cap:=cap) (m:=l.length) hS h0 (by omega) (by omega:0<1)
 rcases Nat.eq_zero_or_pos l.length with h | h
 .have e:=List.length_eq_zero_iff.1 h
  subst e
  rw[X79 (by simpa using hsrc) (by omega)]
  exact hk _ _ _ (.inl (Q6.nil _ _ _ _)) (D0.refl _ _)
 .have hb1:(2*(0+l.length)+1000)*bytes<=281474976710656:=by
   have:=Nat.mul_le_mul (show 2*(0+l.length)+1000<=2*1000000+1000 by omega) hb
   omega
  refine N16 (lo:=nx) (H0:=H) (by omega) (Q6.nil nx H nx 1) hsrc h ho hb1 (by omega) (D0.refl _ _) (Nat.le_refl _) ?_
  intro v' H' hA hE _
  rw[Nat.zero_add,List.nil_append] at hA
  exact hk _ _ _ (.inl hA) hE
end Go.Clo
namespace Go.Proofs.YtpiobdofbhkmjaaDoor
open Go.Clo
theorem R49:∀ {N:Nat} {l:List Nat},l.Nodup->(∀ x ∈ l,x<N)->l.length<=N
 | 0,l,_,h=>by
  cases l with
  | nil=>simp
  | cons a l=>exact absurd (h a (by simp)) (by omega)
 | N+1,l,hnd,h=>by
  have h1:=R49 (N:=N) (l:=l.erase N) (hnd.erase N) fun x hx=>by
   have h1:=h x (List.mem_of_mem_erase hx)
   have h2:x≠N:=fun e=>by subst e;exact (List.Nodup.not_mem_erase hnd) hx
   omega
  have h3:=List.length_erase (a:=N) (l:=l)
  split at h3<;>omega
def Fst (es:List Nat) (N f:Nat) (p:List Nat) (v:Nat):Prop:=
 FOk (V7 es) p v/\(1<p.length/\v<f\/((p.length=0->v<f)/\(p.length=1->f<=v)/\¬ (1<p.length/\v<f)/\Y27 (V7 es) N f (p++[v])))
theorem G49 {es:List Nat} {N f:Nat} {p:List Nat}:Y27 (V7 es) N f p<->∃ v,v<N/\Fst es N f p v:=by
 constructor
 .intro h
  cases h with
  | last h1 h2 h3 h4=>exact⟨_,h2,h1,.inl ⟨h4,h3⟩⟩
  | more h1 h2 h3 h4 h5 h6=>exact⟨_,h2,h1,.inr ⟨h3,h4,h5,h6⟩⟩
 .rintro⟨v,h2,h1,⟨h4,h3⟩ | ⟨h3,h4,h5,h6⟩⟩
  .exact .last h1 h2 h3 h4
  .exact .more h1 h2 h3 h4 h5 h6
section
variable {N f:Nat} (A:Option Addr) (es:List Nat) (cap:Nat) (hN:N<=32) (hf:f<=N) (hsm:Z4 es) (hle:es.length<=64)
def J72 (N f:Nat) (A:Option Addr) (es:List Nat) (cap:Nat) (p:List Nat):Prop:=
 ∀ (B:Option Addr) (H:Y0) (nx:Nat),Sl H nx A (N1 es)->Sl H nx B (R3 (p.map fun (x:Nat)=>(x:Int)))->Has H nx B ->
  J2 Tryd.prog 12 [gv (N:Int) A es.length cap,.int .i64 (f:Int),.slice B p.length p.length] H nx fun r H' nx'=>(∃ c:Bool,r = .bool c/\(c=true<->Y27 (V7 es) N f p))/\D0 H nx H' nx'
include hN hf hsm hle
theorem G59 {p:List Nat} (hnd:p.Nodup) (hlt:∀ x ∈ p,x<N) (hrec:∀ v,v<N->v ∉ p->J72 N f A es cap (p++[v])):J72 N f A es cap p:=by
 intro B H nx hS hB h0
 have hpl:=R49 hnd hlt
 have hlen:(R3 (p.map fun (x:Nat)=>(x:Int))).length=p.length:=by rw[W5,List.length_map]
 refine spec12 ?_
 unfold F12
 have hE1:D0 H nx (hs H nx (some (.cells [.int .i64 (N:Int),.slice A es.length cap] 0))) (nx+1):=(D0.refl H nx).new _ (Nat.le_refl _) (by omega)
 have g1:X0 (hs H nx (some (.cells [.int .i64 (N:Int),.slice A es.length cap] 0))) nx=some (.cells [.int .i64 (N:Int),.slice A es.length cap] 0):=Q0 _ _ _
 simp (disch:=first|omega|assumption) only[W0,Z0,B0.val]
 generalize hs H nx (some (.cells [.int .i64 (N:Int),.slice A es.length cap] 0))=H1 at *
 have key:∀ {H2:Y0} {n2:Nat},D0 H1 (nx+1) H2 n2->X0 H2 nx=some (.cells [.int .i64 (N:Int),.slice A es.length cap] 0)/\Sl H2 n2 A (N1 es)/\Sl H2 n2 B (R3 (p.map fun (x:Nat)=>(x:Int)))/\Has H2 n2 B:=fun h=>⟨by rw[h.get nx (by omega)];exact g1,hS.ext (hE1.trans h),hB.ext (hE1.trans h),h0.ext (hE1.trans h)⟩
 refine E1 (m:=N) (fun m L H' nx'=>∃ v:Nat,m+v=N/\L=[.int .i64 (v:Int)]/\(∀ u,u<v->¬ Fst es N f p u)/\D0 H1 (nx+1) H' nx') ?_ ⟨0,rfl,rfl,fun u h=>by omega,D0.refl _ _⟩
 rintro m ih L H2 n2 ⟨v,hm,rfl,hv,e2⟩ hih
 obtain⟨g2,_⟩:=key e2
 simp (disch:=first|omega|assumption) only[W0,g2]
 by_cases hi:v<N
 case neg=>
  have hi':¬ (v:Int)<(N:Int):=by omega
  simp (disch:=first|omega|assumption) only[W0,hi']
  refine⟨⟨false,rfl,?_⟩,hE1.trans e2⟩
  rw[G49]
  exact⟨fun h=>(by cases h),fun⟨u,h1,h2⟩=>absurd h2 (hv u (by omega))⟩
 have hi':(v:Int)<(N:Int):=by omega
 have next:¬ Fst es N f p v->∀ u,u<v+1->¬ Fst es N f p u:=fun h u hu=>by
  by_cases e:u=v
  .subst e;exact h
  .exact hv u (by omega)
 simp (disch:=first|omega|assumption) only[W0,hi']
 refine J6 (fun L H' nx'=>L=[]/\¬ Fst es N f p v/\D0 H1 (nx+1) H' nx') ?_ ?_
 case refine_2=>
  rintro L H3 n3 ⟨rfl,h1,e3⟩
  exact hih (m-1) _ _ _ (by omega) ⟨v+1,by omega,by simp,next h1,e3⟩
 intro jj hjj
 refine E1 (m:=p.length) (fun m L H' nx'=>∃ (j:Nat) (ok:Bool),m+j=p.length/\L=[.bool ok,.int .i64 (j:Int)]/\(ok=true<->∀ i x:Nat,i<j->p[i]? = some x->x≠v/\(V7 es x v<->i+1=p.length))/\D0 H1 (nx+1) H' nx') ?_ ⟨0,true,rfl,rfl,⟨fun _ i x h=>by omega,fun _=>rfl⟩,e2⟩
 rintro m2 ih2 L H4 n4 ⟨j,ok,hm2,rfl,hok,e4⟩ hih2
 obtain⟨g4,s4,b4,k4⟩:=key e4
 by_cases hj:j<p.length
 .have hj':(j:Int)<(p.length:Int):=by omega
  obtain⟨x,hx⟩:∃ x,p[j]? = some x:=⟨_,List.getElem?_eq_getElem hj⟩
  have hxI:(p.map fun (x:Nat)=>(x:Int))[j]? = some (x:Int):=by rw[List.getElem?_map,hx];rfl
  obtain⟨Bb,o,row,rfl,hBn,hrow,hget⟩:=b4.open (i:=j) (by rw[hlen];omega)
  have g0:=hget _ _ (U17 hxI)
  have step:∀ c:Bool,(c=true<->x≠v/\(V7 es x v<->j+1=p.length))->((cond c ok false)=true<->∀ i y:Nat,i<j+1->p[i]? = some y->y≠v/\(V7 es y v<->i+1=p.length)):=fun c hc=>by
   constructor
   .intro h i y hi hy
    cases c with
    | false=>cases h
    | true=>
     by_cases e:i=j
     .subst e;rw[hx] at hy;cases hy;exact hc.1 rfl
     .exact hok.1 h i y (by omega) hy
   .intro h
    rw[hc.2 (h j x (by omega) hx)]
    exact hok.2 fun i y hi hy=>h i y (by omega) hy
  by_cases hxv:x=v
  .have d1:decide ((x:Int)=(v:Int))=true:=by simp[hxv]
   simp (config:={ maxSteps:=2000000 }) (disch:=first|omega|assumption) only[W0,hj',K3,Y3 hrow,g0,d1]
   exact hih2 (m2-1) _ _ _ (by omega) ⟨j+1,false,by omega,by simp,step false ⟨fun h=>(by cases h),fun h=>absurd hxv h.1⟩,e4.more (by omega)⟩
  .have d1:decide ((x:Int)=(v:Int))=false:=by simp;omega
   simp (config:={ maxSteps:=2000000 }) (disch:=first|omega|assumption) only[W0,hj',K3,Y3 hrow,g0,d1,g4,J3]
   refine K0 (U43 (N:Int) (a:=x) (b:=v) A es cap _ _ (s4.ext (D0.self (by omega))) hsm hle) ?_
   rintro _ H5 n5 ⟨rfl,h5⟩
   have e5:D0 H1 (nx+1) H5 n5:=(e4.more (show n4<=n4+21 by omega)).trans h5
   have d2:decide ((j:Int)=(p.length:Int)-1)=decide (j+1=p.length):=by
    congr 1;apply propext;omega
   have hj2:j<p.length:=hj
   simp (disch:=first|omega|assumption) only[W0,R43,d2]
   by_cases hc:(adj es x v==decide (j+1=p.length))=true
   .have hc2:(cond true (!(adj es x v==decide (j+1=p.length))) (adj es x v==decide (j+1=p.length)))=false:=by rw[hc];rfl
    rw[hc2]
    simp (disch:=first|omega|assumption) only[W0]
    exact hih2 (m2-1) _ _ _ (by omega) ⟨j+1,ok,by omega,by simp,step true ⟨fun _=>⟨hxv,by rw[<- Z18,beq_iff_eq.1 hc];exact decide_eq_true_iff⟩,fun _=>rfl⟩,e5⟩
   .have hc2:(cond true (!(adj es x v==decide (j+1=p.length))) (adj es x v==decide (j+1=p.length)))=true:=by rw[Bool.eq_false_iff.2 hc];rfl
    rw[hc2]
    simp (disch:=first|omega|assumption) only[W0]
    refine hih2 (m2-1) _ _ _ (by omega) ⟨j+1,false,by omega,by simp,step false ⟨fun h=>(by cases h),fun h=>absurd ?_ hc⟩,e5⟩
    rw[beq_iff_eq,Bool.eq_iff_iff,Z18,decide_eq_true_iff]
    exact h.2
 have hj':¬ (j:Int)<(p.length:Int):=by omega
 have hok2:ok=true<->FOk (V7 es) p v:=by
  rw[hok]
  exact⟨fun h i x hx=>h i x (by have:=(List.getElem?_eq_some_iff.1 hx).1;omega) hx,fun h i x _ hx=>h i x hx⟩
 have l0:decide ((p.length:Int)=0)=decide (p.length=0):=by congr 1;apply propext;omega
 have l1:decide ((p.length:Int)=1)=decide (p.length=1):=by congr 1;apply propext;omega
 have l2:decide ((p.length:Int) > 1)=decide (1<p.length):=by congr 1;apply propext;omega
 have l3:decide ((v:Int)<(f:Int))=decide (v<f):=by congr 1;apply propext;omega
 have l4:decide ((v:Int) ≥ (f:Int))=decide (f<=v):=by congr 1;apply propext;omega
 simp (disch:=first|omega|assumption) only[W0,hj']
 refine J6 (fun L H' nx'=>L=[.bool (!ok || (decide (p.length=0)&&decide (f<=v)) || (decide (p.length=1)&&decide (v<f)))]/\H4=H'/\n4=nx') ?_ ?_
 .intro j2 hj2
  cases ok with
  | false => 
   simp (disch:=first|omega|assumption) only[W0]
   exact hj2 _ _ _ ⟨by simp,rfl,rfl⟩
  | true=>
   by_cases n0:p.length=0
   .have n1:¬ p.length=1:=by omega
    by_cases h3:f<=v
    .simp (disch:=first|omega|assumption) only[W0,l1,l3,l4,decide_eq_true n0,decide_eq_true h3]
     exact hj2 _ _ _ ⟨by simp[n0,h3],rfl,rfl⟩
    .simp (disch:=first|omega|assumption) only[W0,l1,l3,l4,decide_eq_true n0,decide_eq_false n1,decide_eq_false h3]
     exact hj2 _ _ _ ⟨by simp[n0,h3],rfl,rfl⟩
   .by_cases n1:p.length=1
    .simp (disch:=first|omega|assumption) only[W0,l1,l3,l4,decide_eq_false n0,decide_eq_true n1]
     exact hj2 _ _ _ ⟨by simp[n1],rfl,rfl⟩
    .simp (disch:=first|omega|assumption) only[W0,l1,l3,l4,decide_eq_false n0,decide_eq_false n1]
     exact hj2 _ _ _ ⟨by simp[n0,n1],rfl,rfl⟩
 rintro L _ _ ⟨rfl,rfl,rfl⟩
 by_cases hsk:(!ok || (decide (p.length=0)&&decide (f<=v)) || (decide (p.length=1)&&decide (v<f)))=true
 .rw[hsk]
  simp (disch:=first|omega|assumption) only[W0]
  refine hjj _ _ _ ⟨rfl,?_,e4⟩
  rintro⟨q1,q2⟩
  rw[<- hok2] at q1
  simp only[q1,Bool.not_true,Bool.false_or,Bool.or_eq_true,Bool.and_eq_true,decide_eq_true_iff] at hsk
  rcases q2 with ⟨q3,q4⟩ | ⟨q3,q4,_⟩
  .omega
  .rcases hsk with ⟨a1,a2⟩ | ⟨a1,a2⟩
   .have:=q3 a1;omega
   .have:=q4 a1;omega
 rw[Bool.eq_false_iff.2 hsk]
 have hok3:ok=true:=by
  cases ok with
  | true=>rfl
  | false=>exact absurd (by simp) hsk
 have hF:=hok2.1 hok3
 subst hok3
 have hs0:p.length=0->v<f:=fun h=>by simp[h] at hsk;exact hsk
 have hs1:p.length=1->f<=v:=fun h=>by simp[h] at hsk;exact hsk
 simp (disch:=first|omega|assumption) only[W0]
 refine J6 (fun L H' nx'=>L=[.bool (decide (1<p.length/\v<f))]/\H4=H'/\n4=nx') ?_ ?_
 .intro j2 hj2
  by_cases n1:1<p.length
  .simp (disch:=first|omega|assumption) only[W0,l2,l3,decide_eq_true n1]
   exact hj2 _ _ _ ⟨by simp[n1],rfl,rfl⟩
  .simp (disch:=first|omega|assumption) only[W0,l2,l3,decide_eq_false n1]
   exact hj2 _ _ _ ⟨by simp[n1],rfl,rfl⟩
 rintro L _ _ ⟨rfl,rfl,rfl⟩
 by_cases hlast:1<p.length/\v<f
 .simp (disch:=first|omega|assumption) only[W0,decide_eq_true hlast]
  exact⟨⟨true,rfl,by rw[G49];exact⟨fun _=>⟨v,hi,hF,.inl hlast⟩,fun _=>rfl⟩⟩,hE1.trans e4⟩
 simp (disch:=first|omega|assumption) only[W0,decide_eq_false hlast]
 have hc:∀ k:EP,(∀ v' H' nx',X30 n4 H' nx' v' (R3 (p.map fun (x:Nat)=>(x:Int)))->D0 H4 n4 H' nx'->k v' H' nx')->U7 (.slice none 0 0) (.slice B p.length p.length) 1 8 H4 n4 k:=fun k hk=>by
  have:=R88 (bytes:=8) (cap:=p.length) (k:=k) b4 k4 (by omega) (by omega) (W21 _) hk
  rwa [hlen] at this
 refine hc _ ?_
 intro v5 H5 n5 hA5 h5
 have e5:=e4.trans h5
 obtain⟨g5,_⟩:=key e5
 have hbs:∀ (x:Int) k,G7 1 1 [.int .i64 0] [(0,.int .i64 x)] k=k [.int .i64 x]:=fun x k=>rfl
 simp (disch:=first|omega|assumption) only[W0,g5,J3,hbs]
 have hE6:D0 H5 n5 (hs H5 (n5+4) (some (.cells [.int .i64 (v:Int)] 0))) (n5+7):=(D0.refl _ _).new _ (by omega) (by omega)
 have g6:X0 (hs H5 (n5+4) (some (.cells [.int .i64 (v:Int)] 0))) (n5+4)=some (.cells [.int .i64 (v:Int)] 0):=Q0 _ _ _
 generalize hs H5 (n5+4) (some (.cells [.int .i64 (v:Int)] 0))=H6 at *
 have h5le:=h5.le
 refine Z57 (H0:=H4) (lo:=n4) (y := .int .i64 (v:Int)) (hA5.ext hE6) (Z8 g6 rfl (by omega)) rfl (by omega) (by omega) (h5.trans hE6) (by omega) ?_
 intro v7 H7 hA7 h7 _
 have e7:=e4.trans h7
 obtain⟨g7,s7,_,_⟩:=key e7
 have eL:R3 (p.map fun (x:Nat)=>(x:Int))++[.int .i64 (v:Int)]=R3 ((p++[v]).map fun (x:Nat)=>(x:Int)):=by simp[R3]
 rw[eL] at hA7
 obtain⟨P7,rfl,hP7,hP7h⟩:=hA7.sl
 have hlen7:(R3 ((p++[v]).map fun (x:Nat)=>(x:Int))).length=(p++[v]).length:=by rw[W5,List.length_map]
 rw[hlen7]
 have hvp:v ∉ p:=fun h=>by
  obtain⟨i,hi⟩:=List.getElem?_of_mem h
  exact (hF i v hi).1 rfl
 refine K0 (hrec v hi hvp P7 _ _ s7 hP7 hP7h) ?_
 rintro _ H8 n8 ⟨⟨c,rfl,hc8⟩,h8⟩
 have e8:=e7.trans h8
 simp (disch:=first|omega|assumption) only[W0,g7,J3]
 cases c with
 | true=>
  simp (disch:=first|omega|assumption) only[W0]
  exact⟨⟨true,rfl,by rw[G49];exact⟨fun _=>⟨v,hi,hF,.inr ⟨hs0,hs1,hlast,hc8.1 rfl⟩⟩,fun _=>rfl⟩⟩,hE1.trans e8⟩
 | false=>
  simp (disch:=first|omega|assumption) only[W0]
  refine hjj _ _ _ ⟨rfl,?_,e8⟩
  rintro⟨_,q2 | ⟨_,_,_,q5⟩⟩
  .exact hlast q2
  .have:=hc8.2 q5;cases this
theorem W87:∀ (k:Nat) (p:List Nat),p.Nodup->(∀ x ∈ p,x<N)->p.length+k=N->J72 N f A es cap p:=by
 intro k
 induction k with
 | zero=>
  intro p hnd hlt hk
  refine G59 A es cap hN hf hsm hle hnd hlt fun v hv hvp => ?_
  have:=R49 (G28 hnd hvp) (N:=N) fun x hx=>by
   rcases List.mem_append.1 hx with h | h
   .exact hlt x h
   .have:x=v:=by simpa using h
    omega
  simp at this
  omega
 | succ k ih=>
  intro p hnd hlt hk
  refine G59 A es cap hN hf hsm hle hnd hlt fun v hv hvp=>ih _ (G28 hnd hvp) (fun x hx => ?_) (by simp;omega)
  rcases List.mem_append.1 hx with h | h
  .exact hlt x h
  .have:x=v:=by simpa using h
   omega
end
end Go.Proofs.YtpiobdofbhkmjaaDoor

namespace Go.Clo
def U14 (l:List Bool):List Value:=l.map fun b=>Value.bool b
theorem Q40 {l:List Bool} {i:Nat} {x:Bool} (h:l[i]? = some x):(U14 l)[i]? = some (.bool x):=by simp[U14,h]
theorem Y23 (l:List Bool):(U14 l).length=l.length:=by simp[U14]
theorem B75 {l:List Bool} {i:Nat} {x:Bool} (h:i<l.length):G6 (U14 l) i [.bool x]=U14 (l.set i x):=by
 rw[E48 (by rw[Y23];exact h)]
 simp[U14,List.map_set]
theorem W45:∀ n:Nat,V5 [.bool false] n=U14 (List.replicate n false)
 | 0=>rfl
 | n+1=>by rw[V5,W45 n];rfl
theorem J68 {a b:Nat} (hb:b<=a) (ha:a<4294967296) (k:VP):J0 .sub (.int .u32 (a:Int)) (.int .u32 (b:Int)) k=k (.int .u32 ((a-b:Nat):Int)):=by
 rw[E37]
 have e:IntKind.u32.wrap ((a:Int)-(b:Int))=((a-b:Nat):Int):=by
  simp only[IntKind.wrap,IntKind.signed,IntKind.bits]
  simp
  omega
 rw[e]
end Go.Clo
namespace Go.Proofs.YtpiobdofbhkmjaaDoor
open Go.Clo
def X40 (M:List Nat) (g:List Bool) (e f:Nat):Prop:=e≠f/\g[e]? = some false/\g[f]? = some false/\∃ x y,M[e]? = some x/\M[f]? = some y/\∀ w,x.testBit w=true->y.testBit w=true
def Liv (M:List Nat) (g:List Bool) (v e:Nat):Prop:=g[e]? = some false/\∃ x,M[e]? = some x/\x.testBit v=true
def U66 (M:List Nat) (g:List Bool) (v e:Nat):Prop:=Liv M g v e/\∀ j,Liv M g v j->j=e
def J96 (M:List Nat) (g:List Bool) (n:Nat) (r:Value):Prop:=
 (∃ e f:Nat,X40 M g e f/\r = .tuple ⟨[.agg ⟨[.int .i64 (e:Int),.int .i64 (f:Int),.int .i64 (-1)]⟩,.bool true]⟩)
 \/ (∃ e v:Nat,v<n/\U66 M g v e/\r = .tuple ⟨[.agg ⟨[.int .i64 (e:Int),.int .i64 (-1),.int .i64 (v:Int)]⟩,.bool true]⟩)
 \/ ((∀ e f:Nat,¬ X40 M g e f)/\(∀ e v:Nat,v<n->¬ U66 M g v e)/\r = .tuple ⟨[.agg ⟨[.int .i64 0,.int .i64 0,.int .i64 0]⟩,.bool false]⟩)
def Cnt (M:List Nat) (g:List Bool) (v k inn edge:Nat):Prop:=
 inn<=k/\((inn=0/\∀ j,j<k->¬ Liv M g v j)\/(inn=1/\Liv M g v edge/\∀ j,j<k->Liv M g v j->j=edge)\/(2<=inn/\∃ i j,i≠j/\Liv M g v i/\Liv M g v j))
theorem Cnt.no {M:List Nat} {g:List Bool} {v k inn edge:Nat} (h:Cnt M g v k inn edge) (hn:¬ Liv M g v k):Cnt M g v (k+1) inn edge:=by
 refine⟨by have:=h.1;omega,?_⟩
 rcases h.2 with ⟨a,b⟩ | ⟨a,b,c⟩ | h
 .refine .inl ⟨a,fun j hj => ?_⟩
  by_cases e:j=k
  .subst e;exact hn
  .exact b j (by omega)
 .refine .inr (.inl ⟨a,b,fun j hj hl => ?_⟩)
  by_cases e:j=k
  .subst e;exact absurd hl hn
  .exact c j (by omega) hl
 .exact .inr (.inr h)
theorem Cnt.yes {M:List Nat} {g:List Bool} {v k inn edge:Nat} (h:Cnt M g v k inn edge) (hn:Liv M g v k) (hlt:inn=1->edge<k):Cnt M g v (k+1) (inn+1) k:=by
 refine⟨by have:=h.1;omega,?_⟩
 rcases h.2 with ⟨a,b⟩ | ⟨a,b,c⟩ | ⟨a,b⟩
 .refine .inr (.inl ⟨by omega,hn,fun j hj hl => ?_⟩)
  by_cases e:j=k
  .exact e
  .exact absurd hl (b j (by omega))
 .exact .inr (.inr ⟨by omega,edge,k,by have:=hlt a;omega,b,hn⟩)
 .exact .inr (.inr ⟨by omega,b⟩)
theorem wB3 (a b c:Int) (k:VP):M4 [.int .i64 0,.int .i64 0,.int .i64 0] [(0,1),(1,1),(2,1)] [(0,.int .i64 a),(1,.int .i64 b),(2,.int .i64 c)] k=k (.agg ⟨[.int .i64 a,.int .i64 b,.int .i64 c]⟩):=rfl
theorem wB0 (k:VP):M4 [.int .i64 0,.int .i64 0,.int .i64 0] [(0,1),(1,1),(2,1)] [] k=k (.agg ⟨[.int .i64 0,.int .i64 0,.int .i64 0]⟩):=rfl
set_option maxHeartbeats 2000000 in
theorem C84 {n:Nat} (hn:n<=32) {M:List Nat} {g:List Bool} (hsm:Z4 M) (hle:M.length<=64) (hg:g.length=M.length) (cM cG:Nat) {A G:Option Addr} {H:Y0} {nx:Nat} (hM:Sl H nx A (N1 M)) (hG:Sl H nx G (U14 g)):
  J2 Tryd.prog 60 [.slice A M.length cM,.slice G M.length cG,.int .i64 (n:Int)] H nx fun r H' nx'=>J96 M g n r/\D0 H nx H' nx':=by
 refine spec60 ?_
 unfold F60
 have hE1:D0 H nx (hs H nx (some (.cells [.int .i64 0,.int .i64 0,.int .i64 0] 0))) (nx+1):=(D0.refl H nx).new _ (Nat.le_refl _) (by omega)
 have g1:X0 (hs H nx (some (.cells [.int .i64 0,.int .i64 0,.int .i64 0] 0))) nx=some (.cells [.int .i64 0,.int .i64 0,.int .i64 0] 0):=Q0 _ _ _
 simp (disch:=first|omega|assumption) only[W0,B0.val]
 generalize hs H nx (some (.cells [.int .i64 0,.int .i64 0,.int .i64 0] 0))=H1 at *
 have fin:∀ (c:List Value) {n2:Nat},nx+1<=n2->D0 H nx (hs H1 nx (some (.cells c 0))) n2:=fun c n2 h=>(hE1.more h).hs (Nat.le_refl _)
 refine E1 (m:=M.length) (fun m L H' nx'=>∃ i:Nat,m+i=M.length/\L=[.int .i64 (i:Int)]/\(∀ e f,e<i->¬ X40 M g e f)/\H1=H'/\nx+1<=nx') ?_ ⟨0,rfl,rfl,fun e f h=>by omega,rfl,Nat.le_refl _⟩
 rintro m ih L _ n2 ⟨i,hm,rfl,hi0,rfl,hn2⟩ hih
 simp (disch:=first|omega|assumption) only[W0]
 by_cases hi:i<M.length
 .have hi':(i:Int)<(M.length:Int):=by omega
  simp (disch:=first|omega|assumption) only[W0,hi']
  obtain⟨x,hx⟩:∃ x,M[i]? = some x:=⟨_,List.getElem?_eq_getElem hi⟩
  obtain⟨gx,hgx⟩:∃ x,g[i]? = some x:=⟨_,List.getElem?_eq_getElem (by omega)⟩
  have hx32:=hsm.get hx
  refine E1 (m:=M.length) (fun m L H' nx'=>∃ j:Nat,m+j=M.length/\L=[.int .i64 (j:Int)]/\(∀ f,f<j->¬ X40 M g i f)/\H1=H'/\nx+1<=nx') ?_ ⟨0,rfl,rfl,fun f h=>by omega,rfl,hn2⟩
  rintro m2 ih2 L _ n3 ⟨j,hm2,rfl,hj0,rfl,hn3⟩ hih2
  simp (disch:=first|omega|assumption) only[W0]
  by_cases hj:j<M.length
  .have hj':(j:Int)<(M.length:Int):=by omega
   obtain⟨y,hy⟩:∃ x,M[j]? = some x:=⟨_,List.getElem?_eq_getElem hj⟩
   obtain⟨gy,hgy⟩:∃ x,g[j]? = some x:=⟨_,List.getElem?_eq_getElem (by omega)⟩
   have hy32:=hsm.get hy
   have hM1:=hM.ext (hE1.more hn3)
   have hG1:=hG.ext (hE1.more hn3)
   obtain⟨bM,oM,rM,rfl,hbM,hrM,hgetM⟩:=hM1.open (i:=i) (by rw[G1];omega)
   obtain⟨bG,oG,rG,rfl,hbG,hrG,hgetG⟩:=hG1.open (i:=i) (by rw[Y23];omega)
   have m0:=hgetM _ _ (G3 hx)
   have m1:=hgetM _ _ (G3 hy)
   have b0:=hgetG _ _ (Q40 hgx)
   have b1:=hgetG _ _ (Q40 hgy)
   simp (disch:=first|omega|assumption) only[W0,hj']
   refine J6 (fun L H' nx'=>(∃ c:Bool,L=[.bool c]/\(c=true<->X40 M g i j))/\H1=H'/\nx+1<=nx') ?_ ?_
   .intro jj hjj
    by_cases hij:i=j
    .have d1:decide ((i:Int)≠(j:Int))=false:=by simp[hij]
     simp (disch:=first|omega|assumption) only[W0,d1]
     exact hjj _ _ _ ⟨⟨false,rfl,fun h=>(by cases h),fun h=>absurd hij h.1⟩,rfl,by omega⟩
    have d1:decide ((i:Int)≠(j:Int))=true:=by simp;omega
    cases gx with
    | true=>
     simp (disch:=first|omega|assumption) only[W0,d1,Y3 hrG,b0]
     exact hjj _ _ _ ⟨⟨false,rfl,fun h=>(by cases h),fun h=>by rw[h.2.1] at hgx;cases hgx⟩,rfl,by omega⟩
    | false=>
     cases gy with
     | true=>
      simp (disch:=first|omega|assumption) only[W0,d1,Y3 hrG,b0,b1]
      exact hjj _ _ _ ⟨⟨false,rfl,fun h=>(by cases h),fun h=>by rw[h.2.2.1] at hgy;cases hgy⟩,rfl,by omega⟩
     | false=>
      simp (disch:=first|omega|assumption) only[W0,d1,Y3 hrG,Y3 hrM,b0,b1,m0,m1]
      refine K0 (M64 hy32 hx32 _ _) ?_
      rintro _ _ _ ⟨rfl,rfl,rfl⟩
      refine hjj _ _ _ ⟨⟨_,rfl,?_⟩,rfl,by omega⟩
      rw[R84 hx32]
      exact⟨fun h=>⟨hij,hgx,hgy,x,y,hx,hy,h⟩,fun⟨_,_,_,x',y',h1,h2,h3⟩=>by
       rw[hx] at h1;rw[hy] at h2;cases h1;cases h2;exact h3⟩
   rintro L _ n4 ⟨⟨c,rfl,hc⟩,rfl,hn4⟩
   cases c with
   | true=>
    simp (disch:=first|omega|assumption) only[W0,Z0,Nat.reduceAdd,wB3,g1,G5,D3]
    exact⟨.inl ⟨i,j,hc.1 rfl,rfl⟩,fin _ hn4⟩
   | false=>
    simp (disch:=first|omega|assumption) only[W0]
    refine hih2 (m2-1) _ _ _ (by omega) ⟨j+1,by omega,by simp,fun f hf => ?_,rfl,hn4⟩
    by_cases e:f=j
    .subst e;exact fun h=>by have:=hc.2 h;cases this
    .exact hj0 f (by omega)
  .have hj':¬ (j:Int)<(M.length:Int):=by omega
   simp (disch:=first|omega|assumption) only[W0,hj']
   refine hih (m-1) _ _ _ (by omega) ⟨i+1,by omega,by simp,fun e f he => ?_,rfl,hn3⟩
   by_cases e1:e=i
   .subst e1
    intro h
    obtain⟨x',y',h1,h2,h3⟩:=h.2.2.2
    have:=(List.getElem?_eq_some_iff.1 h2).1
    exact hj0 f (by omega) h
   .exact hi0 e f (by omega)
 have hi':¬ (i:Int)<(M.length:Int):=by omega
 have noabs:∀ e f,¬ X40 M g e f:=fun e f h=>by
  obtain⟨x',y',h1,h2,h3⟩:=h.2.2.2
  have:=(List.getElem?_eq_some_iff.1 h1).1
  exact hi0 e f (by omega) h
 clear hi0
 simp (disch:=first|omega|assumption) only[W0,hi']
 refine E1 (m:=n) (fun m L H' nx'=>∃ v:Nat,m+v=n/\L=[.int .i64 (v:Int)]/\(∀ u e,u<v->¬ U66 M g u e)/\H1=H'/\nx+1<=nx') ?_ ⟨0,rfl,rfl,fun e f h=>by omega,rfl,hn2⟩
 rintro m3 ih3 L _ n3 ⟨v,hm3,rfl,hv0,rfl,hn3⟩ hih3
 simp (disch:=first|omega|assumption) only[W0]
 by_cases hv:v<n
 case neg=>
  have hv':¬ (v:Int)<(n:Int):=by omega
  simp (disch:=first|omega|assumption) only[W0,Z0,Nat.reduceAdd,hv',wB0,g1,G5,D3]
  exact⟨.inr (.inr ⟨noabs,fun e u hu=>hv0 u e (by omega),rfl⟩),fin _ hn3⟩
 have hv':(v:Int)<(n:Int):=by omega
 simp (disch:=first|omega|assumption) only[W0,hv']
 refine E1 (m:=M.length) (fun m L H' nx'=>∃ k inn edge:Nat,m+k=M.length/\L=[.int .i64 (inn:Int),.int .i64 (edge:Int),.int .i64 (k:Int)]/\Cnt M g v k inn edge/\(inn=1->edge<k)/\H1=H'/\nx+1<=nx') ?_ ⟨0,0,0,rfl,rfl,⟨Nat.le_refl _,.inl ⟨rfl,fun j h=>by omega⟩⟩,fun h=>by omega,rfl,hn3⟩
 rintro m4 ih4 L _ n4 ⟨k,inn,edge,hm4,rfl,hC,hek,rfl,hn4⟩ hih4
 have hink:=hC.1
 simp (disch:=first|omega|assumption) only[W0]
 by_cases hk:k<M.length
 .have hk':(k:Int)<(M.length:Int):=by omega
  obtain⟨x,hx⟩:∃ x,M[k]? = some x:=⟨_,List.getElem?_eq_getElem hk⟩
  obtain⟨gx,hgx⟩:∃ x,g[k]? = some x:=⟨_,List.getElem?_eq_getElem (by omega)⟩
  have hx32:=hsm.get hx
  have hM1:=hM.ext (hE1.more hn4)
  have hG1:=hG.ext (hE1.more hn4)
  obtain⟨bM,oM,rM,rfl,hbM,hrM,hgetM⟩:=hM1.open (i:=k) (by rw[G1];omega)
  obtain⟨bG,oG,rG,rfl,hbG,hrG,hgetG⟩:=hG1.open (i:=k) (by rw[Y23];omega)
  have m0:=hgetM _ _ (G3 hx)
  have b0:=hgetG _ _ (Q40 hgx)
  cases gx with
  | true=>
   simp (disch:=first|omega|assumption) only[W0,hk',K3,Y3 hrG,b0]
   refine hih4 (m4-1) _ _ _ (by omega) ⟨k+1,inn,edge,by omega,by simp,hC.no fun h=>(by rw[h.1] at hgx;cases hgx),fun h=>by have:=hek h;omega,rfl,hn4⟩
  | false=>
   simp (disch:=first|omega|assumption) only[W0,hk',K3,Y3 hrG,Y3 hrM,b0,m0]
   refine K0 (V44 hx32 _ _) ?_
   rintro _ _ _ ⟨rfl,rfl,rfl⟩
   cases hb:x.testBit v with
   | true=>
    simp (disch:=first|omega|assumption) only[W0]
    refine hih4 (m4-1) _ _ _ (by omega) ⟨k+1,inn+1,k,by omega,by simp,hC.yes ⟨hgx,x,hx,hb⟩ hek,fun h=>by omega,rfl,hn4⟩
   | false=>
    simp (disch:=first|omega|assumption) only[W0]
    refine hih4 (m4-1) _ _ _ (by omega) ⟨k+1,inn,edge,by omega,by simp,hC.no fun⟨_,x',h1,h2⟩=>(by rw[hx] at h1;cases h1;rw[hb] at h2;cases h2),fun h=>by have:=hek h;omega,rfl,hn4⟩
 have hk':¬ (k:Int)<(M.length:Int):=by omega
 have hall:∀ j,Liv M g v j->j<k:=fun j ⟨_,x',h1,_⟩=>by
  have:=(List.getElem?_eq_some_iff.1 h1).1
  omega
 by_cases h1:inn=1
 .have d1:decide ((inn:Int)=1)=true:=by simp[h1]
  simp (disch:=first|omega|assumption) only[W0,Z0,Nat.reduceAdd,hk',d1,wB3,g1,G5,D3]
  refine⟨.inr (.inl ⟨edge,v,hv,?_,rfl⟩),fin _ hn4⟩
  rcases hC.2 with ⟨a,_⟩ | ⟨_,a,b⟩ | ⟨a,_⟩
  .omega
  .exact⟨a,fun j hj=>b j (hall j hj) hj⟩
  .omega
 .have d1:decide ((inn:Int)=1)=false:=by simp;omega
  simp (disch:=first|omega|assumption) only[W0,hk',d1]
  refine hih3 (m3-1) _ _ _ (by omega) ⟨v+1,by omega,by simp,fun u e hu => ?_,rfl,hn4⟩
  by_cases e1:u=v
  .subst e1
   intro h
   rcases hC.2 with ⟨a,b⟩ | ⟨a,_⟩ | ⟨_,i',j',q1,q2,q3⟩
   .exact b e (hall e h.1) h.1
   .exact h1 a
   .exact q1 ((h.2 _ q2).trans (h.2 _ q3).symm)
  .exact hv0 u e (by omega)
theorem U55:∀ {l:List Nat} {i x y:Nat},l[i]? = some x->(l.set i y).sum+x=l.sum+y
 | [],i,x,y,h=>by simp at h
 | a :: l,0,x,y,h=>by
  simp at h
  subst h
  simp;omega
 | a :: l,i+1,x,y,h=>by
  have:=U55 (l:=l) (i:=i) (x:=x) (y:=y) (by simpa using h)
  simp;omega
theorem X36:∀ {g:List Bool} {i:Nat},g[i]? = some false->(g.set i true).count false+1=g.count false
 | [],i,h=>by simp at h
 | a :: l,0,h=>by
  simp at h
  subst h
  simp
 | a :: l,i+1,h=>by
  have:=X36 (g:=l) (i:=i) (by simpa using h)
  simp only[List.set_cons_succ,List.count_cons]
  omega
theorem Q82:∀ {l:List Nat} {b:Nat},(∀ x ∈ l,x<=b)->l.sum<=l.length*b
 | [],b,_=>by simp
 | a :: l,b,h=>by
  have h1:=Q82 (l:=l) (b:=b) fun x hx=>h x (by simp[hx])
  have h2:=h a (by simp)
  simp only[List.sum_cons,List.length_cons,Nat.add_mul,Nat.one_mul]
  omega
theorem W59 {M:List Nat} {e y B:Nat} (h:∀ x ∈ M,x<B) (hy:y<B):∀ x ∈ M.set e y,x<B:=fun x hx=>by
 rcases List.mem_or_eq_of_mem_set hx with h1 | h1
 .exact h x h1
 .omega
theorem U92 {α:Type} {l:List α} {i j:Nat} {x y:α} (h:(l.set i x)[j]? = some y):(i=j/\y=x)\/(i≠j/\l[j]? = some y):=by
 rw[List.getElem?_set] at h
 split at h
 .rename_i e
  split at h
  .exact .inl ⟨e,(Option.some.inj h).symm⟩
  .cases h
 .rename_i e
  exact .inr ⟨e,h⟩
structure RdS (es:List Nat) (n:Nat) (M:List Nat) (g:List Bool):Prop where
 pe:PE M<->PE es
 lm:M.length=es.length
 lg:g.length=es.length
 lt:∀ x ∈ M,x<2^n
 gone:∀ i:Nat,g[i]? = some true->M[i]? = some 0
theorem RdS.abs {es:List Nat} {n:Nat} {M:List Nat} {g:List Bool} (h:RdS es n M g) {e f:Nat} (ha:X40 M g e f):RdS es n (M.set e 0) (g.set e true)/\(M.set e 0).sum+(g.set e true).count false<M.sum+g.count false:=by
 obtain⟨h1,h2,h3,x,y,h4,h5,h6⟩:=ha
 refine⟨⟨(Z84 h1 h4 h5 h6).trans h.pe,by rw[List.length_set];exact h.lm,by rw[List.length_set];exact h.lg,W59 h.lt (Nat.pow_pos (by omega)),fun i hi => ?_⟩,?_⟩
 .rcases U92 hi with ⟨e1,_⟩ | ⟨e1,e2⟩
  .subst e1
   rw[List.getElem?_set_self (List.getElem?_eq_some_iff.1 h4).1]
  .rw[List.getElem?_set_ne e1];exact h.gone i e2
 .have:=U55 (y:=0) h4
  have:=X36 h2
  omega
theorem G67:∀ {v y:Nat},y.testBit v=false->∀ w,(2^v+y).testBit w=(y.testBit w || decide (w=v))
 | 0,y,h,0=>by
  rw[Nat.testBit_zero] at h ⊢
  rw[Nat.testBit_zero]
  have:=of_decide_eq_false h
  simp;omega
 | 0,y,h,w+1=>by
  rw[Nat.testBit_zero] at h
  have:=of_decide_eq_false h
  rw[Nat.testBit_succ,Nat.testBit_succ,show (2^0+y)/2=y/2 by omega]
  simp
 | v+1,y,h,0=>by
  rw[Nat.testBit_zero,Nat.testBit_zero]
  have e:(2^(v+1)+y)%2=y%2:=by rw[Nat.pow_succ];omega
  rw[e];simp
 | v+1,y,h,w+1=>by
  rw[Nat.testBit_succ] at h
  rw[Nat.testBit_succ,Nat.testBit_succ,show (2^(v+1)+y)/2=2^v+y/2 by rw[Nat.pow_succ];omega,G67 h w]
  simp
theorem U84 {x v:Nat} (h:x.testBit v=true):2^v<=x/\∀ w,(x-2^v).testBit w=(x.testBit w && !decide (w=v)):=by
 have hv:(M2 x (2^v)).testBit v=false:=by rw[N3,Nat.testBit_two_pow_self];simp
 have e:2^v+M2 x (2^v)=x:=by
  apply Nat.eq_of_testBit_eq
  intro w
  rw[G67 hv,N3,Nat.testBit_two_pow]
  by_cases hw:w=v
  .subst hw;simp[h]
  .have hw2:¬ v=w:=fun e=>hw e.symm
   simp[hw,hw2]
 refine⟨by omega,fun w => ?_⟩
 rw[show x-2^v=M2 x (2^v) by omega,N3,Nat.testBit_two_pow]
 by_cases hw:w=v
 .subst hw;simp
 .have hw2:¬ v=w:=fun e=>hw e.symm
  simp[hw,hw2]
theorem RdS.iso {es:List Nat} {n:Nat} {M:List Nat} {g:List Bool} (h:RdS es n M g) {e v x:Nat} (hx:M[e]? = some x) (ha:U66 M g v e):(2^v<=x)/\RdS es n (M.set e (x-2^v)) g/\(M.set e (x-2^v)).sum+g.count false<M.sum+g.count false:=by
 obtain⟨⟨h1,x',h2,h3⟩,h4⟩:=ha
 rw[hx] at h2
 cases h2
 obtain⟨hp,hb⟩:=U84 h3
 have hpos:0<2^v:=Nat.pow_pos (by omega)
 have hxl:=h.lt x (List.mem_of_getElem? hx)
 refine⟨hp,⟨(B94 hx h3 (fun j y hy hyv => ?_) fun w => ?_).trans h.pe,by rw[List.length_set];exact h.lm,h.lg,W59 h.lt (by omega),fun i hi => ?_⟩,?_⟩
 .have hjl:=(List.getElem?_eq_some_iff.1 hy).1
  obtain⟨b,hgb⟩:∃ b,g[j]? = some b:=⟨_,List.getElem?_eq_getElem (by rw[h.lg,<- h.lm];exact hjl)⟩
  cases b with
  | false=>exact h4 j ⟨hgb,y,hy,hyv⟩
  | true=>
   have:=h.gone j hgb
   rw[hy] at this
   cases this
   simp at hyv
 .rw[hb w];simp
 .have:=h.gone i hi
  by_cases e1:e=i
  .subst e1;rw[h1] at hi;cases hi
  .rw[List.getElem?_set_ne e1];exact this
 .have:=U55 (y:=x-2^v) hx
  omega
theorem RdS.stuck {es:List Nat} {n:Nat} {M:List Nat} {g:List Bool} (h:RdS es n M g) (h1:∀ e f:Nat,¬ X40 M g e f) (h2:∀ e v:Nat,v<n->¬ U66 M g v e):(∀ x ∈ M,x=0)<->PE es:=by
 rw[<- h.pe]
 constructor
 .exact K91
 .rintro⟨l,l1,l2⟩
  have live:∀ (i x:Nat),M[i]? = some x->x≠0->g[i]? = some false:=fun i x hi hx=>by
   have hil:=(List.getElem?_eq_some_iff.1 hi).1
   obtain⟨b,hgb⟩:∃ b,g[i]? = some b:=⟨_,List.getElem?_eq_getElem (by rw[h.lg,<- h.lm];exact hil)⟩
   cases b with
   | false=>exact hgb
   | true=>
    have:=h.gone i hgb
    rw[hi] at this
    cases this
    exact absurd rfl hx
  refine R51 (fun i j x y hij hi hj hx hy hs=>h1 i j ⟨hij,live i x hi hx,live j y hj hy,x,y,hi,hj,hs⟩) (fun i x v hi hv => ?_) l1 l2
  have hx0:x≠0:=fun e=>by rw[e] at hv;simp at hv
  refine Classical.byContradiction fun hno=>h2 i v (X11 (h.lt x (List.mem_of_getElem? hi)) hv) ⟨⟨live i x hi hx0,x,hi,hv⟩,fun j ⟨_,y,hy,hyv⟩ => ?_⟩
  refine Classical.byContradiction fun hji=>hno ⟨j,y,hji,hy,hyv⟩
end Go.Proofs.YtpiobdofbhkmjaaDoor
