/-
  Plain: the best width is at most 1 exactly if the graph is acyclic,has no free path and no disruptive trio.
  Contracts: the reference's Has and Check,law26.Of and Few.
  Contracts: the reference's Contains,Adjacent,Trio,Path.
-/
import Derived.Test.YtpiobdofbhkmjaaDoorL45
import Derived.Test.YtpiobdofbhkmjaaDoorL46
import Derived.Test.YtpiobdofbhkmjaaDoorL21
import Derived.Test.YtpiobdofbhkmjaaDoorL22
set_option linter.unusedSimpArgs false
set_option linter.unusedVariables false
set_option linter.unusedSectionVars false
namespace Go.Proofs.YtpiobdofbhkmjaaDoor
open Go.Clo
variable {es l:List Nat}
theorem Z18 {a b:Nat}:adj es a b=true<->V7 es a b:=by
 unfold adj V7
 simp only[Bool.and_eq_true,decide_eq_true_eq,List.any_eq_true]
theorem Z49 {es:List Nat} {s:Nat}:J31 es s=true<->∃ e ∈ es,∀ w,s.testBit w=true->e.testBit w=true:=by
 unfold J31
 rw[List.any_eq_true]
 constructor
 .rintro⟨e,h1,h2⟩;exact⟨e,h1,V17.1 (of_decide_eq_true h2)⟩
 .rintro⟨e,h1,h2⟩;exact⟨e,h1,decide_eq_true (V17.2 h2)⟩
theorem D59 (f:Nat):∀ i,i<=f->(E8 f i).map Int.toNat++dnL (f-i)=dnL f
 | 0,_=>rfl
 | i+1,h=>by
  rw[E8,List.map_append,List.append_assoc]
  have e:[((f:Int)-1-(i:Int))].map Int.toNat++dnL (f-(i+1))=dnL (f-i):=by
   have e1:f-i=(f-(i+1))+1:=by omega
   rw[e1,dnL]
   have e2:((f:Int)-1-(i:Int)).toNat=f-(i+1):=by omega
   simp[e2]
  rw[e]
  exact D59 f i (by omega)
theorem C75 (f:Nat):(E8 f f).map Int.toNat=dnL f:=by
 have:=D59 f f (Nat.le_refl _)
 rw[Nat.sub_self] at this
 simpa [dnL] using this
theorem B43 {es order:List Nat} (hpel:PEl es order) (hnd:order.Nodup):∀ (n:Nat) (p1 p2:List Nat),p1.length=n->order=p1++p2->∀ a b,a ∈ p2->b ∈ p2->a≠b->E9 (R18 es) (· ∈ p1) a b->V7 es a b
 | 0,p1,p2,hn,_,a,b,_,_,_,r=>by
  have:=List.length_eq_zero_iff.1 hn
  subst this
  cases r with
  | one h=>exact Z18.1 h
  | more _ h _=>simp at h
 | n+1,p1,p2,hn,e,a,b,ha,hb,hne,r=>by
  rcases List.eq_nil_or_concat p1 with h | ⟨pre,x,h⟩
  .subst h;simp at hn
  .rw[List.concat_eq_append] at h
   subst h
   have e':order=pre++(x :: p2):=by rw[e];simp
   have hl:pre.length=n:=by simpa using hn
   have hx:x ∉ p2:=by
    rw[e'] at hnd
    exact (List.nodup_cons.1 (List.nodup_append.1 hnd).2.1).1
   rcases r.split (P:=(· ∈ pre)) (v:=x) (fun y hy=>by simpa using hy) with g | ⟨g1,g2⟩
   .exact B43 hpel hnd n pre (x :: p2) hl e' a b (by simp[ha]) (by simp[hb]) hne g
   .have a1:=(B43 hpel hnd n pre (x :: p2) hl e' a x (by simp[ha]) (by simp) (fun h=>hx (h ▸ ha)) g1).symm
    have b1:=B43 hpel hnd n pre (x :: p2) hl e' x b (by simp) (by simp[hb]) (fun h=>hx (h ▸ hb)) g2
    rw[e'] at hpel
    obtain⟨y,y1,y2,y3⟩:=hpel.at a1.cov
    exact⟨hne,y,y1,y3 a ha a1,y3 b hb b1⟩
theorem B56 {set x:Nat}:∀ {es ps:List Nat},x ∈ es.foldl (W23 set) ps->x ∈ ps\/∃ e ∈ es,x=e &&& set
 | [],ps,h => .inl h
 | e :: es,ps,h=>by
  rw[List.foldl_cons] at h
  rcases B56 h with h | ⟨e',h1,h2⟩
  .unfold W23 at h
   split at h
   .exact .inl h
   .rcases List.mem_append.1 h with h | h
    .exact .inl h
    .exact .inr ⟨e,by simp,by simpa using h⟩
  .exact .inr ⟨e',by simp[h1],h2⟩
theorem U93 {es:List Nat} {N set:Nat} (hs:set<2^N) (hcov:∀ v,set.testBit v=true->∃ e ∈ es,e.testBit v=true) (h0:0<(Y4 N set).length):M10 es N set<=1<->J31 es set=true:=by
 constructor
 .intro h
  rw[U37] at h
  obtain⟨r,hr,hall⟩:=Lp.val_one (fun v hv=>B35 hcov hv) h0 h
  have hm:(Q4 es set)[r] ∈ Q4 es set:=List.getElem_mem hr
  have e1:(Q4 es set).getD r 0=(Q4 es set)[r]:=by simp[List.getD_eq_getElem?_getD,List.getElem?_eq_getElem hr]
  rcases B56 (es:=es) (ps:=[]) hm with h | ⟨e,h1,h2⟩
  .simp at h
  .refine Z49.2 ⟨e,h1,fun w hw => ?_⟩
   obtain⟨j,hj,hje⟩:=List.getElem_of_mem (G31.2 ⟨X11 hs hw,hw⟩:w ∈ Y4 N set)
   have:=hall j hj
   unfold sP at this
   have e2:(Y4 N set).getD j 0=w:=by simp[List.getD_eq_getElem?_getD,List.getElem?_eq_getElem hj,hje]
   rw[e1,e2,h2,Nat.testBit_and] at this
   simp only[Bool.and_eq_true] at this
   exact this.1
 .intro h
  rw[D78 hcov h0 h];exact Rat.le_refl
section
variable {es:List Nat} {N f:Nat} (hN:N<=6) (hsm:∀ e ∈ es,e<2^N) (hle:es.length<=8) (hcov:∀ w,w<N->∃ e ∈ es,e.testBit w=true) (hf:f<=N)
include hN hsm hle hcov hf
theorem Y70 (h:IsP N f l):wid es N f l<=1<->∀ b ∈ Q9 es N f (l.map fun (x:Nat)=>(x:Int)),J31 es (X6 b)=true:=by
 have key:∀ b ∈ Q9 es N f (l.map fun (x:Nat)=>(x:Int)),M10 es N (X6 b)<=1<->J31 es (X6 b)=true:=fun b hb=>by
  obtain⟨i,hi⟩:=List.getElem?_of_mem hb
  obtain⟨h1,h2⟩:=K19 hN hf h hi
  exact U93 h1 (V29 hN hsm hle hcov hf h1) h2
 unfold wid wdI
 rw[List.take_of_length_le (by rw[J10];omega),R21]
 constructor
 .intro g b hb;exact (key b hb).1 (g.2 b hb)
 .intro g;exact⟨by grind,fun b hb=>(key b hb).2 (g b hb)⟩
theorem U94 (h:IsP N f l):(l++dnL f).Nodup:=by
 rw[List.nodup_append]
 refine⟨h.nd,?_,fun a ha b hb => ?_⟩
 .have key:∀ k,(dnL k).Nodup:=fun k=>by
   induction k with
   | zero=>exact List.nodup_nil
   | succ k ih=>exact List.nodup_cons.2 ⟨fun h=>by have:=Y18.1 h;omega,ih⟩
  exact key f
 .have h1:=(h.mem a).1 ha
  have h2:=Y18.1 hb
  omega
theorem Z53 (h:IsP N f l):(∀ b ∈ Q9 es N f (l.map fun (x:Nat)=>(x:Int)),J31 es (X6 b)=true)<->PEl es (l++dnL f):=by
 have hord:Y39 N f (l.map fun (x:Nat)=>(x:Int))=l++dnL f:=by rw[G30,C75]
 have hnd:=U94 hN hsm hle hcov hf h
 have hall:∀ w,w<N->w ∈ l++dnL f:=fun w hw=>by rw[List.mem_append,h.mem,Y18];omega
 constructor
 .intro g
  refine PEl.of_at fun p1 v p2 e hc => ?_
  obtain⟨b,b1,b2⟩:=K26 (es:=es) (n:=N) (f:=f) (l:=l.map fun (x:Nat)=>(x:Int)) (by omega) hsm (h.ok hf) (p1:=p1) (p2:=p2) (v:=v) (by rw[hord,e])
  obtain⟨y,y1,y2⟩:=Z49.1 (g b (List.mem_of_getElem? b1))
  refine⟨y,y1,y2 v ((b2 v).2 (.inl rfl)),fun w hw ha=>y2 w ((b2 w).2 (.inr ⟨fun hp => ?_,.one (Z18.2 ha)⟩))⟩
  rw[e] at hnd
  exact (List.nodup_append.1 hnd).2.2 w hp w (by simp[hw]) rfl
 .intro g b hb
  obtain⟨i,hi⟩:=List.getElem?_of_mem hb
  have hiN:i<N:=by
   have:=(List.getElem?_eq_some_iff.1 hi).1
   rw[J10] at this;exact this
  obtain⟨p1,p2,e⟩:=List.append_of_mem (hall i hiN)
  obtain⟨b',b1,b2⟩:=K26 (es:=es) (n:=N) (f:=f) (l:=l.map fun (x:Nat)=>(x:Int)) (by omega) hsm (h.ok hf) (p1:=p1) (p2:=p2) (v:=i) (by rw[hord,e])
  rw[hi] at b1
  cases b1
  have g':=g
  rw[e] at g'
  obtain⟨y,y1,y2,y3⟩:=g'.at (hcov i hiN)
  refine Z49.2 ⟨y,y1,fun w hw => ?_⟩
  rcases (b2 w).1 hw with rfl | ⟨hp,r⟩
  .exact y2
  .by_cases ew:w=i
   .rw[ew];exact y2
   have hm:w ∈ i :: p2:=by
    have:=hall w (E83 hsm r)
    rw[e] at this
    rcases List.mem_append.1 this with h' | h'
    .exact absurd h' hp
    .exact h'
   have hm2:w ∈ p2:=by
    rcases List.mem_cons.1 hm with h' | h'
    .exact absurd h' ew
    .exact h'
   exact y3 w hm2 (B43 g hnd _ p1 (i :: p2) rfl e i w (by simp) hm (fun e'=>ew e'.symm) r)
theorem U86:J7 es N f<=1<->PE es/\¬ Y27 (V7 es) N f []/\¬ D43 es f:=by
 rw[<- V68 hf (fun v=>⟨fun⟨e,h1,h2⟩=>X11 (hsm e h1) h2,fun hv=>hcov v hv⟩)]
 constructor
 .intro h
  obtain⟨g,h1,h2,h3,h4⟩:=C36 hN hsm hle hcov hf
  have hg:IsP N f g:=Z15 (List.mem_of_find?_eq_some h1)
  rw[<- h3,Y70 hN hsm hle hcov hf hg,Z53 hN hsm hle hcov hf hg] at h
  exact⟨g,hg.nd,hg.mem,h⟩
 .rintro⟨q,q1,q2,q3⟩
  have hq:IsP N f q:=⟨q1,q2⟩
  rw[<- Z53 hN hsm hle hcov hf hq,<- Y70 hN hsm hle hcov hf hq] at q3
  have:=D37 hN hsm hle hcov hf hq
  grind
theorem R90 (hN0:0<N):1<=J7 es N f:=by
 obtain⟨g,h1,h2,h3,h4⟩:=C36 hN hsm hle hcov hf
 have hg:IsP N f g:=Z15 (List.mem_of_find?_eq_some h1)
 rw[<- h3]
 obtain⟨b,hb⟩:∃ b,(Q9 es N f (g.map fun (x:Nat)=>(x:Int)))[0]? = some b:=⟨_,List.getElem?_eq_getElem (by rw[J10];exact hN0)⟩
 obtain⟨b1,b2⟩:=K19 hN hf hg hb
 have h5:=M78 (V29 hN hsm hle hcov hf b1) b2
 refine Classical.byContradiction fun hn => ?_
 have h6:wid es N f g<=M10 es N (X6 b):=by grind
 have h7:wid es N f g<1:=by grind
 have h8:wid es N f g<=wid es N f g:=Rat.le_refl
 have h9:M10 es N (X6 b)<=wid es N f g:=by
  unfold wid wdI at h8 ⊢
  exact (R21.1 h8).2 _ (by
   rw[List.take_of_length_le (by rw[J10];omega)]
   exact List.mem_of_getElem? hb)
 grind
end
end Go.Proofs.YtpiobdofbhkmjaaDoor

namespace Go.Proofs.YtpiobdofbhkmjaaDoor
open Go.Clo
theorem V44 {s n:Nat} (hs:s<4294967296) (H:Y0) (nx:Nat):J2 Tryd.prog 45 [.int .u32 (s:Int),.int .i64 (n:Int)] H nx (K63 (.bool (s.testBit n)) H nx):=by
 refine spec45 ?_
 unfold F45
 simp only[V13 _ hs,M40 _ (Y2 hs),R30,Z29,N7]
 exact⟨rfl,rfl,rfl⟩
theorem M94:Y89 20:=by
 intro N A es cap H nx hS hsm
 refine spec20 ?_
 unfold F20
 have hE:D0 H nx (hs H nx (some (.cells [.int .i64 N,.slice A es.length cap] 0))) (nx+1):=(D0.refl H nx).new _ (Nat.le_refl _) (by omega)
 simp (disch:=first|omega|assumption) only[W0,Z0,B0.val]
 by_cases h1:N<0
 .simp (disch:=first|omega|assumption) only[W0,K3,h1]
  exact⟨by rw[Q25 (.inl h1)],hE⟩
 by_cases h2:32<N
 .simp (disch:=first|omega|assumption) only[W0,K3,h1,h2]
  exact⟨by rw[Q25 (.inr h2)],hE⟩
 obtain⟨n,rfl⟩:=Int.eq_ofNat_of_zero_le (show 0<=N by omega)
 simp (disch:=first|omega|assumption) only[W0,K3,h1,h2]
 by_cases h3:64<es.length
 .have h3':(64:Int)<(es.length:Int):=by omega
  simp (disch:=first|omega|assumption) only[W0,h3']
  exact⟨by rw[D51 (by omega) (by omega) h3],hE⟩
 have h3':¬ (64:Int)<(es.length:Int):=by omega
 simp (disch:=first|omega|assumption) only[W0,h3']
 refine E1 (m:=es.length) (fun m L H' nx'=>∃ i:Nat,m+i=es.length/\L=[.int .i64 (i:Int)]/\(∀ (j e:Nat),j<i->es[j]? = some e->e<2^n)/\_=H'/\nx+1=nx') ?_ ⟨0,rfl,rfl,fun j e h=>by omega,rfl,rfl⟩
 rintro m ih L _ _ ⟨i,hm,rfl,hst,rfl,rfl⟩ hih
 simp (disch:=first|omega|assumption) only[W0]
 by_cases hi:i<es.length
 .obtain⟨e,he⟩:∃ e,es[i]? = some e:=⟨_,List.getElem?_eq_getElem hi⟩
  obtain⟨b,o,row,rfl,hb,hrow,hget⟩:=(hS.ext hE).open (i:=i) (by rw[G1];exact hi)
  have hlt:((i:Int)<(es.length:Int)):=by omega
  have he32:=hsm.get he
  simp (disch:=first|omega|assumption) only[W0,hlt]
  refine E1 (m:=32-n) (fun m L H' nx'=>∃ v:Nat,m+v=32/\n<=v/\L=[.int .i64 (v:Int)]/\(∀ u,n<=u->u<v->e.testBit u=false)/\_=H'/\nx+1=nx') ?_ ⟨n,by omega,Nat.le_refl _,rfl,fun u h1 h2=>by omega,rfl,rfl⟩
  rintro m2 ih2 L2 _ _ ⟨v,hm2,hnv,rfl,hbits,rfl,rfl⟩ hih2
  by_cases hv:v<32
  .have hv':((v:Int)<32):=by omega
   simp (disch:=first|omega|assumption) only[W0,hv',Y3 hrow,hget _ _ (G3 he)]
   refine K0 (V44 he32 _ _) ?_
   rintro _ _ _ ⟨rfl,rfl,rfl⟩
   cases hb1:e.testBit v with
   | true=>
    simp (disch:=first|omega|assumption) only[W0]
    exact⟨by rw[E56 (by omega) (by omega) he (U78 hnv hb1)],hE⟩
   | false=>
    simp (disch:=first|omega|assumption) only[W0]
    refine hih2 (m2-1) _ _ _ (by omega) ⟨v+1,by omega,by omega,by simp,fun u h1 h2 => ?_,rfl,rfl⟩
    by_cases huv:u=v
    .subst huv;exact hb1
    .exact hbits u h1 (by omega)
  .have hv':¬ ((v:Int)<32):=by omega
   simp (disch:=first|omega|assumption) only[W0,hv']
   refine hih (m-1) _ _ _ (by omega) ⟨i+1,by omega,by simp,fun j e' hj he' => ?_,rfl,rfl⟩
   by_cases hji:j=i
   .subst hji;rw[he] at he';cases he'
    exact D72 he32 fun u h1 h2=>hbits u h1 (by omega)
   .exact hst j e' (by omega) he'
 .have hlt:¬ ((i:Int)<(es.length:Int)):=by omega
  simp (disch:=first|omega|assumption) only[W0,hlt]
  exact⟨by rw[W14 (by omega) (by omega) fun j e he=>hst j e (by have:=Q12 he;omega) he],hE⟩
theorem R93 (N:Int) (A:Option Addr) (len cap:Nat) (H:Y0) (nx:Nat):J2 Tryd.prog 8 [gv N A len cap] H nx fun r H' nx'=>r=gv N A len cap/\D0 H nx H' nx':=by
 refine spec8 ?_
 unfold F8
 simp (disch:=first|omega|assumption) only[W0,Z0,B0.val]
 have hb:∀ k,M4 [.int .i64 0,.slice none 0 0] [(0,1),(1,1)] [(0,.int .i64 N),(1,.slice A len cap)] k=k (gv N A len cap):=fun k=>rfl
 rw[hb]
 simp (disch:=first|omega|assumption) only[W0,Z0,Nat.reduceAdd,C31,J3]
 exact (((D0.self (by omega)).hs (by omega)).hs (by omega)).hs (by omega)
theorem Z90 (N:Int) (A:Option Addr) (es:List Nat) (cap:Nat) (H:Y0) (nx:Nat) (hS:Sl H nx A (N1 es)) (hsm:Z4 es):
  J2 Tryd.prog 5 [gv N A es.length cap] H nx fun v H' nx'=>(∃ c:Bool,v = .bool c/\(c=true->0<=N/\N<=6/\es.length<=8/\R8 N es=0))/\D0 H nx H' nx':=by
 refine spec5 ?_
 unfold F5
 have hE:D0 H nx (hs H nx (some (.cells [.int .i64 N,.slice A es.length cap] 0))) (nx+1):=(D0.refl H nx).new _ (Nat.le_refl _) (by omega)
 simp (disch:=first|omega|assumption) only[W0,Z0,B0.val]
 by_cases h1:N ≥ 0
 case neg => 
  simp (disch:=first|omega|assumption) only[W0,h1]
  exact⟨⟨false,rfl,fun h=>by cases h⟩,hE⟩
 by_cases h2:N<=6
 case neg => 
  simp (disch:=first|omega|assumption) only[W0,h1,h2]
  exact⟨⟨false,rfl,fun h=>by cases h⟩,hE⟩
 by_cases h3:(es.length:Int)<=8
 case neg => 
  simp (disch:=first|omega|assumption) only[W0,h1,h2,h3]
  exact⟨⟨false,rfl,fun h=>by cases h⟩,hE⟩
 simp (disch:=first|omega|assumption) only[W0,h1,h2,h3,J3]
 refine K0 (R93 N A es.length cap _ _) ?_
 rintro _ H2 nx2 ⟨rfl,hE2⟩
 refine K0 (M94 N A es cap _ _ (hS.ext (hE.trans hE2)) hsm) ?_
 rintro _ H3 nx3 ⟨rfl,hE3⟩
 simp (disch:=first|omega|assumption) only[W0]
 exact⟨⟨_,rfl,fun h=>⟨by omega,by simpa using h⟩⟩,(hE.trans hE2).trans hE3⟩
end Go.Proofs.YtpiobdofbhkmjaaDoor

namespace Go.Proofs.YtpiobdofbhkmjaaDoor
open Go.Clo
theorem M64 {a b:Nat} (ha:a<4294967296) (hb:b<4294967296) (H:Y0) (nx:Nat):J2 Tryd.prog 74 [.int .u32 (a:Int),.int .u32 (b:Int)] H nx (K63 (.bool (J49 a b)) H nx):=by
 refine spec74 ?_
 unfold F74
 refine E1 (m:=32) (fun m L H' nx'=>∃ i:Nat,m+i=32/\L=[.int .i64 (i:Int)]/\B28 a b i/\H=H'/\nx=nx') ?_ ⟨0,rfl,rfl,G75 a b,rfl,rfl⟩
 rintro m ih L _ _ ⟨i,hm,rfl,hst,rfl,rfl⟩ hih
 simp only[List.getD_cons_zero,M24,W10]
 by_cases hi:i<32
 .have h1:((i:Int)<32):=by omega
  simp only[h1,decide_true,if_true]
  refine J6 (fun L H' nx'=>L=[.bool (b.testBit i && !a.testBit i)]/\H=H'/\nx=nx') ?_ ?_
  .intro j hj
   refine K0 (V44 hb H nx) ?_
   rintro _ _ _ ⟨rfl,rfl,rfl⟩
   simp only[K34]
   cases hb1:b.testBit i with
   | false=>simp only[Bool.false_eq_true,if_false];exact hj _ _ _ ⟨by simp[hb1],rfl,rfl⟩
   | true=>
    simp only[if_true]
    refine K0 (V44 ha H nx) ?_
    rintro _ _ _ ⟨rfl,rfl,rfl⟩
    simp only[Y56]
    exact hj _ _ _ ⟨by simp[hb1],rfl,rfl⟩
  .rintro L _ _ ⟨rfl,rfl,rfl⟩
   simp only[List.getD_cons_zero,W10,N7]
   cases hb1:b.testBit i && !a.testBit i with
   | true=>
    simp only[if_true]
    rw[Bool.and_eq_true] at hb1
    exact⟨by rw[N92 hi hb1.1 (by simpa using hb1.2)],rfl,rfl⟩
   | false=>
    simp only[Bool.false_eq_true,if_false]
    rw[Q23 _ _ _ (by omega) (by omega)]
    refine hih (m-1) _ _ _ (by omega) ⟨i+1,by omega,by simp,X74 hst ?_,rfl,rfl⟩
    cases h2:b.testBit i<;>simp[h2] at hb1 ⊢
    exact hb1
 .have h1:¬ ((i:Int)<32):=by omega
  simp only[h1,decide_false,Bool.false_eq_true,if_false,N7]
  have:i=32:=by omega
  subst this
  exact⟨by rw[U85 hst],rfl,rfl⟩
theorem R84 {a b:Nat} (hb:b<4294967296):J49 a b=true<->∀ w,b.testBit w=true->a.testBit w=true:=by
 unfold J49
 rw[decide_eq_true_iff]
 constructor
 .intro h w hw
  exact h w (X11 (N:=32) hb hw) hw
 .intro h w _ hw
  exact h w hw
theorem U43 (N:Int) {a b:Nat} (A:Option Addr) (es:List Nat) (cap:Nat) (H:Y0) (nx:Nat) (hS:Sl H nx A (N1 es)) (hsm:Z4 es) (hle:es.length<=64):
  J2 Tryd.prog 39 [gv N A es.length cap,.int .i64 (a:Int),.int .i64 (b:Int)] H nx fun v H' nx'=>v = .bool (adj es a b)/\D0 H nx H' nx':=by
 refine spec39 ?_
 unfold F39
 have hE1:D0 H nx (hs H nx (some (.cells [.int .i64 N,.slice A es.length cap] 0))) (nx+1):=(D0.refl H nx).new _ (Nat.le_refl _) (by omega)
 simp (disch:=first|omega|assumption) only[W0,Z0,B0.val]
 refine E1 (m:=es.length) (fun m L H' nx'=>∃ i:Nat,m+i=es.length/\L=[.int .i64 (i:Int)]/\(∀ e ∈ es.take i,¬ (a≠b/\e.testBit a=true/\e.testBit b=true))/\hs H nx (some (.cells [.int .i64 N,.slice A es.length cap] 0))=H'/\nx+1=nx') ?_ ⟨0,rfl,rfl,by simp,rfl,rfl⟩
 rintro m ih L _ _ ⟨i,hm,rfl,hin,rfl,rfl⟩ hih
 simp (disch:=first|omega|assumption) only[W0]
 by_cases hi:i<es.length
 case neg=>
  have hi':¬ (i:Int)<(es.length:Int):=by omega
  simp (disch:=first|omega|assumption) only[W0,hi']
  rw[M29 hi] at hin
  refine⟨?_,hE1⟩
  have:adj es a b=false:=by
   rw[Bool.eq_false_iff]
   intro h
   simp only[adj,Bool.and_eq_true,decide_eq_true_eq,List.any_eq_true] at h
   obtain⟨h1,e,he,h2,h3⟩:=h
   exact hin e he ⟨h1,h2,h3⟩
  rw[this]
 have hi':(i:Int)<(es.length:Int):=by omega
 obtain⟨e,he⟩:∃ e,es[i]? = some e:=⟨_,List.getElem?_eq_getElem hi⟩
 obtain⟨A,oA,G17,rfl,hAn,hrowA,hgetA⟩:=(hS.ext hE1).open (i:=i) (by rw[G1];omega)
 have he32:=hsm.get he
 have g0:=hgetA _ _ (G3 he)
 have next:¬ (a≠b/\e.testBit a=true/\e.testBit b=true)->∀ x ∈ es.take (i+1),¬ (a≠b/\x.testBit a=true/\x.testBit b=true):=by
  intro h x hx
  rw[K9 he] at hx
  simp only[List.mem_append,List.mem_singleton] at hx
  rcases hx with hx | rfl
  .exact hin x hx
  .exact h
 by_cases hab:a=b
 .have d1:decide ((a:Int)≠(b:Int))=false:=by simp[hab]
  simp (disch:=first|omega|assumption) only[W0,hi',K3,d1]
  exact hih (m-1) _ _ _ (by omega) ⟨i+1,by omega,by simp,next (fun h=>h.1 hab),rfl,rfl⟩
 have d1:decide ((a:Int)≠(b:Int))=true:=by simp;omega
 simp (disch:=first|omega|assumption) only[W0,hi',K3,d1,Y3 hrowA,g0]
 refine K0 (V44 he32 _ _) ?_
 rintro _ _ _ ⟨rfl,rfl,rfl⟩
 cases ha:e.testBit a with
 | false=>
  simp (disch:=first|omega|assumption) only[W0]
  exact hih (m-1) _ _ _ (by omega) ⟨i+1,by omega,by simp,next (fun h=>by rw[ha] at h;exact absurd h.2.1 (by simp)),rfl,rfl⟩
 | true=>
  simp (disch:=first|omega|assumption) only[W0,Y3 hrowA,g0]
  refine K0 (V44 he32 _ _) ?_
  rintro _ _ _ ⟨rfl,rfl,rfl⟩
  cases hb:e.testBit b with
  | false=>
   simp (disch:=first|omega|assumption) only[W0]
   exact hih (m-1) _ _ _ (by omega) ⟨i+1,by omega,by simp,next (fun h=>by rw[hb] at h;exact absurd h.2.2 (by simp)),rfl,rfl⟩
  | true=>
   simp (disch:=first|omega|assumption) only[W0]
   refine⟨?_,hE1⟩
   have:adj es a b=true:=by
    simp only[adj,Bool.and_eq_true,decide_eq_true_eq,List.any_eq_true]
    exact⟨hab,e,List.mem_of_getElem? he,ha,hb⟩
   rw[this]
def TB (es:List Nat) (a b c:Nat):Prop:=adj es a c=true/\adj es b c=true/\adj es a b=false
theorem K71 {es:List Nat} {f:Nat}:D43 es f<->∃ a b c,a<b/\b<c/\c<f/\TB es a b c:=by
 unfold D43 TB
 constructor
 .rintro⟨a,b,c,h1,h2,h3,h4,h5,h6⟩
  exact⟨a,b,c,h1,h2,h3,Z18.2 h4,Z18.2 h5,by rw[Bool.eq_false_iff];exact fun h=>h6 (Z18.1 h)⟩
 .rintro⟨a,b,c,h1,h2,h3,h4,h5,h6⟩
  exact⟨a,b,c,h1,h2,h3,Z18.1 h4,Z18.1 h5,fun h=>by rw[Z18.2 h] at h6;cases h6⟩
section
variable (N:Int) {f:Nat} (A:Option Addr) (es:List Nat) (cap:Nat) (hsm:Z4 es) (hle:es.length<=64)
include hsm hle
theorem J88 (hf:f<=32) (H:Y0) (nx:Nat) (hS:Sl H nx A (N1 es)):
  J2 Tryd.prog 13 [gv N A es.length cap,.int .i64 (f:Int)] H nx fun v H' nx'=>(∃ c:Bool,v = .bool c/\(c=true<->D43 es f))/\D0 H nx H' nx':=by
 refine spec13 ?_
 unfold F13
 have hE1:D0 H nx (hs H nx (some (.cells [.int .i64 N,.slice A es.length cap] 0))) (nx+1):=(D0.refl H nx).new _ (Nat.le_refl _) (by omega)
 have g1:X0 (hs H nx (some (.cells [.int .i64 N,.slice A es.length cap] 0))) nx=some (.cells [.int .i64 N,.slice A es.length cap] 0):=Q0 _ _ _
 simp (disch:=first|omega|assumption) only[W0,Z0,B0.val]
 generalize hs H nx (some (.cells [.int .i64 N,.slice A es.length cap] 0))=H1 at *
 have key:∀ {H2:Y0} {n2:Nat},D0 H1 (nx+1) H2 n2->X0 H2 nx=some (.cells [.int .i64 N,.slice A es.length cap] 0)/\Sl H2 n2 A (N1 es):=fun h=>⟨by rw[h.get nx (by omega)];exact g1,hS.ext (hE1.trans h)⟩
 refine E1 (m:=f) (fun m L H' nx'=>∃ c:Nat,m+c=f/\L=[.int .i64 (c:Int)]/\(∀ x y z,x<y->y<z->z<c->¬ TB es x y z)/\D0 H1 (nx+1) H' nx') ?_ ⟨0,rfl,rfl,fun x y z _ _ h=>by omega,D0.refl _ _⟩
 rintro m ih L H2 n2 ⟨c,hm,rfl,hc,e2⟩ hih
 simp (disch:=first|omega|assumption) only[W0]
 by_cases hi:c<f
 case neg=>
  have hi':¬ (c:Int)<(f:Int):=by omega
  simp (disch:=first|omega|assumption) only[W0,hi']
  refine⟨⟨false,rfl,?_⟩,hE1.trans e2⟩
  rw[K71]
  exact⟨fun h=>(by cases h),fun⟨x,y,z,h1,h2,h3,h4⟩=>absurd h4 (hc x y z h1 h2 (by omega))⟩
 have hi':(c:Int)<(f:Int):=by omega
 simp (disch:=first|omega|assumption) only[W0,hi']
 refine E1 (m:=c) (fun m L H' nx'=>∃ b:Nat,m+b=c/\L=[.int .i64 (b:Int)]/\(∀ x y,x<y->y<b->¬ TB es x y c)/\D0 H1 (nx+1) H' nx') ?_ ⟨0,rfl,rfl,fun x y _ h=>by omega,e2⟩
 rintro m2 ih2 L H3 n3 ⟨b,hm2,rfl,hb,e3⟩ hih2
 simp (disch:=first|omega|assumption) only[W0]
 by_cases hj:b<c
 case neg=>
  have hj':¬ (b:Int)<(c:Int):=by omega
  simp (disch:=first|omega|assumption) only[W0,hj']
  refine hih (m-1) _ _ _ (by omega) ⟨c+1,by omega,by simp,fun x y z h1 h2 h3 => ?_,e3⟩
  by_cases hz:z=c
  .subst hz;exact hb x y h1 (by omega)
  .exact hc x y z h1 h2 (by omega)
 have hj':(b:Int)<(c:Int):=by omega
 simp (disch:=first|omega|assumption) only[W0,hj']
 refine E1 (m:=b) (fun m L H' nx'=>∃ a:Nat,m+a=b/\L=[.int .i64 (a:Int)]/\(∀ x,x<a->¬ TB es x b c)/\D0 H1 (nx+1) H' nx') ?_ ⟨0,rfl,rfl,fun x h=>by omega,e3⟩
 rintro m3 ih3 L H4 n4 ⟨a,hm3,rfl,ha,e4⟩ hih3
 simp (disch:=first|omega|assumption) only[W0]
 by_cases hk:a<b
 case neg=>
  have hk':¬ (a:Int)<(b:Int):=by omega
  simp (disch:=first|omega|assumption) only[W0,hk']
  refine hih2 (m2-1) _ _ _ (by omega) ⟨b+1,by omega,by simp,fun x y h1 h2 => ?_,e4⟩
  by_cases hz:y=b
  .subst hz;exact ha x (by omega)
  .exact hb x y h1 (by omega)
 have hk':(a:Int)<(b:Int):=by omega
 have next:¬ TB es a b c->∀ x,x<a+1->¬ TB es x b c:=fun h x hx=>by
  by_cases e:x=a
  .subst e;exact h
  .exact ha x (by omega)
 obtain⟨g4,s4⟩:=key e4
 simp (disch:=first|omega|assumption) only[W0,hk',K3,g4,J3]
 refine K0 (U43 N (a:=a) (b:=c) A es cap _ _ s4 hsm hle) ?_
 rintro _ H5 n5 ⟨rfl,h5⟩
 have e5:=e4.trans h5
 obtain⟨g5,s5⟩:=key e5
 cases q1:adj es a c with
 | false=>
  simp (disch:=first|omega|assumption) only[W0]
  exact hih3 (m3-1) _ _ _ (by omega) ⟨a+1,by omega,by simp,next (fun h=>by rw[h.1] at q1;cases q1),e5⟩
 | true=>
  simp (disch:=first|omega|assumption) only[W0,g5,J3]
  refine K0 (U43 N (a:=b) (b:=c) A es cap _ _ s5 hsm hle) ?_
  rintro _ H6 n6 ⟨rfl,h6⟩
  have e6:=e5.trans h6
  obtain⟨g6,s6⟩:=key e6
  cases q2:adj es b c with
  | false=>
   simp (disch:=first|omega|assumption) only[W0]
   exact hih3 (m3-1) _ _ _ (by omega) ⟨a+1,by omega,by simp,next (fun h=>by rw[h.2.1] at q2;cases q2),e6⟩
  | true=>
   simp (disch:=first|omega|assumption) only[W0,g6,J3]
   refine K0 (U43 N (a:=a) (b:=b) A es cap _ _ s6 hsm hle) ?_
   rintro _ H7 n7 ⟨rfl,h7⟩
   have e7:=e6.trans h7
   cases q3:adj es a b with
   | true=>
    simp (disch:=first|omega|assumption) only[W0]
    exact hih3 (m3-1) _ _ _ (by omega) ⟨a+1,by omega,by simp,next (fun h=>by rw[h.2.2] at q3;cases q3),e7⟩
   | false=>
    simp (disch:=first|omega|assumption) only[W0]
    exact⟨⟨true,rfl,by rw[K71];exact⟨fun _=>⟨a,b,c,hk,hj,hi,q1,q2,q3⟩,fun _=>rfl⟩⟩,hE1.trans e7⟩
end
end Go.Proofs.YtpiobdofbhkmjaaDoor
