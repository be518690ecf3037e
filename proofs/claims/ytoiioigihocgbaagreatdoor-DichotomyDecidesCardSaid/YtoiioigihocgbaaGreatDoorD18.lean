/-
  THE STATEMENT DichotomyDecides: for every input the law returns true,and each argument reads behind the call as it did (what the row lists of Go's tables is tied to the program's text). No condition.
  THE LAW DichotomyDecides returns true.
  Contract: dichotomy.Decide.
-/
import Derived.Test.YtoiioigihocgbaaGreatDoorD17
import Derived.Test.YtoiioigihocgbaaGreatDoorD16
import Derived.Test.YtoiioigihocgbaaGreatDoorTie
import Derived.Test.YtoiioigihocgbaaGreatDoorCards
import Derived.SevenTiedAt
set_option maxHeartbeats 8000000
set_option maxRecDepth 100000
set_option linter.all false
open Classical renaming byContradiction->aI
open Go.OpenSpec renaming ofChange->gP
open Go.Value renaming bool->dU,int->cD
open List renaming all_eq_true->bW,length_map->gM,mem_append_left->dX,mem_cons->aU
open Nat renaming le_refl->aD,le_trans->bK,lt_of_lt_of_le->aO,pow_le_pow_right->aK,testBit_two_pow_sub_one->dC,two_pow_pos->aQ,zero_add->cF
open Option renaming isSome_none->gO
open Option.some renaming inj->fA
namespace Go.Clo
theorem V111(b:Nat)(k:VP):D90 (.pointer (some ⟨b,0,none⟩)) 3 1 none none none k=k (.slice (some ⟨b,0,none⟩) 3 3):=by
 have e:B26 (some ⟨b,0,none⟩) 3 3 1 none none none false=some (.slice (some ⟨b,0,none⟩) 3 3):=rfl;unfold D90;simp only[e,E7]
theorem bV0(k:VP):U11 [.int .i64 0,.slice none 0 0,.slice none 0 0] [(0,1),(1,1),(2,1)] [] k=k (.agg ⟨[.int .i64 0,.slice none 0 0,.slice none 0 0]⟩):=V14 _ _
theorem bV2(x:Int)(A:Option Addr)(n c:Nat)(k:VP):U11 [.int .i64 0,.slice none 0 0,.slice none 0 0] [(0,1),(1,1),(2,1)] [(0,.int .i64 x),(2,.slice A n c)] k=k (.agg ⟨[.int .i64 x,.slice none 0 0,.slice A n c]⟩):=V14 _ _
theorem bV1(x:Int)(A:Option Addr)(n c:Nat)(k:VP):U11 [.int .i64 0,.slice none 0 0,.slice none 0 0] [(0,1),(1,1),(2,1)] [(0,.int .i64 x),(1,.slice A n c)] k=k (.agg ⟨[.int .i64 x,.slice A n c,.slice none 0 0]⟩):=V14 _ _
theorem LsR.sub{l:List Nat}{v:Value}{H:Y0}{nx:Nat}{H':Y0}(h:LsR l v H nx)(e:Sub H nx H'):LsR l v H' nx:=by
 obtain⟨A,h1,h2,h3⟩:=h;exact⟨A,h1,h2,h3.sub' e⟩
theorem E67{H:Y0}{q n:Nat}{b:Option V3}:Sub (D6 H [q]) n (hs H q b):=V74 (H':=hs H q b) (qs':=[]) (fun i _ hi=>Z1 _ (by simpa using hi)) (fun q hq=>by simp at hq)
theorem Sl.er1{H:Y0}{nx:Nat}{A:Option Addr}{l:List Value}{H':Y0}{nx' q:Nat}(h:Sl H nx A l)(e:D0 H nx H' nx')(hq:nx<=q):Sl (D6 H' [q]) nx' A l:=fun i v hv=>by
 obtain⟨b,o,row,e1,h2,h3,h4⟩:=h i v hv;refine⟨b,o,row,e1,aO h2 e.le,?_,h4⟩;unfold Q5;rw[Q50 (by simp;omega),e.get b h2];exact h3
end Go.Clo
namespace Go.Proofs.YtoiioigihocgbaaGreatDoor
open Go.Clo
def LsI(l:List Int)(v:Value)(H:Y0)(nx:Nat):Prop:=∃ A,v = .slice A l.length l.length/\Sl H nx A (U4 l)
theorem V91(H:Y0)(nx:Nat):LsI [] (.slice none 0 0) H nx:=⟨none,rfl,Sl.nil _ _ _⟩
def C56(es:List Nat)(N f:Nat)(E:Int)(p:List Int)(w:List Nat):Prop:=
 (Z74 es (B2 es N) N≠[]/\E=1/\p=[]/\w=Z74 es (B2 es N) N) \/
 (Z74 es (B2 es N) N=[]/\K24 (B2 es N) N f=some w/\E=2/\p=[]) \/
 (Z74 es (B2 es N) N=[]/\K24 (B2 es N) N f=none/\E=3/\p=[]/\∃ a b c,TrR es f (some (a,b,c))/\w=[a,b,c]) \/
 (Z74 es (B2 es N) N=[]/\K24 (B2 es N) N f=none/\E=0/\TrR es f none/\p=R82 es N f/\w=[])
theorem G94{es:List Nat}{N:Nat}(hN:N<=6)(E:∀ e ∈ es,e<2^N):(Z74 es (B2 es N) N).length<=100:=by
 have J:=(U93 (aL:=B2 es N) (N:=N) (fun u w within=>D81 hN (R60 es N)) N).1;have h1:(scF (B2 es N) N).length<=11:=by
  unfold scF
  split
  .simp
  .have:=Z90 (aL:=B2 es N) (N:=N) (L:=cyV (B2 es N) N N) N
   omega
 have h2:∀ most,(D83 es (B2 es N) N most).length<=N:=fun most=>K95 (K88 E (aQ N))
 have key:∀ cy cq:List Nat,cy.length<=100->cq.length<=100->(X90 cy cq).length<=100:=fun cy cq a b=>by
  unfold X90
  split
  .exact a
  .split
   .exact b
   .exact a
 exact key _ _ (by omega) (bK (h2 _) (by omega))
theorem K92{aL:List Nat}{N f:Nat}(hf:f<=N)(hN:N<=6){l:List Nat}(h:K24 aL N f=some l):l.length<=100:=by
 unfold K24 at h
 split at h
 .cases h
 .rename_i x hx
  cases h
  have h1:=List.find?_some hx;obtain⟨U,Q,J⟩:=E47 (aL:=aL) (N:=N) (inn:=K10 N f) (f:=f) f x (by simpa using h1);have E:N14 aL f x<2^N:=by
   have O:2^f<=2^N:=aK (n:=2) (by omega) hf;have:=aQ f;exact Z6 (Z6 (by omega))
  obtain⟨_,l2⟩:=K60 E N 0 _ 2 J;simp only[gM,List.length_range];dsimp only at l2;omega
def R66(es:List Nat)(N free:Int)(r:Value)(H:Y0)(nx:Nat):Prop:=
 (C5 N free es≠0/\r = .tuple ⟨[.agg ⟨[.int .i64 0,.slice none 0 0,.slice none 0 0]⟩,.int .i64 (C5 N free es)]⟩) \/
 (C5 N free es=0/\∃ E p w pv wv,r = .tuple ⟨[.agg ⟨[.int .i64 E,pv,wv]⟩,.int .i64 0]⟩/\C56 es N.toNat free.toNat E p w/\LsI p pv H nx/\LsR w wv H nx)
theorem Y99{N free:Int}(A:Option Addr)(es:List Nat)(cap:Nat)(au:U14 es)(hF:K36 N free es)(H:Y0)(nx:Nat)(hS:Sl H nx A (K12 es)):
  Q2 Tryz.prog 10 [gv N A es.length cap,.int .i64 free] H nx fun r H' nx'=>R66 es N free r H' nx'/\D0 H nx H' nx':=by
 refine spec10 ?_;unfold F10;simp(disch:=first|omega|assumption)only[W0,Z0,Q0.val,C13];generalize hK:hs (hs H nx (some (.cells [.int .i64 N,.slice A es.length cap] 0))) (nx+1) (some (.cells [.int .i64 0,.slice none 0 0,.slice none 0 0] 0))=K;have k1:J0 K nx=some (.cells [.int .i64 N,.slice A es.length cap] 0):=by rw[<- hK,Z1 _ (by omega),Z11]
 have v1:J0 K (nx+1)=some (.cells [.int .i64 0,.slice none 0 0,.slice none 0 0] 0):=by rw[<- hK,Z11]
 have ay:D0 H nx K (nx+1+1):=by
  rw[<- hK];exact(((D0.refl H nx).new _ (by omega) (by omega):D0 H nx _ (nx+1)).new _ (by omega) (by omega))
 clear hK;refine R0 (Y36 A es cap au hF K _ (hS.ext ay)) ?_;rintro _ H3 c4 ⟨rfl,ac⟩;have k3:=(ac.get nx (by omega)).trans k1;have v3:=(ac.get (nx+1) (by omega)).trans v1;have a7:=ay.trans ac;have bt:=ac.le
 by_cases hw:C5 N free es≠0
 .have d1:decide (C5 N free es≠0)=true:=by simp[hw]
  simp(disch:=first|omega|assumption)only[W0,Z0,Nat.reduceAdd,d1,bV0,v3,D7,Y12];exact⟨.inl ⟨hw,rfl⟩,a7.hs (by omega)⟩
 have W:C5 N free es=0:=aI hw;have aj:Q6 N free es=0:=by
  unfold C5 at W
  split at W
  .rename_i h;exact absurd W h
  .rename_i h;exact aI h
 obtain⟨n,f,rfl,rfl,_,ab,_,a3⟩:=U27 aj;have a2:n<=6:=by have:=hF.2.1;omega
 have ag:=hF.1;have eN:((n:Nat):Int).toNat=n:=by omega
 have eF:((f:Nat):Int).toNat=f:=by omega
 have bg:W14 es n=true:=by
  unfold C5 at W;rw[aj,if_neg (by simp),eN] at W
  cases hc:W14 es n with
  | true=>rfl
  | false=>rw[hc] at W;simp at W
 have bf:=(M67 a3).1 bg;have d1:decide (C5 n f es≠0)=false:=by simp[W]
 have bx:=G94 a2 a3;have aa:∀ {ai:Int} {p:List Int} {w:List Nat} {pv wv:Value} {H':Y0} {n':Nat},C56 es n f ai p w->LsI p pv H' n'->LsR w wv H' n'->R66 es n f (.tuple ⟨[.agg ⟨[.int .i64 ai,pv,wv]⟩,.int .i64 0]⟩) H' n':=fun h1 h2 h3=>
  .inr ⟨W,_,_,_,_,_,rfl,by rw[eN,eF];exact h1,h2,h3⟩
 simp(disch:=first|omega|assumption)only[W0,d1,k3,C13];refine X65 (qs:=[nx+1]) (fun q hq=>by have:q=nx+1:=(by simpa using hq);omega) (G79 a2 A es cap a3 ag _ _ (hS.er1 a7 (by omega))) (fun _ _ _ h=>h.2) ?_;rintro _ H5 n5 H0 ⟨⟨v5,rfl,ak⟩,bz⟩ ah bd _;have ak:=ak.sub bd;have k5:=(ah.get nx (by omega)).trans k3;have w5:=(ah.get (nx+1) (by omega)).trans v3;have a8:=a7.trans ah;have bv:=ah.le
 by_cases ho:Z74 es (B2 es n) n≠[]
 .simp(disch:=first|omega|assumption)only[W0,decide_eq_true ho]
  refine X65 (qs:=[nx+1]) (fun q hq=>by have:q=nx+1:=(by simpa using hq);omega) (G87 ak (by omega)) (fun _ _ _ h=>h.2) ?_;rintro r6 H6 n6 ap ⟨J,ao⟩ O a0 _;have J:=J.sub a0;have w6:=(O.get (nx+1) (by omega)).trans w5;have a4:=O.le;have a6:=fun b=>J.sub (E67 (H:=H6) (q:=nx+1) (n:=n6) (b:=b))
  obtain⟨C,rfl,_⟩:=J;have Q:=a8.trans O;simp(disch:=first|omega|assumption)only[W0,Z0,Nat.reduceAdd,bV2,w6,D7,Y12];exact⟨aa (.inl ⟨ho,rfl,rfl,rfl⟩) (V91 _ _) (a6 _),Q.hs (by omega)⟩
 have al:Z74 es (B2 es n) n=[]:=aI ho;simp(disch:=first|omega|assumption)only[W0,decide_eq_false ho,k5,C13];refine X65 (qs:=[nx+1]) (fun q hq=>by have:q=nx+1:=(by simpa using hq);omega) (W68 a2 ab A es cap a3 ag _ _ (hS.er1 a8 (by omega))) (fun _ _ _ h=>h.2) ?_;rintro _ H8 n8 bw ⟨⟨v8,rfl,ae⟩,c3⟩ ad bh _;have ae:=ae.sub bh;have k8:=(ad.get nx (by omega)).trans k5;have w8:=(ad.get (nx+1) (by omega)).trans w5;have a5:=a8.trans ad;have bu:=ad.le
 cases hp:K24 (B2 es n) n f with
 | some l=>
  rw[hp] at ae;have ba:=K92 ab a2 hp;simp(disch:=first|omega|assumption)only[W0,Option.isSome_some];refine X65 (qs:=[nx+1]) (fun q hq=>by have:q=nx+1:=(by simpa using hq);omega) (G87 (l:=l) ae (by omega)) (fun _ _ _ h=>h.2) ?_;rintro r6 H6 n6 ap ⟨J,ao⟩ O a0 _;have J:=J.sub a0;have w6:=(O.get (nx+1) (by omega)).trans w8;have a4:=O.le;have a6:=fun b=>J.sub (E67 (H:=H6) (q:=nx+1) (n:=n6) (b:=b))
  obtain⟨C,rfl,_⟩:=J;have Q:=a5.trans O;simp(disch:=first|omega|assumption)only[W0,Z0,Nat.reduceAdd,bV2,w6,D7,Y12];exact⟨aa (.inr (.inl ⟨al,hp,rfl,rfl⟩)) (V91 _ _) (a6 _),Q.hs (by omega)⟩
 | none=>
 simp(disch:=first|omega|assumption)only[W0,gO,k8,C13];refine R0 (X87 a2 ab A es cap a3 ag _ _ (hS.ext a5)) ?_;rintro _ Z E ⟨⟨o,aw,rfl⟩,a1⟩;have ax:=(a1.get nx (by omega)).trans k8;have av:=(a1.get (nx+1) (by omega)).trans w8;have a9:=a5.trans a1;have b5:=a1.le
 cases o with
 | some t=>
  obtain⟨a,b,c⟩:=t;have U:D0 Z E (hs (hs Z E (some (.cells [.int .i64 0,.int .i64 0,.int .i64 0] 0))) E (some (.cells [.int .i64 (a:Int),.int .i64 (b:Int),.int .i64 (c:Int)] 0))) (E+1):=((D0.refl _ _).new _ (aD _) (m:=E+1) (by omega)).hs (aD _);have b8:J0 (hs (hs Z E (some (.cells [.int .i64 0,.int .i64 0,.int .i64 0] 0))) E (some (.cells [.int .i64 (a:Int),.int .i64 (b:Int),.int .i64 (c:Int)] 0))) E=some (.cells [.int .i64 (a:Int),.int .i64 (b:Int),.int .i64 (c:Int)] 0):=Z11 _ _ _;simp(disch:=first|omega|assumption)only[W0,Z0,Nat.reduceAdd,trV,D7,V111];generalize hs (hs Z E (some (.cells [.int .i64 0,.int .i64 0,.int .i64 0] 0))) E (some (.cells [.int .i64 (a:Int),.int .i64 (b:Int),.int .i64 (c:Int)] 0))=H13 at *
  have an:=(U.get (nx+1) (by omega)).trans av;have V:=a9.trans U;have bo:LsR [a,b,c] (.slice (some ⟨E,0,none⟩) 3 3) (D6 H13 [nx+1]) (E+1):=⟨some ⟨E,0,none⟩,rfl,by simp,fun i u hu=>⟨E,0,_,rfl,by omega,by unfold Q5;rw[Q50 (by simp;omega),b8];rfl,by rw[cF];exact hu⟩⟩
  refine X65 (qs:=[nx+1]) (fun q hq=>by have:q=nx+1:=(by simpa using hq);omega) (G87 bo (by simp)) (fun _ _ _ h=>h.2) ?_;rintro r6 H6 n6 ap ⟨J,ao⟩ O a0 _;have J:=J.sub a0;have w6:=(O.get (nx+1) (by omega)).trans an;have a4:=O.le;have a6:=fun b=>J.sub (E67 (H:=H6) (q:=nx+1) (n:=n6) (b:=b))
  obtain⟨C,rfl,_⟩:=J;have Q:=V.trans O;simp(disch:=first|omega|assumption)only[W0,Z0,Nat.reduceAdd,bV2,w6,D7,Y12];exact⟨aa (.inr (.inr (.inl ⟨al,hp,rfl,rfl,a,b,c,aw,rfl⟩))) (V91 _ _) (a6 _),Q.hs (by omega)⟩
 | none=>
 have U:D0 Z E (hs (hs Z E (some (.cells [.int .i64 0,.int .i64 0,.int .i64 0] 0))) E (some (.cells [.int .i64 0,.int .i64 0,.int .i64 0] 0))) (E+1):=((D0.refl _ _).new _ (aD _) (m:=E+1) (by omega)).hs (aD _);have b4:=(U.get nx (by omega)).trans ax;simp(disch:=first|omega|assumption)only[W0,Z0,Nat.reduceAdd,trV,D7,ax,C13];generalize hs (hs Z E (some (.cells [.int .i64 0,.int .i64 0,.int .i64 0] 0))) E (some (.cells [.int .i64 0,.int .i64 0,.int .i64 0] 0))=H13 at *
 have an:=(U.get (nx+1) (by omega)).trans av;have V:=a9.trans U;refine X65 (qs:=[nx+1]) (fun q hq=>by have:q=nx+1:=(by simpa using hq);omega) (M96 (hS.er1 V (by omega)) a2 ab a3 ag) (fun _ _ _ h=>h.1) ?_;rintro r6 H6 n6 ap ⟨ao,J⟩ O a0 _;rcases J with ⟨bk,_⟩ | ⟨_,B,w,rfl,hB,bc⟩
 .exact absurd bf bk
 obtain⟨c6,rfl,aq⟩:=bc.num;have hB:=hB.sub' a0;have w6:=(O.get (nx+1) (by omega)).trans an;have a4:=O.le;have Q:=V.trans O;have d0:decide ((0:Int)≠0)=false:=by decide
 simp(config:={ maxSteps:=2000000 }) (disch:=first|omega|assumption)only[W0,Z0,Nat.reduceAdd,aq.three,aq.one,G24 (show c6.length=[dU false,.slice none 0 0,.slice none 0 0].length from aq.three),d0,bV1,w6,D7,Y12];refine⟨aa (.inr (.inr (.inr ⟨al,hp,rfl,aw,rfl,rfl⟩))) ⟨B,rfl,?_⟩ (C66 _ _),((Q.more (show n6<=n6+1 by omega)).hs (by omega)).hs (by omega) |>.hs (by omega)⟩;have b3:∀ X,Sub (D6 H6 [nx+1]) n6 (Go.Clo.hs (Go.Clo.hs (Go.Clo.hs H6 n6 (some (.cells [.bool false,.slice none 0 0,.slice none 0 0] 0))) n6 (some (.cells c6 0))) (nx+1) X):=fun X i b hi hb=>by
  have az:i≠nx+1:=by
   rintro rfl;rw[U73 (by simp)] at hb
   cases hb
  rw[Q50 (by simpa using az)] at hb;rw[Z1 _ az,Z1 _ (by omega),Z1 _ (by omega)];exact hb
 exact(hB.sub' (b3 _)).ext (D0.self (by omega))
end Go.Proofs.YtoiioigihocgbaaGreatDoor
namespace Go.Clo
theorem LsR.ext'{l:List Nat}{v:Value}{H:Y0}{nx:Nat}{H':Y0}{nx':Nat}(h:LsR l v H nx)(e:D0 H nx H' nx'):LsR l v H' nx':=by
 obtain⟨A,h1,h2,h3⟩:=h;exact⟨A,h1,h2,h3.ext e⟩
end Go.Clo
namespace Go.Proofs.YtoiioigihocgbaaGreatDoor
open Go.Clo
theorem LsI.ext{l:List Int}{v:Value}{H:Y0}{nx:Nat}{H':Y0}{nx':Nat}(h:LsI l v H nx)(e:D0 H nx H' nx'):LsI l v H' nx':=by
 obtain⟨A,h1,h3⟩:=h;exact⟨A,h1,h3.ext e⟩
theorem M87{w:List Nat}{v v':Value}{H:Y0}{nx:Nat}(h:LsR w v H nx)(h':LsR w v' H nx)(hl:w.length<=1000):Q2 Tryz.prog 13 [v,v'] H nx fun r H' nx'=>r = .bool true/\D0 H nx H' nx':=by
 obtain⟨A,rfl,_,hA⟩:=h;obtain⟨B,rfl,_,hB⟩:=h';have hm:(w.map fun(x:Nat)=>(x:Int)).length=w.length:=by simp
 have:=B63 (ca:=w.length) (cb:=w.length) hA hB (by rw[hm];exact hl);rw[hm] at this;exact this.mono fun r H' nx' ⟨h1,h2⟩=>⟨by rw[h1];simp,h2⟩
theorem B115{w:List Int}{v v':Value}{H:Y0}{nx:Nat}(h:LsI w v H nx)(h':LsI w v' H nx)(hl:w.length<=1000):Q2 Tryz.prog 13 [v,v'] H nx fun r H' nx'=>r = .bool true/\D0 H nx H' nx':=by
 obtain⟨A,rfl,hA⟩:=h;obtain⟨B,rfl,hB⟩:=h';exact(B63 (ca:=w.length) (cb:=w.length) hA hB hl).mono fun r H' nx' ⟨h1,h2⟩=>⟨by rw[h1];simp,h2⟩
theorem law3(N free:Int)(A:Option Addr)(es:List Nat)(cap:Nat)(H:Y0)(nx:Nat)(hS:Sl H nx A (K12 es))(ad:U14 es):
  Q2 Tryz.prog 3 [gv N A es.length cap,.int .i64 free] H nx fun r _ _=>r = .bool true:=by
 refine spec3 ?_;unfold F3;have cd:D0 H nx (hs H nx (some (.cells [.int .i64 N,.slice A es.length cap] 0))) (nx+1):=(D0.refl H nx).new _ (aD _) (by omega);have k1:J0 (hs H nx (some (.cells [.int .i64 N,.slice A es.length cap] 0))) nx=some (.cells [.int .i64 N,.slice A es.length cap] 0):=Z11 _ _ _;simp only[gv];rw[M12,Y31];refine(@if_pos _ _ (show Z0 [cD .i64 N,.slice A es.length cap]=true from rfl) _ _ _).mpr ?_;rw[Q37];simp only[Q0.val];generalize hs H nx (some (.cells [.int .i64 N,.slice A es.length cap] 0))=K at *
 refine R0 (X60 K _) ?_;rintro _ _ _ ⟨rfl,rfl,rfl⟩;simp(config:={ maxSteps:=2000000 }) (disch:=first|omega|assumption)only[W0,Q0.val,k1,C13];refine R0 (J67 N free A es cap K _) ?_;rintro _ H3 n3 ⟨⟨c,rfl,hF⟩,az⟩;have k3:=(az.get nx (by omega)).trans k1;have aw:=cd.trans az;have co:=az.le
 cases c with
 | false=>simp(disch:=first|omega|assumption)only[W0]
 | true=>
 have hF:=hF rfl;simp(config:={ maxSteps:=2000000 }) (disch:=first|omega|assumption)only[W0,k3,C13];refine R0 (Y99 A es cap ad hF H3 n3 (hS.ext aw)) ?_;rintro r4 H4 n4 ⟨hD,b5⟩;have k4:=(b5.get nx (by omega)).trans k3;have bk:=aw.trans b5;have ck:=b5.le;obtain⟨Q,pv,wv,G6,rfl,⟨P,lp,cp,rfl⟩,⟨W,lw,cw,rfl⟩,hD⟩:∃ Q pv wv G6,r4 = .tuple ⟨[.agg ⟨[.int .i64 Q,pv,wv]⟩,.int .i64 G6]⟩/\(∃ P lp cp,pv = .slice P lp cp)/\(∃ W lw cw,wv = .slice W lw cw) /\
   ((C5 N free es≠0/\G6=C5 N free es/\Q=0/\pv = .slice none 0 0/\wv = .slice none 0 0)\/(C5 N free es=0/\G6=0/\∃ p w,C56 es N.toNat free.toNat Q p w/\LsI p pv H4 n4/\LsR w wv H4 n4)):=by
  rcases hD with ⟨h1,rfl⟩ | ⟨h1,Q,p,w,pv,wv,rfl,h2,⟨P,rfl,h3⟩,⟨W,rfl,h4,h5⟩⟩
  .exact⟨_,_,_,_,rfl,⟨_,_,_,rfl⟩,⟨_,_,_,rfl⟩,.inl ⟨h1,rfl,rfl,rfl,rfl⟩⟩
  .exact⟨_,_,_,_,rfl,⟨_,_,_,rfl⟩,⟨_,_,_,rfl⟩,.inr ⟨h1,rfl,p,w,h2,⟨P,rfl,h3⟩,⟨W,rfl,h4,h5⟩⟩⟩
 have ak:D0 H4 n4 (hs (hs H4 n4 (some (.cells [.int .i64 0,.slice none 0 0,.slice none 0 0] 0))) n4 (some (.cells [.int .i64 Q,.slice P lp cp,.slice W lw cw] 0))) (n4+1):=((D0.refl _ _).new _ (aD _) (m:=n4+1) (by omega)).hs (aD _);have g6:J0 (hs (hs H4 n4 (some (.cells [.int .i64 0,.slice none 0 0,.slice none 0 0] 0))) n4 (some (.cells [.int .i64 Q,.slice P lp cp,.slice W lw cw] 0))) n4=some (.cells [.int .i64 Q,.slice P lp cp,.slice W lw cw] 0):=Z11 _ _ _;have k6:=(ak.get nx (by omega)).trans k4;simp(config:={ maxSteps:=2000000 }) (disch:=first|omega|assumption)only[W0,Z0,Nat.reduceAdd,D7,k4,C13];generalize hs (hs H4 n4 (some (.cells [.int .i64 0,.slice none 0 0,.slice none 0 0] 0))) n4 (some (.cells [.int .i64 Q,.slice P lp cp,.slice W lw cw] 0))=H6 at *
 have ap:=bk.trans ak;refine R0 (C58 A es cap ad hF H6 _ (hS.ext ap)) ?_;rintro _ H7 n7 ⟨rfl,a9⟩;have k7:=(a9.get nx (by omega)).trans k6;have g7:=(a9.get n4 (by omega)).trans g6;have aq:=ap.trans a9;have cn:=a9.le;rcases hD with ⟨hw,rfl,rfl,h1,h2⟩ | ⟨a4,rfl,p,w,hV,hP,hW⟩
 .cases h1
  cases h2
  have d1:decide (C5 N free es≠0)=true:=by simp[hw]
  simp(config:={ maxSteps:=2000000 }) (disch:=first|omega|assumption)only[W0,d1,g7]
 have au:Q6 N free es=0:=by
  unfold C5 at a4
  split at a4
  .rename_i h;exact absurd a4 h
  .rename_i h;exact aI h
 obtain⟨n,f,rfl,rfl,_,a2,_,Z⟩:=U27 au;have V:n<=6:=by have:=hF.2.1;omega
 have a3:=hF.1;have eN:((n:Nat):Int).toNat=n:=by omega
 have eF:((f:Nat):Int).toNat=f:=by omega
 rw[eN,eF] at hV;have c3:W14 es n=true:=by
  unfold C5 at a4;rw[au,if_neg (by simp),eN] at a4
  cases hc:W14 es n with
  | true=>rfl
  | false=>rw[hc] at a4;simp at a4
 have bc:=(M67 Z).1 c3;have cy:=G94 V Z;have d1:decide (C5 n f es≠0)=false:=by simp[a4]
 have bw:decide ((0:Int)≠0)=false:=by decide
 have bx:=hP.ext (ak.trans a9);have cj:=hW.ext' (ak.trans a9);simp(config:={ maxSteps:=2000000 }) (disch:=first|omega|assumption)only[W0,d1,bw,k7,C13];refine R0 (G79 V A es cap Z a3 H7 n7 (hS.ext aq)) ?_;rintro _ H8 n8 ⟨⟨v8,rfl,bz⟩,a8⟩;have k8:=(a8.get nx (by omega)).trans k7;have g8:=(a8.get n4 (by omega)).trans g7;have a0:=aq.trans a8;have cq:=a8.le;have al:=bx.ext a8;have ai:=cj.ext' a8;have cu:decide ((1:Int)=1)=true:=by decide
 have ct:decide ((2:Int)=2)=true:=by decide
 have cv:decide ((3:Int)=3)=true:=by decide
 have d0:decide ((0:Int)=0)=true:=by decide
 rcases hV with ⟨ho,rfl,rfl,rfl⟩ | ⟨ho,hp,rfl,rfl⟩ | ⟨ho,hp,rfl,rfl,a,b,c,ht,rfl⟩ | ⟨ho,hp,rfl,ht,rfl,rfl⟩
 .obtain⟨P',ae,_⟩:=al
  cases ae
  simp(config:={ maxSteps:=2000000 }) (disch:=first|omega|assumption)only[W0,decide_eq_true ho,g8];refine R0 (M87 ai bz (by omega)) ?_;rintro _ H9 n9 ⟨rfl,a5⟩;have g9:=(a5.get n4 (by omega)).trans g8;simp(config:={ maxSteps:=2000000 }) (disch:=first|omega|assumption)only[W0,g9]
 .have bt:=K92 a2 V hp
  simp(config:={ maxSteps:=2000000 }) (disch:=first|omega|assumption)only[W0,decide_eq_false (show ¬ (Z74 es (B2 es n) n≠[]) from fun h=>h ho),k8,C13];refine R0 (W68 V a2 A es cap Z a3 H8 n8 (hS.ext a0)) ?_;rintro _ aj ao ⟨⟨bd,rfl,a7⟩,J⟩;rw[hp] at a7 ⊢;have aa:=(J.get n4 (by omega)).trans g8;have ac:=J.le;obtain⟨P',ae,_⟩:=al
  cases ae
  simp(config:={ maxSteps:=2000000 }) (disch:=first|omega|assumption)only[W0,Option.isSome_some,aa];refine R0 (M87 (ai.ext' J) a7 (by omega)) ?_;rintro _ H9 n9 ⟨rfl,a5⟩;have g9:=(a5.get n4 (by omega)).trans aa;simp(config:={ maxSteps:=2000000 }) (disch:=first|omega|assumption)only[W0,g9]
 .simp(config:={ maxSteps:=2000000 }) (disch:=first|omega|assumption)only[W0,decide_eq_false (show ¬ (Z74 es (B2 es n) n≠[]) from fun h=>h ho),k8,C13]
  refine R0 (W68 V a2 A es cap Z a3 H8 n8 (hS.ext a0)) ?_;rintro _ aj ao ⟨⟨bd,rfl,a7⟩,J⟩;rw[hp];have ah:=(J.get nx (by omega)).trans k8;have aa:=(J.get n4 (by omega)).trans g8;have ac:=J.le;obtain⟨P',ae,_⟩:=al
  cases ae
  simp(config:={ maxSteps:=2000000 }) (disch:=first|omega|assumption)only[W0,gO,ah,C13];refine R0 (X87 V a2 A es cap Z a3 aj ao (hS.ext (a0.trans J))) ?_;rintro _ a1 E ⟨⟨o,ay,rfl⟩,O⟩;obtain rfl:=TrR.eq ht ay;have g12:=(O.get n4 (by omega)).trans aa;have b3:=O.le;have c4:∀(x y z:Int) k,K6 3 1 [.int .i64 0] [(0,.int .i64 x),(1,.int .i64 y),(2,.int .i64 z)] k=k [.int .i64 x,.int .i64 y,.int .i64 z]:=fun x y z k=>rfl
  have U:D0 a1 E (hs (hs a1 E (some (.cells [.int .i64 0,.int .i64 0,.int .i64 0] 0))) E (some (.cells [.int .i64 (a:Int),.int .i64 (b:Int),.int .i64 (c:Int)] 0))) (E+1):=((D0.refl _ _).new _ (aD _) (m:=E+1) (by omega)).hs (aD _);have bh:J0 (hs (hs a1 E (some (.cells [.int .i64 0,.int .i64 0,.int .i64 0] 0))) E (some (.cells [.int .i64 (a:Int),.int .i64 (b:Int),.int .i64 (c:Int)] 0))) E=some (.cells [.int .i64 (a:Int),.int .i64 (b:Int),.int .i64 (c:Int)] 0):=Z11 _ _ _;have an:=(U.get n4 (by omega)).trans g12;simp(config:={ maxSteps:=2000000 }) (disch:=first|omega|assumption)only[W0,Z0,Nat.reduceAdd,trV,D7,g12];generalize hs (hs a1 E (some (.cells [.int .i64 0,.int .i64 0,.int .i64 0] 0))) E (some (.cells [.int .i64 (a:Int),.int .i64 (b:Int),.int .i64 (c:Int)] 0))=H14 at *
  have av:D0 H14 (E+1) (hs H14 (E+1) (some (.cells [.int .i64 (a:Int),.int .i64 (b:Int),.int .i64 (c:Int)] 0))) (E+1+1):=(D0.refl _ _).new _ (aD _) (by omega);have bf:J0 (hs H14 (E+1) (some (.cells [.int .i64 (a:Int),.int .i64 (b:Int),.int .i64 (c:Int)] 0))) (E+1)=some (.cells [.int .i64 (a:Int),.int .i64 (b:Int),.int .i64 (c:Int)] 0):=Z11 _ _ _;have cf:=(av.get n4 (by omega)).trans an;have cg:LsR [a,b,c] (.slice (some ⟨E+1,0,none⟩) 3 3) (Go.Clo.hs H14 (E+1) (some (.cells [.int .i64 (a:Int),.int .i64 (b:Int),.int .i64 (c:Int)] 0))) (E+1+1):=⟨some ⟨E+1,0,none⟩,rfl,by simp,fun i u hu=>⟨E+1,0,_,rfl,by omega,by unfold Q5;rw[bf];rfl,by rw[cF];exact hu⟩⟩
  refine R0 (M87 ((((ai.ext' J).ext' O).ext' U).ext' av) cg (by simp)) ?_;rintro _ H9 n9 ⟨rfl,a5⟩;have g9:=(a5.get n4 (by omega)).trans cf;simp(config:={ maxSteps:=2000000 }) (disch:=first|omega|assumption)only[W0,g9]
 .simp(config:={ maxSteps:=2000000 }) (disch:=first|omega|assumption)only[W0,decide_eq_false (show ¬ (Z74 es (B2 es n) n≠[]) from fun h=>h ho),k8,C13]
  refine R0 (W68 V a2 A es cap Z a3 H8 n8 (hS.ext a0)) ?_;rintro _ aj ao ⟨⟨bd,rfl,a7⟩,J⟩;rw[hp];have ah:=(J.get nx (by omega)).trans k8;have aa:=(J.get n4 (by omega)).trans g8;have ac:=J.le;obtain⟨W',ca,_⟩:=ai
  cases ca
  simp(config:={ maxSteps:=2000000 }) (disch:=first|omega|assumption)only[W0,gO,ah,C13];refine R0 (X87 V a2 A es cap Z a3 aj ao (hS.ext (a0.trans J))) ?_;rintro _ a1 E ⟨⟨o,ay,rfl⟩,O⟩;obtain rfl:=TrR.eq ht ay;have bo:=(O.get nx (by omega)).trans ah;have g12:=(O.get n4 (by omega)).trans aa;have b3:=O.le;have U:D0 a1 E (hs (hs a1 E (some (.cells [.int .i64 0,.int .i64 0,.int .i64 0] 0))) E (some (.cells [.int .i64 0,.int .i64 0,.int .i64 0] 0))) (E+1):=((D0.refl _ _).new _ (aD _) (m:=E+1) (by omega)).hs (aD _);have an:=(U.get n4 (by omega)).trans g12;have cc:=(U.get nx (by omega)).trans bo;simp(config:={ maxSteps:=2000000 }) (disch:=first|omega|assumption)only[W0,Z0,Nat.reduceAdd,trV,D7,bo,C13];generalize hs (hs a1 E (some (.cells [.int .i64 0,.int .i64 0,.int .i64 0] 0))) E (some (.cells [.int .i64 0,.int .i64 0,.int .i64 0] 0))=H14 at *
  have b8:=((a0.trans J).trans O).trans U;refine R0 (M96 (hS.ext b8) V a2 Z a3) ?_;rintro cx b4 a6 ⟨ab,ba⟩;rcases ba with ⟨c8,_⟩ | ⟨_,B,w,rfl,hB,bu⟩
  .exact absurd bc c8
  obtain⟨c6,rfl,ax⟩:=bu.num;have g17:=(ab.get n4 (by omega)).trans an;have c7:=ab.le;have ag:D0 b4 a6 (hs (hs b4 a6 (some (.cells [.bool false,.slice none 0 0,.slice none 0 0] 0))) a6 (some (.cells c6 0))) (a6+1):=((D0.refl _ _).new _ (aD _) (m:=a6+1) (by omega)).hs (aD _);have bg:=(ag.get n4 (by omega)).trans g17;have ce:(R82 es n f).length<=1000:=by
   obtain⟨gg,c9,ci,_⟩:=G99 V Z a3 (fun w hw=>X37.1 (by rw[bc,dC];simpa using hw)) a2;have:=(B76 (List.mem_of_find?_eq_some c9)).len;rw[ci,gM];omega
  simp(config:={ maxSteps:=2000000 }) (disch:=first|omega|assumption)only[W0,Nat.reduceAdd,ax.three,ax.one,G24 (show c6.length=[dU false,.slice none 0 0,.slice none 0 0].length from ax.three),g17];generalize hs (hs b4 a6 (some (.cells [.bool false,.slice none 0 0,.slice none 0 0] 0))) a6 (some (.cells c6 0))=H19 at *
  have bv:=((((al.ext J).ext O).ext U).ext ab).ext ag;refine R0 (B115 bv ⟨B,rfl,hB.ext ag⟩ ce) ?_;rintro _ H9 n9 ⟨rfl,a5⟩;have g9:=(a5.get n4 (by omega)).trans bg;simp(config:={ maxSteps:=2000000 }) (disch:=first|omega|assumption)only[W0,g9]
end Go.Proofs.YtoiioigihocgbaaGreatDoor
namespace Go.Proofs.YtoiioigihocgbaaGreatDoor.dichotomyDecides
section
open Go.ChangeShapes Go.WideShapes Go.ChangeAt Go.RowKit Go.Joins Go.Clo
theorem lifted(os:Os)(J:os.Started)(H:Type)(enc:TypeId × Value->H):
  ReturnsInHanded {} Tryz.checked os 3 .any (fun w args=>(Rows.dichotomyDecidesSpec.pre enc Tryz.prog Tryz.f3 Rows.dichotomyDecidesRow.domain false w args/\laidMetH Tryz.prog X16 w)/\sizedMet enc Tryz.prog Tryz.f3 (gP Rows.dichotomyDecidesSpec) false w args)
   (Rows.dichotomyDecidesSpec.post enc Tryz.prog Tryz.f3 false true false false):=by
 refine returnsInHanded_of_change_and (C:=Tryz.checked) (X:=fun w _=>laidMetH Tryz.prog X16 w) (fun _ _ _ hh h=>h.of_heap hh) own J (by kernel_rfl) Tryz.func3
  (ChangeSpec.witness_shaped (enc:=enc) (C:=Tryz.checked) (os:=os) (X:=fun w _=>laidMetH Tryz.prog X16 w) false (World.laidAll Tryz.prog os X16) #[.agg #[.int .i64 0,.slice none 0 0],.int .i64 0] 8 (World.laidAll_os _ _ _)
   (Q69 os) (by kernel_rfl) (by kernel_rfl) (by kernel_rfl) (met os _)) ?_
 intro W base args ds gs Z O hW _ _ Q _;have E:∀(j:Nat) t v,Tryz.f3.params[j]? = some t->args[j]? = some v->Value.okWide Tryz.prog W .any base t v:=O;have a8:=hW;obtain⟨p,q,a5,hV,rfl,_,_⟩:=hW;have hA:DataW.TrodAll enc Tryz.prog W 0 (fun _=>true) true Tryz.f3.params.toList args.toList ds p:=a5;have V:=hA;rw[Tryz.params3] at hA E;obtain⟨v0,ad,d0,ab,p0,q0,a7,rfl,rfl,h0,r0⟩:=trodAll_cons hA;obtain⟨v1,ac,d1,ae,p1,q1,rfl,rfl,rfl,h1,r1⟩:=trodAll_cons r0;obtain⟨rfl,rfl,rfl⟩:=trodAll_nil r1;obtain rfl:args = #[v0,v1]:=by cases args;simp_all
 obtain⟨rfl,rfl⟩:=trodVars_none hV;obtain⟨N,A,len,cap,n0,y0,rfl,_,U,a4⟩:=V55 (E 0 24 v0 rfl rfl) h0;obtain⟨free,rfl,rfl,rfl,_⟩:=open_int Tryz.underlying3 (E 1 3 v1 rfl rfl) h1;obtain⟨F1,H1,a6,A',es,a1,a9,a3,a2,hS,aa,_⟩:=E52 (In.start W (B48 Q)) U a4;have a0:VL F1 [gv N A' es.length cap,.int .i64 free] [.agg #[.int .i64 N,.slice A len cap],.int .i64 free]:=
  .cons (VR.agg' (.cons (.int _ _) (.cons a3 .nil))) (.cons (.int _ _) .nil)
 refine(Y46 (law3 N free A' es cap H1 a6 hS a2) (fun _ _ _ h=>h) a1 a0).mono fun e W' ⟨he,hb⟩ => ?_
 subst he;refine⟨_,rfl,D64 a8 rfl rfl rfl rfl (by kernel_rfl) ?_ hb V fun x hx=>dX _ hx⟩;rw[Tryz.params3];intro t ht;simp only[aU,List.not_mem_nil,or_false] at ht;rcases ht with rfl | rfl<;>exact⟨by kernel_rfl,of_decide_eq_true (by kernel_rfl)⟩
theorem over:Rows.dichotomyDecidesRow.holds Tryz.pinned (gP Rows.dichotomyDecidesSpec):=
 OpenClaim.holds_of_wide 3 Tryz.f3 rfl rfl rfl rfl rfl rfl rfl ⟨rfl,rfl,rfl,rfl,rfl⟩ rfl rfl rfl rfl rfl (by kernel_rfl) Tryz.func3 (by kernel_rfl)
  (of_decide_eq_true (by kernel_rfl)) (by unfold Func.isWrapper;first | (rw[if_pos (by decide +kernel)];kernel_rfl) | (rw[if_neg (by decide +kernel)];exact⟨rfl,rfl⟩))
  (fun os E H enc _=>lifted os E H enc)
theorem proved:Rows.DichotomyDecidesCardSaid:=
 Claim7.holds_tied_plain_at .later [] [.data] true (true, "c5ae0ebca12fb395c0a3b7aa4c544d07c055311973735efb38106f23dc425963") false over (fun _ h => by cases h) (by kernel_rfl) (fun _ h => by cases h) dichotomyDecides_row_tie rfl ⟨rfl, rfl⟩ (by kernel_rfl) rfl
  (fun f fn hf hfn=>by
   obtain rfl:f=3:=Option.some.inj ((show Tryz.prog.funcNamed Rows.dichotomyDecidesRow.func=some 3 by kernel_rfl).symm.trans hf) |>.symm
   obtain rfl:fn=Tryz.f3:=(Option.some.inj (Tryz.func3.symm.trans hfn)).symm
   exact⟨by kernel_rfl,fun j t ht=>by
    rw[Tryz.params3] at ht
    have hm:t ∈ [24,3]:=by simpa using Array.mem_of_getElem? ht
    have hall:([24,3].all fun u => !Tryz.prog.wantsStandIn u)=true:=by kernel_rfl
    exact (show Tryz.prog.wantsStandIn t=false by simpa using List.all_eq_true.1 hall t hm)⟩)
  (by kernel_rfl)
end
end Go.Proofs.YtoiioigihocgbaaGreatDoor.dichotomyDecides
