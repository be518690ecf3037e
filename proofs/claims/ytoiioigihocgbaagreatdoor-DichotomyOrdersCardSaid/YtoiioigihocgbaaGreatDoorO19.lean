/-
  THE STATEMENT DichotomyOrders: for every input the law returns true,and each argument reads behind the call as it did (what the row lists of Go's tables is tied to the program's text). No condition.
  THE LAW DichotomyOrders returns true.
  What the kinds of verdicts say;orders of the free variables.
  Contract: dichotomy.Decide.
-/
import Derived.Test.YtoiioigihocgbaaGreatDoorO18
import Derived.Test.YtoiioigihocgbaaGreatDoorO17
import Derived.Test.YtoiioigihocgbaaGreatDoorTie
import Derived.Test.YtoiioigihocgbaaGreatDoorCards
import Derived.SevenTiedAt
set_option maxHeartbeats 8000000
set_option maxRecDepth 100000
set_option linter.all false
open Bool renaming eq_false_iff->bN
open Classical renaming byContradiction->aI
open Go.OpenSpec renaming ofChange->gP
open Go.Value renaming bool->dU,int->cD
open List renaming all_eq_true->bW,any_eq_true->dY,length_map->gM,mem_append_left->dX,mem_cons->aU,mem_map->gN,mem_of_getElem?->aH,mem_range->cW
open Nat renaming le_refl->aD,le_trans->bK,log2->bG,lt_of_lt_of_le->aO,pow_le_pow_right->aK,testBit_two_pow->aR,two_pow_pos->aQ,zero_add->cF
open Option renaming isSome_none->gO
open Option.some renaming inj->fA
namespace Go.Clo
theorem V111(b:Nat)(k:VP):D90 (.pointer (some ⟨b,0,none⟩)) 3 1 none none none k=k (.slice (some ⟨b,0,none⟩) 3 3):=by
 have e:B26 (some ⟨b,0,none⟩) 3 3 1 none none none false=some (.slice (some ⟨b,0,none⟩) 3 3):=rfl;unfold D90;simp only[e,E7]
theorem bV0(k:VP):U11 [.int .i64 0,.slice none 0 0,.slice none 0 0] [(0,1),(1,1),(2,1)] [] k=k (.agg ⟨[.int .i64 0,.slice none 0 0,.slice none 0 0]⟩):=V14 _ _
theorem bV2(x:Int)(A:Option Addr)(n c:Nat)(k:VP):U11 [.int .i64 0,.slice none 0 0,.slice none 0 0] [(0,1),(1,1),(2,1)] [(0,.int .i64 x),(2,.slice A n c)] k=k (.agg ⟨[.int .i64 x,.slice none 0 0,.slice A n c]⟩):=V14 _ _
theorem bV1(x:Int)(A:Option Addr)(n c:Nat)(k:VP):U11 [.int .i64 0,.slice none 0 0,.slice none 0 0] [(0,1),(1,1),(2,1)] [(0,.int .i64 x),(1,.slice A n c)] k=k (.agg ⟨[.int .i64 x,.slice A n c,.slice none 0 0]⟩):=V14 _ _
theorem LsR.sub{l:List Nat}{v:Value}{H:Y0}{nx:Nat}{H':Y0}(h:LsR l v H nx)(e:Sub H nx H'):LsR l v H' nx:=by
 obtain⟨A,h1,h2,h3⟩:=h;exact⟨A,h1,h2,h3.sub' e⟩
theorem E67{H:Y0}{q n:Nat}{b:Option V3}:Sub (D6 H [q]) n (hs H q b):=V74 (H':=hs H q b) (qs':=[]) (fun i _ hi=>Z1 _ (by simpa using hi)) (fun q hq=>by simp at hq)
theorem Sl.er1{H:Y0}{nx:Nat}{A:Option Addr}{l:List Value}{H':Y0}{nx' q:Nat}(h:Sl H nx A l)(e:D0 H nx H' nx')(hq:nx<=q):Sl (D6 H' [q]) nx' A l:=fun i v hv=>by
 obtain⟨b,o,row,e1,h2,h3,h4⟩:=h i v hv;refine⟨b,o,row,e1,aO h2 e.le,?_,h4⟩;unfold Q5;rw[Q50 (by simp;omega),e.get b h2];exact h3
end Go.Clo
namespace Go.Proofs.YtoiioigihocgbaaGreatDoor
open Go.Clo
def LsI(l:List Int)(v:Value)(H:Y0)(nx:Nat):Prop:=∃ A,v = .slice A l.length l.length/\Sl H nx A (U4 l)
theorem V91(H:Y0)(nx:Nat):LsI [] (.slice none 0 0) H nx:=⟨none,rfl,Sl.nil _ _ _⟩
def C56(es:List Nat)(N f:Nat)(E:Int)(p:List Int)(w:List Nat):Prop:=
 (Z74 es (B2 es N) N≠[]/\E=1/\p=[]/\w=Z74 es (B2 es N) N) \/
 (Z74 es (B2 es N) N=[]/\K24 (B2 es N) N f=some w/\E=2/\p=[]) \/
 (Z74 es (B2 es N) N=[]/\K24 (B2 es N) N f=none/\E=3/\p=[]/\∃ a b c,TrR es f (some (a,b,c))/\w=[a,b,c]) \/
 (Z74 es (B2 es N) N=[]/\K24 (B2 es N) N f=none/\E=0/\TrR es f none/\p=R82 es N f/\w=[])
theorem G94{es:List Nat}{N:Nat}(hN:N<=6)(E:∀ e ∈ es,e<2^N):(Z74 es (B2 es N) N).length<=100:=by
 have J:=(U93 (aL:=B2 es N) (N:=N) (fun u w within=>D81 hN (R60 es N)) N).1;have h1:(scF (B2 es N) N).length<=11:=by
  unfold scF
  split
  .simp
  .have:=Z90 (aL:=B2 es N) (N:=N) (L:=cyV (B2 es N) N N) N
   omega
 have h2:∀ most,(D83 es (B2 es N) N most).length<=N:=fun most=>K95 (K88 E (aQ N))
 have key:∀ cy cq:List Nat,cy.length<=100->cq.length<=100->(X90 cy cq).length<=100:=fun cy cq a b=>by
  unfold X90
  split
  .exact a
  .split
   .exact b
   .exact a
 exact key _ _ (by omega) (bK (h2 _) (by omega))
theorem K92{aL:List Nat}{N f:Nat}(hf:f<=N)(hN:N<=6){l:List Nat}(h:K24 aL N f=some l):l.length<=100:=by
 unfold K24 at h
 split at h
 .cases h
 .rename_i x hx
  cases h
  have h1:=List.find?_some hx;obtain⟨U,Q,J⟩:=E47 (aL:=aL) (N:=N) (inn:=K10 N f) (f:=f) f x (by simpa using h1);have E:N14 aL f x<2^N:=by
   have O:2^f<=2^N:=aK (n:=2) (by omega) hf;have:=aQ f;exact Z6 (Z6 (by omega))
  obtain⟨_,l2⟩:=K60 E N 0 _ 2 J;simp only[gM,List.length_range];dsimp only at l2;omega
def R66(es:List Nat)(N free:Int)(r:Value)(H:Y0)(nx:Nat):Prop:=
 (C5 N free es≠0/\r = .tuple ⟨[.agg ⟨[.int .i64 0,.slice none 0 0,.slice none 0 0]⟩,.int .i64 (C5 N free es)]⟩) \/
 (C5 N free es=0/\∃ E p w pv wv,r = .tuple ⟨[.agg ⟨[.int .i64 E,pv,wv]⟩,.int .i64 0]⟩/\C56 es N.toNat free.toNat E p w/\LsI p pv H nx/\LsR w wv H nx)
theorem Y99{N free:Int}(A:Option Addr)(es:List Nat)(cap:Nat)(au:U14 es)(hF:K36 N free es)(H:Y0)(nx:Nat)(hS:Sl H nx A (K12 es)):
  Q2 Tryz.prog 10 [gv N A es.length cap,.int .i64 free] H nx fun r H' nx'=>R66 es N free r H' nx'/\D0 H nx H' nx':=by
 refine spec10 ?_;unfold F10;simp(disch:=first|omega|assumption)only[W0,Z0,Q0.val,C13];generalize hK:hs (hs H nx (some (.cells [.int .i64 N,.slice A es.length cap] 0))) (nx+1) (some (.cells [.int .i64 0,.slice none 0 0,.slice none 0 0] 0))=K;have k1:J0 K nx=some (.cells [.int .i64 N,.slice A es.length cap] 0):=by rw[<- hK,Z1 _ (by omega),Z11]
 have v1:J0 K (nx+1)=some (.cells [.int .i64 0,.slice none 0 0,.slice none 0 0] 0):=by rw[<- hK,Z11]
 have ay:D0 H nx K (nx+1+1):=by
  rw[<- hK];exact(((D0.refl H nx).new _ (by omega) (by omega):D0 H nx _ (nx+1)).new _ (by omega) (by omega))
 clear hK;refine R0 (Y36 A es cap au hF K _ (hS.ext ay)) ?_;rintro _ H3 c4 ⟨rfl,ac⟩;have k3:=(ac.get nx (by omega)).trans k1;have v3:=(ac.get (nx+1) (by omega)).trans v1;have a7:=ay.trans ac;have bt:=ac.le
 by_cases hw:C5 N free es≠0
 .have d1:decide (C5 N free es≠0)=true:=by simp[hw]
  simp(disch:=first|omega|assumption)only[W0,Z0,Nat.reduceAdd,d1,bV0,v3,D7,Y12];exact⟨.inl ⟨hw,rfl⟩,a7.hs (by omega)⟩
 have W:C5 N free es=0:=aI hw;have aj:Q6 N free es=0:=by
  unfold C5 at W
  split at W
  .rename_i h;exact absurd W h
  .rename_i h;exact aI h
 obtain⟨n,f,rfl,rfl,_,ab,_,a3⟩:=U27 aj;have a2:n<=6:=by have:=hF.2.1;omega
 have ag:=hF.1;have eN:((n:Nat):Int).toNat=n:=by omega
 have eF:((f:Nat):Int).toNat=f:=by omega
 have bg:W14 es n=true:=by
  unfold C5 at W;rw[aj,if_neg (by simp),eN] at W
  cases hc:W14 es n with
  | true=>rfl
  | false=>rw[hc] at W;simp at W
 have bf:=(M67 a3).1 bg;have d1:decide (C5 n f es≠0)=false:=by simp[W]
 have bx:=G94 a2 a3;have aa:∀ {ai:Int} {p:List Int} {w:List Nat} {pv wv:Value} {H':Y0} {n':Nat},C56 es n f ai p w->LsI p pv H' n'->LsR w wv H' n'->R66 es n f (.tuple ⟨[.agg ⟨[.int .i64 ai,pv,wv]⟩,.int .i64 0]⟩) H' n':=fun h1 h2 h3=>
  .inr ⟨W,_,_,_,_,_,rfl,by rw[eN,eF];exact h1,h2,h3⟩
 simp(disch:=first|omega|assumption)only[W0,d1,k3,C13];refine X65 (qs:=[nx+1]) (fun q hq=>by have:q=nx+1:=(by simpa using hq);omega) (G79 a2 A es cap a3 ag _ _ (hS.er1 a7 (by omega))) (fun _ _ _ h=>h.2) ?_;rintro _ H5 n5 H0 ⟨⟨v5,rfl,ak⟩,bz⟩ ah bd _;have ak:=ak.sub bd;have k5:=(ah.get nx (by omega)).trans k3;have w5:=(ah.get (nx+1) (by omega)).trans v3;have a8:=a7.trans ah;have bv:=ah.le
 by_cases ho:Z74 es (B2 es n) n≠[]
 .simp(disch:=first|omega|assumption)only[W0,decide_eq_true ho]
  refine X65 (qs:=[nx+1]) (fun q hq=>by have:q=nx+1:=(by simpa using hq);omega) (G87 ak (by omega)) (fun _ _ _ h=>h.2) ?_;rintro r6 H6 n6 ap ⟨J,ao⟩ O a0 _;have J:=J.sub a0;have w6:=(O.get (nx+1) (by omega)).trans w5;have a4:=O.le;have a6:=fun b=>J.sub (E67 (H:=H6) (q:=nx+1) (n:=n6) (b:=b))
  obtain⟨C,rfl,_⟩:=J;have Q:=a8.trans O;simp(disch:=first|omega|assumption)only[W0,Z0,Nat.reduceAdd,bV2,w6,D7,Y12];exact⟨aa (.inl ⟨ho,rfl,rfl,rfl⟩) (V91 _ _) (a6 _),Q.hs (by omega)⟩
 have al:Z74 es (B2 es n) n=[]:=aI ho;simp(disch:=first|omega|assumption)only[W0,decide_eq_false ho,k5,C13];refine X65 (qs:=[nx+1]) (fun q hq=>by have:q=nx+1:=(by simpa using hq);omega) (W68 a2 ab A es cap a3 ag _ _ (hS.er1 a8 (by omega))) (fun _ _ _ h=>h.2) ?_;rintro _ H8 n8 bw ⟨⟨v8,rfl,ae⟩,c3⟩ ad bh _;have ae:=ae.sub bh;have k8:=(ad.get nx (by omega)).trans k5;have w8:=(ad.get (nx+1) (by omega)).trans w5;have a5:=a8.trans ad;have bu:=ad.le
 cases hp:K24 (B2 es n) n f with
 | some l=>
  rw[hp] at ae;have ba:=K92 ab a2 hp;simp(disch:=first|omega|assumption)only[W0,Option.isSome_some];refine X65 (qs:=[nx+1]) (fun q hq=>by have:q=nx+1:=(by simpa using hq);omega) (G87 (l:=l) ae (by omega)) (fun _ _ _ h=>h.2) ?_;rintro r6 H6 n6 ap ⟨J,ao⟩ O a0 _;have J:=J.sub a0;have w6:=(O.get (nx+1) (by omega)).trans w8;have a4:=O.le;have a6:=fun b=>J.sub (E67 (H:=H6) (q:=nx+1) (n:=n6) (b:=b))
  obtain⟨C,rfl,_⟩:=J;have Q:=a5.trans O;simp(disch:=first|omega|assumption)only[W0,Z0,Nat.reduceAdd,bV2,w6,D7,Y12];exact⟨aa (.inr (.inl ⟨al,hp,rfl,rfl⟩)) (V91 _ _) (a6 _),Q.hs (by omega)⟩
 | none=>
 simp(disch:=first|omega|assumption)only[W0,gO,k8,C13];refine R0 (X87 a2 ab A es cap a3 ag _ _ (hS.ext a5)) ?_;rintro _ Z E ⟨⟨o,aw,rfl⟩,a1⟩;have ax:=(a1.get nx (by omega)).trans k8;have av:=(a1.get (nx+1) (by omega)).trans w8;have a9:=a5.trans a1;have b5:=a1.le
 cases o with
 | some t=>
  obtain⟨a,b,c⟩:=t;have U:D0 Z E (hs (hs Z E (some (.cells [.int .i64 0,.int .i64 0,.int .i64 0] 0))) E (some (.cells [.int .i64 (a:Int),.int .i64 (b:Int),.int .i64 (c:Int)] 0))) (E+1):=((D0.refl _ _).new _ (aD _) (m:=E+1) (by omega)).hs (aD _);have b8:J0 (hs (hs Z E (some (.cells [.int .i64 0,.int .i64 0,.int .i64 0] 0))) E (some (.cells [.int .i64 (a:Int),.int .i64 (b:Int),.int .i64 (c:Int)] 0))) E=some (.cells [.int .i64 (a:Int),.int .i64 (b:Int),.int .i64 (c:Int)] 0):=Z11 _ _ _;simp(disch:=first|omega|assumption)only[W0,Z0,Nat.reduceAdd,trV,D7,V111];generalize hs (hs Z E (some (.cells [.int .i64 0,.int .i64 0,.int .i64 0] 0))) E (some (.cells [.int .i64 (a:Int),.int .i64 (b:Int),.int .i64 (c:Int)] 0))=H13 at *
  have an:=(U.get (nx+1) (by omega)).trans av;have V:=a9.trans U;have bo:LsR [a,b,c] (.slice (some ⟨E,0,none⟩) 3 3) (D6 H13 [nx+1]) (E+1):=⟨some ⟨E,0,none⟩,rfl,by simp,fun i u hu=>⟨E,0,_,rfl,by omega,by unfold Q5;rw[Q50 (by simp;omega),b8];rfl,by rw[cF];exact hu⟩⟩
  refine X65 (qs:=[nx+1]) (fun q hq=>by have:q=nx+1:=(by simpa using hq);omega) (G87 bo (by simp)) (fun _ _ _ h=>h.2) ?_;rintro r6 H6 n6 ap ⟨J,ao⟩ O a0 _;have J:=J.sub a0;have w6:=(O.get (nx+1) (by omega)).trans an;have a4:=O.le;have a6:=fun b=>J.sub (E67 (H:=H6) (q:=nx+1) (n:=n6) (b:=b))
  obtain⟨C,rfl,_⟩:=J;have Q:=V.trans O;simp(disch:=first|omega|assumption)only[W0,Z0,Nat.reduceAdd,bV2,w6,D7,Y12];exact⟨aa (.inr (.inr (.inl ⟨al,hp,rfl,rfl,a,b,c,aw,rfl⟩))) (V91 _ _) (a6 _),Q.hs (by omega)⟩
 | none=>
 have U:D0 Z E (hs (hs Z E (some (.cells [.int .i64 0,.int .i64 0,.int .i64 0] 0))) E (some (.cells [.int .i64 0,.int .i64 0,.int .i64 0] 0))) (E+1):=((D0.refl _ _).new _ (aD _) (m:=E+1) (by omega)).hs (aD _);have b4:=(U.get nx (by omega)).trans ax;simp(disch:=first|omega|assumption)only[W0,Z0,Nat.reduceAdd,trV,D7,ax,C13];generalize hs (hs Z E (some (.cells [.int .i64 0,.int .i64 0,.int .i64 0] 0))) E (some (.cells [.int .i64 0,.int .i64 0,.int .i64 0] 0))=H13 at *
 have an:=(U.get (nx+1) (by omega)).trans av;have V:=a9.trans U;refine X65 (qs:=[nx+1]) (fun q hq=>by have:q=nx+1:=(by simpa using hq);omega) (M96 (hS.er1 V (by omega)) a2 ab a3 ag) (fun _ _ _ h=>h.1) ?_;rintro r6 H6 n6 ap ⟨ao,J⟩ O a0 _;rcases J with ⟨bk,_⟩ | ⟨_,B,w,rfl,hB,bc⟩
 .exact absurd bf bk
 obtain⟨c6,rfl,aq⟩:=bc.num;have hB:=hB.sub' a0;have w6:=(O.get (nx+1) (by omega)).trans an;have a4:=O.le;have Q:=V.trans O;have d0:decide ((0:Int)≠0)=false:=by decide
 simp(config:={ maxSteps:=2000000 }) (disch:=first|omega|assumption)only[W0,Z0,Nat.reduceAdd,aq.three,aq.one,G24 (show c6.length=[dU false,.slice none 0 0,.slice none 0 0].length from aq.three),d0,bV1,w6,D7,Y12];refine⟨aa (.inr (.inr (.inr ⟨al,hp,rfl,aw,rfl,rfl⟩))) ⟨B,rfl,?_⟩ (C66 _ _),((Q.more (show n6<=n6+1 by omega)).hs (by omega)).hs (by omega) |>.hs (by omega)⟩;have b3:∀ X,Sub (D6 H6 [nx+1]) n6 (Go.Clo.hs (Go.Clo.hs (Go.Clo.hs H6 n6 (some (.cells [.bool false,.slice none 0 0,.slice none 0 0] 0))) n6 (some (.cells c6 0))) (nx+1) X):=fun X i b hi hb=>by
  have az:i≠nx+1:=by
   rintro rfl;rw[U73 (by simp)] at hb
   cases hb
  rw[Q50 (by simpa using az)] at hb;rw[Z1 _ az,Z1 _ (by omega),Z1 _ (by omega)];exact hb
 exact(hB.sub' (b3 _)).ext (D0.self (by omega))
open Go.Inv
section
variable {a b c f n:Nat} {es q w:List Nat} {kind:Int} {p:List Int}
theorem X67:TT es a b c<->N10 es a c/\N10 es b c/\¬ N10 es a b:=by
 unfold TT;rw[M43,M43,<- M43 (a:=a) (b:=b),Bool.not_eq_true];exact⟨fun h=>⟨h.2.1,h.2.2,h.1⟩,fun h=>⟨h.2.2,h.1,h.2.1⟩⟩
theorem D68(h:TrR es f none):¬ R52 es f:=fun⟨a,b,c,h1,h2,h3,h4⟩=>h a b c h1 h2 h3 (X67.2 h4)
theorem E68(h:TrR es f (some (a,b,c))):R52 es f:=⟨a,b,c,h.1,h.2.1,h.2.2.1,X67.1 h.2.2.2.1⟩
theorem R67{es:List Nat}(hn:n<=6)(hf:f<=n)(J:∀ e ∈ es,e<2^n)(h:C56 es n f kind p w):
  (¬ PE es/\kind=1)\/(PE es/\U25 (N10 es) n f []/\kind=2)\/(PE es/\¬ U25 (N10 es) n f []/\R52 es f/\kind=3)\/(U78 es n f/\kind=0):=by
 have E:∀ v,(Z7 es).testBit v=true<->Q21 es v:=fun v=>by rw[V107,dY];exact Iff.rfl
 have hP:=J73 hn J E;have hF:=W67 (es:=es) hn hf;have no:K24 (B2 es n) n f=none->¬ U25 (N10 es) n f []:=fun h2 g=>by have:=hF.2 g;rw[h2] at this;cases this
 rcases h with ⟨h1,rfl,_⟩ | ⟨h1,h2,rfl,_⟩ | ⟨h1,h2,rfl,_,a,b,c,ht,_⟩ | ⟨h1,h2,rfl,ht,_⟩
 .exact .inl ⟨fun g=>h1 (hP.2 g),rfl⟩
 .exact .inr (.inl ⟨hP.1 h1,hF.1 (by rw[h2];rfl),rfl⟩)
 .exact .inr (.inr (.inl ⟨hP.1 h1,no h2,E68 ht,rfl⟩))
 .exact .inr (.inr (.inr ⟨⟨hP.1 h1,no h2,D68 ht⟩,rfl⟩))
theorem N58{es:List Nat}(hn:n<=6)(hf:f<=n)(E:∀ e ∈ es,e<2^n)(h:C56 es n f kind p w):
  (kind=1<->¬ PE es)/\(kind=2<->PE es/\U25 (N10 es) n f [])/\(kind=0<->U78 es n f):=by
 rcases R67 hn hf E h with ⟨h1,rfl⟩ | ⟨h1,h2,rfl⟩ | ⟨h1,h2,h3,rfl⟩ | ⟨h1,rfl⟩
 .exact⟨⟨fun _=>h1,fun _=>rfl⟩,⟨fun g=>by omega,fun g=>absurd g.1 h1⟩,⟨fun g=>by omega,fun g=>absurd g.1 h1⟩⟩
 .exact⟨⟨fun g=>by omega,fun g=>absurd h1 g⟩,⟨fun _=>⟨h1,h2⟩,fun _=>rfl⟩,⟨fun g=>by omega,fun g=>absurd h2 g.2.1⟩⟩
 .exact⟨⟨fun g=>by omega,fun g=>absurd h1 g⟩,⟨fun g=>by omega,fun g=>absurd g.2 h2⟩,⟨fun g=>by omega,fun g=>absurd h3 g.2.2⟩⟩
 .exact⟨⟨fun g=>by omega,fun g=>absurd h1.1 g⟩,⟨fun g=>by omega,fun g=>absurd g.2 h1.2.1⟩,⟨fun _=>h1,fun _=>rfl⟩⟩
theorem U60{es:List Nat}(hn:n<=32)(hf:f<=n)(hl:es.length<=64)(E:∀ e ∈ es,e<2^n)(hc:∀ v,v<n->Q21 es v):C5 n f es=0:=by
 have h1:Q6 n f es=0:=by
  unfold Q6;rw[V11 hn hl fun i e he=>E e (aH he),if_neg (by simp),if_neg (by omega)]
 unfold C5;rw[h1,if_neg (by simp),show((n:Nat):Int).toNat=n by omega,if_pos];unfold W14;rw[bW];intro v hv;obtain⟨e,h2,h3⟩:=hc v (cW.1 hv);refine K58.2 ⟨e,h2,fun w hw => ?_⟩;rw[aR,decide_eq_true_eq] at hw;subst hw;exact h3
theorem IsF.sm{es q:List Nat}(h:IsF f q)(hf:f<=n)(J:∀ e ∈ es,e<2^n):∀ e ∈ G25 es q,e<2^n:=fun e' E=>by
 obtain⟨e,he,hb⟩:=(h.ren es).b e' E;refine Nat.lt_pow_two_of_testBit _ fun w hw => ?_
 rw[hb];refine bN.2 fun g => ?_
 have h1:=R7 (J e he) g;have h2:=(h.sgm_n hf w).1 h1;omega
theorem IsF.covd(h:IsF f q)(hf:f<=n)(hc:∀ v,v<n->Q21 es v):∀ v,v<n->Q21 (G25 es q) v:=fun v hv=>(h.ren es).cov.2 (hc _ ((h.sgm_n hf v).2 hv))
theorem U69{l:List Int}(h:V72 l 0 f):∃ q:List Nat,l=q.map (fun(x:Nat)=>(x:Int))/\IsF f q:=by
 obtain⟨h1,h2,h3⟩:=h;have e:(l.map Int.toNat).map (fun(x:Nat)=>(x:Int))=l:=by
  rw[List.map_map]
  conv=>rhs;rw[<- List.map_id l]
  refine List.map_congr_left fun x hx => ?_
  have:=h2 x hx;simp only[Function.comp,id];omega
 refine⟨l.map Int.toNat,e.symm,?_,fun x hx => ?_,by rw[gM];omega⟩
 .rw[<- e] at h3
  exact List.Pairwise.of_map _ (fun a b J E=>J (by rw[E])) h3
 .obtain⟨y,hy,rfl⟩:=gN.1 hx
  have:=h2 y hy;omega
theorem X68{n:Nat}(hn:n<=32)(A:Option Addr)(l:List Int)(cap:Nat)(H:Y0)(nx:Nat)(hS:Sl H nx A (U4 l)):
  Q2 Tryz.prog 22 [.slice A l.length cap,.int .i64 0,.int .i64 (n:Int)] H nx fun r H' nx'=>(∃ b:Bool,r = .bool b/\(b=true<->V72 l 0 n))/\H=H'/\nx<=nx':=by
 by_cases h:l.length<=40
 .exact C72 (f:=0) (Nat.zero_le _) hn A l cap H nx hS h
 .refine spec22 ?_
  unfold F22;have d:decide ((l.length:Int)≠(n:Int)-0)=true:=by simp;omega
  simp(disch:=first|omega|assumption)only[W0,d];exact⟨false,rfl,fun g=>(by cases g),fun g=>by have:=g.1;omega⟩
theorem bG(x:Int)(A:Option Addr)(n c:Nat)(k:VP):U11 [.int .i64 0,.slice none 0 0] [(0,1),(1,1)] [(0,.int .i64 x),(1,.slice A n c)] k=k (.agg ⟨[.int .i64 x,.slice A n c]⟩):=V14 _ _
theorem J64{N free:Int}{r:Value}{H:Y0}{nx:Nat}(hw:C5 N free es=0)(h:R66 es N free r H nx):
  ∃ kind p w P lp cp W lw cw,r = .tuple ⟨[.agg ⟨[.int .i64 kind,.slice P lp cp,.slice W lw cw]⟩,.int .i64 0]⟩/\C56 es N.toNat free.toNat kind p w:=by
 rcases h with ⟨h,_⟩ | ⟨_,kind,p,w,pv,wv,rfl,hV,⟨P,rfl,_⟩,⟨W,rfl,_,_⟩⟩
 .exact absurd hw h
 .exact⟨kind,p,w,_,_,_,_,_,_,rfl,hV⟩
end
theorem law6(N free:Int)(A:Option Addr)(es:List Nat)(cap:Nat)(P:Option Addr)(l:List Int)(U:Nat)(H:Y0)(nx:Nat)(hS:Sl H nx A (K12 es))(hP:Sl H nx P (U4 l))(Z:U14 es):
  Q2 Tryz.prog 6 [gv N A es.length cap,.int .i64 free,.slice P l.length U] H nx fun r _ _=>r = .bool true:=by
 refine spec6 ?_;unfold F6;have a9:D0 H nx (hs H nx (some (.cells [.int .i64 N,.slice A es.length cap] 0))) (nx+1):=(D0.refl H nx).new _ (aD _) (by omega);have k1:J0 (hs H nx (some (.cells [.int .i64 N,.slice A es.length cap] 0))) nx=some (.cells [.int .i64 N,.slice A es.length cap] 0):=Z11 _ _ _;simp only[gv];rw[M12,Y31];refine(@if_pos _ _ (show Z0 [cD .i64 N,.slice A es.length cap]=true from rfl) _ _ _).mpr ?_;rw[Q37];simp only[Q0.val];generalize hs H nx (some (.cells [.int .i64 N,.slice A es.length cap] 0))=K at *
 refine R0 (X60 K _) ?_;rintro _ _ _ ⟨rfl,rfl,rfl⟩;simp(disch:=first|omega|assumption)only[W0,Q0.val];refine N5 (fun L H' nx'=>(∃ c:Bool,L=[.bool c]/\(c=false->K36 N free es/\C5 N free es=0/\V72 l 0 free.toNat))/\D0 K (nx+1) H' nx') ?_ ?_
 .intro j hj
  simp(disch:=first|omega|assumption)only[W0,k1,C13];refine R0 (J67 N free A es cap K _) ?_;rintro _ H3 n3 ⟨⟨c,rfl,hF⟩,E⟩;have k3:=(E.get nx (by omega)).trans k1;have ac:=E.le
  cases c with
  | false=>
   simp(disch:=first|omega|assumption)only[W0];exact hj _ _ _ ⟨⟨true,rfl,fun h=>by cases h⟩,E⟩
  | true=>
   have hF:=hF rfl;simp(disch:=first|omega|assumption)only[W0,k3,C13];refine R0 (C58 A es cap Z hF H3 n3 (hS.ext (a9.trans E))) ?_;rintro _ H4 n4 ⟨rfl,Q⟩
   by_cases hw:C5 N free es≠0
   .simp(disch:=first|omega|assumption)only[W0,decide_eq_true hw]
    exact hj _ _ _ ⟨⟨true,rfl,fun h=>by cases h⟩,E.trans Q⟩
   have a0:C5 N free es=0:=Classical.not_not.1 hw;obtain⟨n,f,rfl,rfl,ai,O,_⟩:=Q48 a0;simp(disch:=first|omega|assumption)only[W0,decide_eq_false hw];refine R0 (X68 (n:=f) (by omega) P l U H4 n4 (hP.ext ((a9.trans E).trans Q))) ?_;rintro _ _ n5 ⟨⟨b,rfl,hb⟩,rfl,ap⟩;simp(disch:=first|omega|assumption)only[W0];refine hj _ _ _ ⟨⟨!b,rfl,fun h=>⟨hF,a0,?_⟩⟩,(E.trans Q).trans (D0.self ap)⟩;rw[show((f:Nat):Int).toNat=f by omega]
   cases b with
   | true=>exact hb.1 rfl
   | false=>cases h
 rintro _ H3 n3 ⟨⟨c,rfl,hF⟩,E⟩
 cases c with
 | true=>simp(disch:=first|omega|assumption)only[W0]
 | false=>
 obtain⟨hX,a0,ae⟩:=hF rfl;clear hF;have hF:=hX;clear hX;obtain⟨n,f,rfl,rfl,ai,O,aa,aj⟩:=Q48 a0;have a2:n<=6:=by have:=hF.2.1;omega
 have ao:=hF.1;have eN:((n:Nat):Int).toNat=n:=by omega
 have eF:((f:Nat):Int).toNat=f:=by omega
 rw[eF] at ae;obtain⟨q,rfl,hq⟩:=U69 ae;have aw:=hq.len;have V:=hq.sm O aa;have a1:U14 (G25 es q):=fun e he=>by
  have h1:=V e he;have h2:2^n<=2^6:=aK (by omega) a2;omega
 have an:K36 n f (G25 es q):=⟨by rw[W46];exact hF.1,hF.2⟩
 have ab:C5 n f (G25 es q)=0:=U60 ai O (by rw[W46];omega) V (hq.covd O aj);have k3:=(E.get nx (by omega)).trans k1;have a5:=a9.trans E;have ac:=E.le;simp(disch:=first|omega|assumption)only[W0,k3,C13];refine R0 (Y99 A es cap Z hF H3 n3 (hS.ext a5)) ?_;rintro r4 H4 n4 ⟨hD,Q⟩;obtain⟨J,p,w,P1,lp,cp,W1,lw,cw,rfl,hV⟩:=J64 a0 hD;rw[eN,eF] at hV;have k4:=(Q.get nx (by omega)).trans k3;have ag:=a5.trans Q;have au:=Q.le;have ak:D0 H4 n4 (hs (hs H4 n4 (some (.cells [.int .i64 0,.slice none 0 0,.slice none 0 0] 0))) n4 (some (.cells [.int .i64 J,.slice P1 lp cp,.slice W1 lw cw] 0))) (n4+1):=((D0.refl _ _).new _ (aD _) (m:=n4+1) (by omega)).hs (aD _);have g6:J0 (hs (hs H4 n4 (some (.cells [.int .i64 0,.slice none 0 0,.slice none 0 0] 0))) n4 (some (.cells [.int .i64 J,.slice P1 lp cp,.slice W1 lw cw] 0))) n4=some (.cells [.int .i64 J,.slice P1 lp cp,.slice W1 lw cw] 0):=Z11 _ _ _;have k6:=(ak.get nx (by omega)).trans k4;simp(disch:=first|omega|assumption)only[W0,Z0,Nat.reduceAdd,D7,k4];generalize hs (hs H4 n4 (some (.cells [.int .i64 0,.slice none 0 0,.slice none 0 0] 0))) n4 (some (.cells [.int .i64 J,.slice P1 lp cp,.slice W1 lw cw] 0))=H6 at *
 have a4:=ag.trans ak;have a6:D0 H6 (n4+1) H6 (n4+1+15):=D0.self (by omega);have a3:=Y60 a2 A es cap P q U aa ao (fun x hx=>by have:=hq.lt x hx;omega) (by omega) H6 (n4+1+15) ((hS.ext a4).ext a6) ((hP.ext a4).ext a6);rw[show q.length=(q.map fun(x:Nat)=>(x:Int)).length by rw[gM]] at a3;refine R0 a3 ?_;rintro _ H7 n7 ⟨⟨B,rfl,hB⟩,a8⟩;have k7:=(a8.get nx (by omega)).trans k6;have g7:=(a8.get n4 (by omega)).trans g6;have av:=a8.le;have ad:=Y99 (N:=n) (free:=f) B (G25 es q) es.length a1 an H7 n7 hB;rw[W46] at ad;simp(disch:=first|omega|assumption)only[bG];refine R0 ad ?_;rintro r8 H8 n8 ⟨al,a7⟩;obtain⟨W,p',w',P2,ay,ax,W2,b3,az,rfl,ah⟩:=J64 ab al;rw[eN,eF] at ah;have k8:=(a7.get nx (by omega)).trans k7;have g8:=(a7.get n4 (by omega)).trans g7;have aq:=a7.le;obtain⟨v1,v2,_⟩:=N58 a2 O aa hV;obtain⟨u1,u2,_⟩:=N58 a2 O V ah;have hR:=hq.ren es;have e1:decide (W=1)=decide (J=1):=by
  congr 1;apply propext;rw[v1,u1,hR.pe]
 have e2:decide (W=2)=decide (J=2):=by
  congr 1;apply propext;rw[v2,u2,hR.pe,hR.fpth hq.sgm_lt (hq.sgm_n O)]
 have hb:∀ b:Bool,(b==b)=true:=fun b=>by cases b<;>rfl
 have g9:∀ b,J0 (hs H8 (n4+1+12) b) n4=some (.cells [.int .i64 J,.slice P1 lp cp,.slice W1 lw cw] 0):=fun b=>by rw[Z1 _ (by omega)];exact g8
 simp(disch:=first|omega|assumption)only[W0,Z0,Nat.reduceAdd,k7,g8,D7,J72,e1,e2,hb,Bool.cond_false]
end Go.Proofs.YtoiioigihocgbaaGreatDoor
namespace Go.Proofs.YtoiioigihocgbaaGreatDoor.dichotomyOrders
section
open Go.ChangeShapes Go.WideShapes Go.ChangeAt Go.RowKit Go.Joins Go.Clo
theorem lifted(os:Os)(J:os.Started)(H:Type)(enc:TypeId × Value->H):
  ReturnsInHanded {} Tryz.checked os 6 .any (fun w args=>(Rows.dichotomyOrdersSpec.pre enc Tryz.prog Tryz.f6 Rows.dichotomyOrdersRow.domain false w args/\laidMetH Tryz.prog X16 w)/\sizedMet enc Tryz.prog Tryz.f6 (gP Rows.dichotomyOrdersSpec) false w args)
   (Rows.dichotomyOrdersSpec.post enc Tryz.prog Tryz.f6 false true false false):=by
 refine returnsInHanded_of_change_and (C:=Tryz.checked) (X:=fun w _=>laidMetH Tryz.prog X16 w) (fun _ _ _ hh h=>h.of_heap hh) own J (by kernel_rfl) Tryz.func6
  (ChangeSpec.witness_shaped (enc:=enc) (C:=Tryz.checked) (os:=os) (X:=fun w _=>laidMetH Tryz.prog X16 w) false (World.laidAll Tryz.prog os X16) #[.agg #[.int .i64 0,.slice none 0 0],.int .i64 0,.slice none 0 0] 8 (World.laidAll_os _ _ _)
   (Q69 os) (by kernel_rfl) (by kernel_rfl) (by kernel_rfl) (met os _)) ?_
 intro W base args ds gs a0 Q hW _ _ O _;have E:∀(j:Nat) t v,Tryz.f6.params[j]? = some t->args[j]? = some v->Value.okWide Tryz.prog W .any base t v:=Q;have a9:=hW;obtain⟨p,q,a7,hV,rfl,_,_⟩:=hW;have hA:DataW.TrodAll enc Tryz.prog W 0 (fun _=>true) true Tryz.f6.params.toList args.toList ds p:=a7;have U:=hA;rw[Tryz.params6] at hA E;obtain⟨v0,ao,d0,ag,p0,q0,a8,rfl,rfl,h0,r0⟩:=trodAll_cons hA;obtain⟨v1,ah,d1,ap,p1,q1,rfl,rfl,rfl,h1,r1⟩:=trodAll_cons r0;obtain⟨v2,ai,d2,aq,p2,q2,rfl,rfl,rfl,h2,r2⟩:=trodAll_cons r1;obtain⟨rfl,rfl,rfl⟩:=trodAll_nil r2;obtain rfl:args = #[v0,v1,v2]:=by cases args;simp_all
 obtain⟨rfl,rfl⟩:=trodVars_none hV;obtain⟨N,A,len,cap,n0,y0,rfl,_,V,a6⟩:=V55 (E 0 24 v0 rfl rfl) h0;obtain⟨free,rfl,rfl,rfl,_⟩:=open_int Tryz.underlying3 (E 1 3 v1 rfl rfl) h1;obtain⟨F1,H1,an,A',es,a2,ae,a4,ab,hS,aj,hH⟩:=E52 (In.start W (B48 O)) V a6;obtain⟨P,np,pc,rfl⟩:=okWide_slice Tryz.underlying27 (E 2 27 v2 rfl rfl);obtain⟨a5,ac⟩:=h2;obtain⟨F2,H2,nx2,P',l,a3,Z,ad,ak,hP,aa,al⟩:=B64 a2 (D51 Tryz.underlying27 (E 2 27 _ rfl rfl)) ac;have a1:VL F2 [gv N A' es.length cap,.int .i64 free,.slice P' l.length pc] [.agg #[.int .i64 N,.slice A len cap],.int .i64 free,.slice P np pc]:=
  .cons (VR.agg' (.cons (.int _ _) (.cons (a4.mono Z) .nil))) (.cons (.int _ _) (.cons ad .nil))
 refine(Y46 (law6 N free A' es cap P' l pc H2 nx2 (hS.ext aa) hP ab) (fun _ _ _ h=>h) a3 a1).mono fun e W' ⟨he,hb⟩ => ?_
 subst he;refine⟨_,rfl,D64 a9 rfl rfl rfl rfl (by kernel_rfl) ?_ hb U fun x hx=>dX _ hx⟩;rw[Tryz.params6];intro t ht;simp only[aU,List.not_mem_nil,or_false] at ht;rcases ht with rfl | rfl | rfl<;>exact⟨by kernel_rfl,of_decide_eq_true (by kernel_rfl)⟩
theorem over:Rows.dichotomyOrdersRow.holds Tryz.pinned (gP Rows.dichotomyOrdersSpec):=
 OpenClaim.holds_of_wide 6 Tryz.f6 rfl rfl rfl rfl rfl rfl rfl ⟨rfl,rfl,rfl,rfl,rfl⟩ rfl rfl rfl rfl rfl (by kernel_rfl) Tryz.func6 (by kernel_rfl)
  (of_decide_eq_true (by kernel_rfl)) (by unfold Func.isWrapper;first | (rw[if_pos (by decide +kernel)];kernel_rfl) | (rw[if_neg (by decide +kernel)];exact⟨rfl,rfl⟩))
  (fun os E H enc _=>lifted os E H enc)
theorem proved:Rows.DichotomyOrdersCardSaid:=
 Claim7.holds_tied_plain_at .later [] [.data] true (true, "c5ae0ebca12fb395c0a3b7aa4c544d07c055311973735efb38106f23dc425963") false over (fun _ h => by cases h) (by kernel_rfl) (fun _ h => by cases h) dichotomyOrders_row_tie rfl ⟨rfl, rfl⟩ (by kernel_rfl) rfl
  (fun f fn hf hfn=>by
   obtain rfl:f=6:=Option.some.inj ((show Tryz.prog.funcNamed Rows.dichotomyOrdersRow.func=some 6 by kernel_rfl).symm.trans hf) |>.symm
   obtain rfl:fn=Tryz.f6:=(Option.some.inj (Tryz.func6.symm.trans hfn)).symm
   exact⟨by kernel_rfl,fun j t ht=>by
    rw[Tryz.params6] at ht
    have hm:t ∈ [24,3,27]:=by simpa using Array.mem_of_getElem? ht
    have hall:([24,3,27].all fun u => !Tryz.prog.wantsStandIn u)=true:=by kernel_rfl
    exact (show Tryz.prog.wantsStandIn t=false by simpa using List.all_eq_true.1 hall t hm)⟩)
  (by kernel_rfl)
end
end Go.Proofs.YtoiioigihocgbaaGreatDoor.dichotomyOrders
