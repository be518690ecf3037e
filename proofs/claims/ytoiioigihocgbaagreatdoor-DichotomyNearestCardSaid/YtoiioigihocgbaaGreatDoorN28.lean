/-
  Contracts: connex.below,connex.shortest.
  Contract: connex.Path.
  Contracts: trio.valid,visit,Find.
  Contracts: ordinallaw33.Few,ref.Same,slices.Clone,covered,wrong,checkInput.
  Contracts: dichotomy.checkInput,Decide.
-/
import Derived.Test.YtoiioigihocgbaaGreatDoorN27
import Derived.Test.YtoiioigihocgbaaGreatDoorN25
set_option linter.all false
namespace Go.Clo
def mpF(e:Nat->Nat)(n:Nat):Option Value:=if e n=0 then none else some (.int .u32 (e n:Int))
theorem Q61(i:Nat)(s:Nat × (Nat->Nat)):shN i none s=s:=rfl
end Go.Clo
namespace Go.Proofs.YtoiioigihocgbaaGreatDoor
open Go.Clo
theorem C68{n:Nat}(hn:n<=32)(H:Y0)(nx:Nat):Q2 Tryz.prog 35 [.int .i64 (n:Int)] H nx (Z56 (.int .u32 ((2^n-1:Nat):Int)) H nx):=by
 refine spec35 ?_;unfold F35;simp only[M26 hn,Y5];exact⟨rfl,rfl,rfl⟩
section
variable {aL:List Nat} {N:Nat} (hN:N<=6) (hL:NbL aL N)
include hN hL
set_option maxRecDepth 20000 in
set_option maxHeartbeats 4000000 in
theorem K45{inn f:Nat}(hi:inn<2^N)(hf:f<=N)(H:Y0)(nx:Nat):
  Q2 Tryz.prog 36 [.agg ⟨C0 aL⟩,.int .u32 (inn:Int),.int .i64 (f:Int)] H nx fun r H' nx'=>(∃ q,r = .tuple ⟨[.int .i64 ((J4 aL N inn f f).1:Int),.map (some q)]⟩/\D4 H' q (mpF (J4 aL N inn f f).2)/\q<nx')/\D0 H nx H' nx':=by
 have b8:2^N<=64:=Nat.pow_le_pow_right (n:=2) (by omega) hN;have ap:0<2^N:=Nat.two_pow_pos N;have ba:2^f<=2^N:=Nat.pow_le_pow_right (n:=2) (by omega) hf;have bg:0<2^f:=Nat.two_pow_pos f;have az:=M44 hN hL;have bf:inn<4294967296:=by omega
 refine spec36 ?_;unfold F36;have g1:J0 (hs (hs H nx (some (.cells (C0 aL) 0))) (nx+1) (some (.map [] 0))) nx=some (.cells (C0 aL) 0):=by rw[Z1 _ (by omega),E0]
 have m1:D4 (hs (hs H nx (some (.cells (C0 aL) 0))) (nx+1) (some (.map [] 0))) (nx+1) (fun _=>none):=D4.nil (E0 _ _ _);have ad:D0 H nx (hs (hs H nx (some (.cells (C0 aL) 0))) (nx+1) (some (.map [] 0))) (nx+1+1):=((D0.refl H nx).new _ (Nat.le_refl _) (m:=nx+1) (by omega)).new _ (by omega) (by omega);simp(disch:=first|omega|assumption)only[W0,Q0.val,W5 aL,E66];generalize hs (hs H nx (some (.cells (C0 aL) 0))) (nx+1) (some (.map [] 0))=H1 at *
 refine B1 (m:=f) (fun m L' H' nx'=>∃ i:Nat,m+i=f/\L'=[.int .i64 ((J4 aL N inn f i).1:Int),.int .i64 (i:Int)]/\D4 H' (nx+1) (mpF (J4 aL N inn f i).2)/\KB (nx+1) H1 (nx+1+1) H' nx') ?_
  ⟨0,by omega,rfl,m1,⟨Nat.le_refl _,fun _ _ _=>rfl⟩⟩
 rintro m ih L1 H2 n2 ⟨i,hm,rfl,hM,hK⟩ al
 by_cases bu:i<f
 case neg=>
  obtain rfl:i=f:=by omega
  have a7:¬ (i:Int)<(i:Int):=by omega
  simp(disch:=first|omega|assumption)only[W0,a7];have:=hK.le;exact⟨⟨nx+1,rfl,hM,by omega⟩,⟨by have:=ad.le;omega,fun j hj=>by rw[hK.get j (by omega) (by omega)];exact ad.get j hj⟩⟩
 have a7:(i:Int)<(f:Int):=by omega
 have g2:=(hK.get nx (by omega) (by omega)).trans g1;have bc:=hK.le;obtain⟨x,gx,aj,ab⟩:=hL.at (u:=i) (by omega);have gx:=Q3 gx;have bw:i<32:=by omega
 have bv:x<4294967296:=by omega
 have ak:2^f-1<4294967296:=by omega
 have n1:Z2 (2^f-1) x<4294967296:=V0 ak;have pi:2^i<4294967296:=by have:=R27 (show i<N by omega);omega
 have a4:N14 aL f i=Z2 (Z2 (2^f-1) x) (2^i):=by unfold N14;rw[ab]
 have ax:N14 aL f i<2^N:=by rw[a4];exact Z6 (Z6 (by omega))
 have next:J4 aL N inn f (i+1)=shN i (shG aL inn (N14 aL f i) (J4 aL N inn f i).1 N 0 (x &&& inn) 2) (J4 aL N inn f i):=by rw[J4,ab]
 generalize J4 aL N inn f i=s at *
 obtain⟨len,ends⟩:=s;dsimp only at next hM ⊢;simp(config:={ maxSteps:=2000000 }) (disch:=first|omega|assumption)only[W0,a7];refine N5 (fun L' H' nx'=>L'=[.int .i64 ((J4 aL N inn f (i+1)).1:Int)]/\D4 H' (nx+1) (mpF (J4 aL N inn f (i+1)).2)/\KB (nx+1) H1 (nx+1+1) H' nx') ?_ ?_
 case refine_2=>
  rintro L H3 n3 ⟨rfl,a0,Q⟩;exact al (m-1) _ _ _ (by omega) ⟨i+1,by omega,by simp,a0,Q⟩
 intro jj W;refine R0 (C68 (n:=f) (by omega) _ _) ?_;rintro _ _ _ ⟨rfl,rfl,rfl⟩;simp(config:={ maxSteps:=2000000 }) (disch:=first|omega|assumption)only[W0,g2,gx];rw[<- a4];generalize N14 aL f i=far at *
 generalize hR:shG aL inn far len N 0 (x &&& inn) 2=R at *
 have an:KB (nx+1) H1 (nx+1+1) H2 (n2+10):=⟨by omega,hK.get⟩
 refine B1 (m:=N) (fun k L' H' nx'=>∃(c b st:Nat),L'=[.int .i64 (len:Int),.int .u32 (c:Int),.int .u32 (b:Int),.int .i64 (st:Int)]/\c<2^N/\b<2^N/\N<=k+(V5 N c).length/\(∀ w,b.testBit w=true->c.testBit w=false)/\shG aL inn far len k c b st=R/\k+st=N+2/\D4 H' (nx+1) (mpF ends)/\KB (nx+1) H1 (nx+1+1) H' nx') ?_
  ⟨0,x &&& inn,2,rfl,ap,W37 aj,by omega,by simp,hR,rfl,hM,an⟩
 rintro k bk L1 H3 n3 ⟨c,b,st,rfl,hc,hb,bo,hd,hG,b3,a0,Q⟩ ae;have bh:c<4294967296:=by omega
 have ac:b<4294967296:=by omega
 have b5:=Q.le;have g3:=(Q.get nx (by omega) (by omega)).trans g1;have z1:decide ((len:Int)=0)=decide (len=0):=by congr 1;apply propext;omega
 have z2:decide ((st:Int)<=(len:Int))=decide (st<=len):=by congr 1;apply propext;omega
 have z3:decide ((st:Int)<(len:Int))=decide (st<len):=by congr 1;apply propext;omega
 have z4:decide ((b:Int)≠0)=decide (b≠0):=by congr 1;apply propext;omega
 refine N5 (fun L' H' nx'=>L'=[.bool (decide (b≠0/\(len=0\/st<=len)))]/\H3=H'/\n3=nx') ?_ ?_
 .intro j2 a8
  by_cases q0:b≠0
  .by_cases q1:len=0
   .simp(disch:=first|omega|assumption)only[W0,z4,decide_eq_true q0,z1,decide_eq_true q1]
    exact a8 _ _ _ ⟨by simp[q0,q1],rfl,rfl⟩
   .simp(disch:=first|omega|assumption)only[W0,z4,decide_eq_true q0,z1,decide_eq_false q1,z2]
    exact a8 _ _ _ ⟨by simp[q0,q1],rfl,rfl⟩
  .simp(disch:=first|omega|assumption)only[W0,z4,decide_eq_false q0]
   exact a8 _ _ _ ⟨by simp[q0],rfl,rfl⟩
 rintro L1 _ _ ⟨rfl,rfl,rfl⟩
 by_cases a5:b≠0/\(len=0\/st<=len)
 case neg=>
  simp(disch:=first|omega|assumption)only[W0,decide_eq_false a5];have aw:R=none:=by
   cases k with
   | zero=>exact hG.symm
   | succ k=>
    rw[shG,if_pos (by
     by_cases q0:b=0
     .exact .inl q0
     .right
      refine Classical.byContradiction fun hh=>a5 ⟨q0,?_⟩
      by_cases q1:len=0
      .exact .inl q1
      .exact .inr (by omega))] at hG
    exact hG.symm
  rw[aw,Q61] at next;rw[next] at W;exact W _ _ _ ⟨rfl,a0,Q⟩
 obtain⟨a3,ag⟩:=a5;obtain⟨k',rfl⟩:∃ k',k=k'+1:=by
  cases k with
  | zero=>exact absurd (X20 hb hd (by have:=Q15 N c;omega)) a3
  | succ k=>exact⟨k,rfl⟩
 rw[shG,if_neg (by
  rintro (h | h)
  .exact a3 h
  .omega)] at hG
 have ao:=Z14 (b:=b) hL.lt 32;have V:Q4 aL b 32<4294967296:=by omega
 have aq:c ||| b<2^N:=Z26 hc hb;have ay:c ||| b<4294967296:=by omega
 have hg:=R25 hb a3 hd;have au:far<4294967296:=by omega
 simp(disch:=first|omega|assumption)only[W0,decide_eq_true (⟨a3,ag⟩:b≠0/\(len=0\/st<=len)),g3,M18 az];refine R0 (Z35 hN hL ac H3 n3) ?_;rintro _ H4 n4 ⟨rfl,a6⟩;have a9:=a0.ext (nx:=n3) (by omega) a6;have bd:=a6.le;have U:KB (nx+1) H1 (nx+1+1) H4 n4:=⟨by omega,fun j hj J=>by rw[a6.get j (by omega)];exact Q.get j hj J⟩
 have bx:Q4 aL b 32 &&& far<4294967296:=D52 V;have b4:Q4 aL b 32 &&& inn<4294967296:=D52 V;have z5:decide (((Q4 aL b 32 &&& far:Nat):Int)≠0)=decide (Q4 aL b 32 &&& far≠0):=by congr 1;apply propext;omega
 by_cases E:Q4 aL b 32 &&& far≠0
 case neg=>
  rw[if_neg E] at hG;simp(disch:=first|omega|assumption)only[W0,z5,decide_eq_false E];have av:Z2 (Q4 aL b 32 &&& inn) (c ||| b)<2^N:=Z6 (W37 ao);refine ae k' _ _ _ (by omega) ⟨c ||| b,_,st+1,by simp,aq,av,by omega,fun w hw => ?_,hG,by omega,a9,U⟩;rw[N1,Bool.and_eq_true] at hw;simpa using hw.2
 rw[if_pos E] at hG;rw[<- hG] at next;simp(disch:=first|omega|assumption)only[W0,z5,decide_eq_true E];generalize Q4 aL b 32 &&& far=last at *
 have next:J4 aL N inn f (i+1)=(st,fun y=>if y=i then last else if len=0\/st<len then 0 else ends y):=next;rw[next] at W;have ew:∀ {H5:Y0} {n5:Nat} {M:Nat->Option Value},D4 H5 (nx+1) M->KB (nx+1) H1 (nx+1+1) H5 n5->(∀ y,mpF (fun y=>if y=i then last else if len=0\/st<len then 0 else ends y) y=if y=i then some (.int .u32 (last:Int)) else M y) ->
   W56 (.int .i64) (.map (some (nx+1))) (.int .i64 (i:Int)) (.int .u32 (last:Int)) H5 n5 fun bt ah aa=>jj [.int .i64 (st:Int)] ah aa:=fun {H5 n5 M} O Z he=>by
  refine O.put i _ fun es cl ai => ?_
  exact W _ _ _ ⟨rfl,ai.congr he,⟨Z.le,fun j hj J=>by rw[Z1 _ J];exact Z.get j hj J⟩⟩
 by_cases a1:len=0\/st<len
 .refine N5 (fun L' H' nx'=>L'=[.int .i64 (st:Int)]/\D4 H' (nx+1) (fun _=>none)/\KB (nx+1) H1 (nx+1+1) H' nx') ?_ ?_
  .intro j3 a2
   rw[R1];have clr:∀ k:Y0->Prop,(∀ c,D4 (Go.Clo.hs H4 (nx+1) (some (.map [] c))) (nx+1) (fun _=>none)->k (Go.Clo.hs H4 (nx+1) (some (.map [] c))))->M41 (.map (some (nx+1))) H4 k:=fun k hk=>a9.clr hk
   by_cases q1:len=0
   .simp(disch:=first|omega|assumption)only[W0,decide_eq_true q1]
    refine clr _ fun cl O => ?_
    exact a2 _ _ _ ⟨rfl,O,⟨U.le,fun j hj J=>by rw[Z1 _ J];exact U.get j hj J⟩⟩
   .have q2:st<len:=by omega
    simp(disch:=first|omega|assumption)only[W0,decide_eq_false q1,z3,decide_eq_true q2];refine clr _ fun cl O => ?_
    exact a2 _ _ _ ⟨rfl,O,⟨U.le,fun j hj J=>by rw[Z1 _ J];exact U.get j hj J⟩⟩
  rintro L1 H5 n5 ⟨rfl,O,Z⟩;simp(disch:=first|omega|assumption)only[W0];refine ew O Z fun y => ?_
  unfold mpF
  by_cases hy:y=i
  .simp only[hy,if_true];rw[if_neg E]
  .simp only[hy,if_false,a1,if_true]
 .refine N5 (fun L' H' nx'=>L'=[.int .i64 (st:Int)]/\H4=H'/\n4=nx') ?_ ?_
  .intro j3 a2
   rw[R1];have q1:¬ len=0:=fun h=>a1 (.inl h)
   have q2:¬ st<len:=fun h=>a1 (.inr h)
   have q3:len=st:=by omega
   simp(disch:=first|omega|assumption)only[W0,decide_eq_false q1,z3,decide_eq_false q2];exact a2 _ _ _ ⟨by rw[q3],rfl,rfl⟩
  rintro L1 _ _ ⟨rfl,rfl,rfl⟩;simp(disch:=first|omega|assumption)only[W0];refine ew a9 U fun y => ?_
  unfold mpF
  by_cases hy:y=i
  .simp only[hy,if_true];rw[if_neg E]
  .simp only[hy,if_false,a1]
end
end Go.Proofs.YtoiioigihocgbaaGreatDoor

namespace Go.Clo
theorem K60{aL:List Nat}{inn J O N:Nat}(hf:J<2^N):∀(k E b st:Nat) {r:Nat × Nat},shG aL inn J O k E b st=some r->r.2<2^N/\r.1<=st+k
 | 0,_,_,_,r,h=>by cases h
 | k+1,E,b,st,r,h=>by
  unfold shG at h
  split at h
  .cases h
  .split at h
   .cases h
    exact⟨Nat.lt_of_le_of_lt Nat.and_le_right hf,by show st<=_;omega⟩
   .obtain⟨h1,h2⟩:=K60 hf k _ _ _ h
    exact⟨h1,by omega⟩
end Go.Clo
namespace Go.Proofs.YtoiioigihocgbaaGreatDoor
open Go.Clo
theorem W61{H:Y0}{q:Nat}{e:Nat->Nat}(h:D4 H q (mpF e))(n:Nat)(k:VP):wLk (.int .i64) (.int .u32 0) (.map (some q)) (.int .i64 (n:Int)) false H k=k (.int .u32 (e n:Int)):=by
 by_cases he:e n=0
 .rw[h.lkN' (n:=n) (by unfold mpF;rw[if_pos he]),he];rfl
 .rw[h.lkS' (n:=n) (v := .int .u32 (e n:Int)) (by unfold mpF;rw[if_neg he])]
set_option maxRecDepth 20000 in
set_option maxHeartbeats 4000000 in
theorem W68{N f:Nat}(hN:N<=6)(hf:f<=N)(A:Option Addr)(es:List Nat)(cap:Nat)(a3:∀ e ∈ es,e<2^N)(av:es.length<=8)(H:Y0)(nx:Nat)(hS:Sl H nx A (C0 es)):
  Q2 Tryz.prog 14 [gv (N:Int) A es.length cap,.int .i64 (f:Int)] H nx fun r H' nx'=>(∃ v,r = .tuple ⟨[v,.bool (K24 (B2 es N) N f).isSome]⟩/\LsR ((K24 (B2 es N) N f).getD []) v H' nx')/\D0 H nx H' nx':=by
 have ao:2^N<=64:=Nat.pow_le_pow_right (n:=2) (by omega) hN;have ay:0<2^N:=Nat.two_pow_pos N;have ap:2^f<=2^N:=Nat.pow_le_pow_right (n:=2) (by omega) hf;have aw:0<2^f:=Nat.two_pow_pos f;have a6:C4 es:=fun e he=>by have:=a3 e he;omega
 have ac:N3 N es=0:=V11 (by omega) (by omega) fun i e he=>a3 e (List.mem_of_getElem? he)
 have ae:Q6 (N:Int) (f:Int) es=0:=by
  unfold Q6;rw[ac];simp;omega
 refine spec14 ?_;unfold F14;have a8:D0 H nx (hs H nx (some (.cells [.int .i64 N,.slice A es.length cap] 0))) (nx+1):=(D0.refl H nx).new _ (Nat.le_refl _) (by omega);have k1:J0 (hs H nx (some (.cells [.int .i64 N,.slice A es.length cap] 0))) nx=some (.cells [.int .i64 N,.slice A es.length cap] 0):=E0 _ _ _;simp(disch:=first|omega|assumption)only[W0,Z0,Q0.val,U2];generalize hs H nx (some (.cells [.int .i64 N,.slice A es.length cap] 0))=K at *
 refine R0 (G56 N f A es cap _ _ (hS.ext a8) a6) ?_;rintro _ H2 nx2 ⟨rfl,J⟩;have d1:decide (Q6 N f es≠0)=false:=by simp[ae]
 have g2:=(J.get nx (by omega)).trans k1;have aq:=J.le;simp(disch:=first|omega|assumption)only[W0,d1,g2,U2];refine R0 (Z71 (by omega) A es cap _ _ (hS.ext (a8.trans J)) a3 (by omega) ac) ?_;rintro _ H3 E ⟨rfl,a0⟩;have g3:=(a0.get nx (by omega)).trans g2;have an:=a0.le;have e1:(C0 (B2 es N)).length=32:=by rw[E1];exact N9 es N
 have e2:(C0 (List.replicate 32 0)).length=32:=by rw[E1];simp
 have e3:=G24 (c:=C0 (List.replicate 32 0)) (vs:=C0 (B2 es N)) (by rw[e1,e2]);have e4:=W5 (B2 es N);rw[Q27];have ab:D0 H3 E (hs (hs H3 E (some (.cells (C0 (List.replicate 32 0)) 0))) E (some (.cells (C0 (B2 es N)) 0))) (E+1):=((D0.refl _ _).new _ (Nat.le_refl _) (m:=E+1) (by omega)).hs (Nat.le_refl _);have a4:J0 (hs (hs H3 E (some (.cells (C0 (List.replicate 32 0)) 0))) E (some (.cells (C0 (B2 es N)) 0))) E=some (.cells (C0 (B2 es N)) 0):=E0 _ _ _;have ah:J0 (hs (hs H3 E (some (.cells (C0 (List.replicate 32 0)) 0))) E (some (.cells (C0 (B2 es N)) 0))) nx=some (.cells [.int .i64 N,.slice A es.length cap] 0):=(ab.get nx (by omega)).trans g3;simp(disch:=first|omega|assumption)only[W0,e1,e2,e3,e4,g3];generalize hs (hs H3 E (some (.cells (C0 (List.replicate 32 0)) 0))) E (some (.cells (C0 (B2 es N)) 0))=H4 at *
 have U:=((a8.trans J).trans a0).trans ab;have hL:=R60 es N;have W:=M37 (es:=es) (N:=N) (by omega);generalize B2 es N=aL at *
 have al:∀ u w,(aL.getD u 0).testBit w=true->w<32:=fun u w h=>by
  cases hg:aL[u]? with
  | none=>rw[List.getD_eq_getElem?_getD,hg] at h;simp at h
  | some x=>
   rw[List.getD_eq_getElem?_getD,hg] at h;have:=R7 (hL.lt u x hg) h;omega
 refine R0 (C59 (n:=N) (by omega) _ _) ?_;rintro _ _ _ ⟨rfl,rfl,rfl⟩;refine R0 (C59 (n:=f) (by omega) _ _) ?_;rintro _ _ _ ⟨rfl,rfl,rfl⟩;have a1:2^N-1<4294967296:=by omega
 have a2:2^f-1<4294967296:=by omega
 have V:K10 N f<2^N:=Z6 (by omega);simp(disch:=first|omega|assumption)only[W0,a4,M18 e1];rw[show Z2 (2^N-1) (2^f-1)=K10 N f from rfl];unfold K24;generalize K10 N f=inn at *
 refine R0 (K45 hN hL V hf _ _) ?_;rintro _ H5 aa ⟨⟨q,rfl,hM,hq⟩,Q⟩;have ad:=fun x=>E47 (aL:=aL) (N:=N) (inn:=inn) (f:=f) f x
 have ak:=(Q.get E (by omega)).trans a4;have au:=Q.le;generalize J4 aL N inn f f=s at *
 obtain⟨len,ends⟩:=s;dsimp only at ad hM ⊢;simp(disch:=first|omega|assumption)only[W0];refine B1 (m:=f) (fun m L' H' nx'=>∃ i:Nat,m+i=f/\L'=[.int .i64 (i:Int)]/\(∀ u,u<i->ends u=0)/\H5=H'/\aa=nx') ?_ ⟨0,by omega,rfl,fun u h=>by omega,rfl,rfl⟩;rintro m ih L1 _ _ ⟨i,hm,rfl,a7,rfl,rfl⟩ ag
 by_cases ai:i<f
 case neg=>
  obtain rfl:i=f:=by omega
  have O:¬ (i:Int)<(i:Int):=by omega
  simp(disch:=first|omega|assumption)only[W0,O];rw[D58 (fun u hu=>by simp[a7 u hu])];exact⟨⟨_,rfl,C66 _ _⟩,U.trans Q⟩
 have O:(i:Int)<(f:Int):=by omega
 have z1:decide ((ends i:Int)≠0)=decide (ends i≠0):=by congr 1;apply propext;omega
 by_cases he:ends i≠0
 case neg=>
  simp(disch:=first|omega|assumption)only[W0,O,W61 hM,z1,decide_eq_false he];refine ag (m-1) _ _ _ (by omega) ⟨i+1,by omega,by simp,fun u hu => ?_,rfl,rfl⟩
  by_cases e:u=i
  .subst e;exact Classical.byContradiction fun h=>he h
  .exact a7 u (by omega)
 rw[J55 (v:=i) (fun u hu=>by simp[a7 u hu]) ai (by simpa using he)];simp(disch:=first|omega|assumption)only[W0,O,W61 hM,z1,decide_eq_true he,ak,M18 e1];obtain⟨_,az,Z⟩:=ad i he;have a9:N14 aL f i<2^N:=Z6 (Z6 (by omega));obtain⟨l1,l2⟩:=K60 a9 N 0 _ 2 Z;obtain⟨l3,_⟩:=K15 (b0:=aL.getD i 0 &&& inn) N 0 _ 2 (fun w hw=>hw) (Nat.le_refl _) Z;have a5:=G55 (st:=0) W al Z;dsimp only at l1 l2 l3 a5;rw[Nat.and_comm] at a5;refine R0 (E64 hN hL W V l1 (by omega) (by omega) (by omega) a5 H5 aa) ?_;rintro v H6 ax ⟨hv,aj⟩;exact⟨⟨v,rfl,hv⟩,(U.trans Q).trans aj⟩
end Go.Proofs.YtoiioigihocgbaaGreatDoor



namespace Go.Proofs.YtoiioigihocgbaaGreatDoor
open Go.Clo
def K36(N free:Int)(es:List Nat):Prop:=es.length<=8/\(N<=6\/32<N)/\(0<=free->free<=N->N<=32->N-free<=4)
theorem J67(N free:Int)(A:Option Addr)(es:List Nat)(cap:Nat)(H:Y0)(nx:Nat):
  Q2 Tryz.prog 9 [gv N A es.length cap,.int .i64 free] H nx fun r H' nx'=>(∃ c:Bool,r = .bool c/\(c=true->K36 N free es))/\D0 H nx H' nx':=by
 refine spec9 ?_;unfold F9;have J:D0 H nx (hs H nx (some (.cells [.int .i64 N,.slice A es.length cap] 0))) (nx+1):=(D0.refl H nx).new _ (Nat.le_refl _) (by omega)
 by_cases h1:(es.length:Int)<=8
 case neg=>
  simp(disch:=first|omega|assumption)only[W0,Z0,Q0.val,h1];exact⟨⟨false,rfl,fun h=>(by cases h)⟩,J⟩
 have E:∀ c:Bool,(c=true->(N<=6\/32<N)/\(0<=free->free<=N->N<=32->N-free<=4))->(∃ c':Bool,Value.bool c = .bool c'/\(c'=true->K36 N free es))/\D0 H nx (hs H nx (some (.cells [.int .i64 N,.slice A es.length cap] 0))) (nx+1):=
  fun c hc=>⟨⟨c,rfl,fun h=>⟨by omega,hc h⟩⟩,J⟩
 have hw:0<=free->free<=N->N<=32->IntKind.i64.wrap (N-free)=N-free:=fun a b c=>Y23 (by omega) (by omega)
 by_cases h4:IntKind.i64.wrap (N-free)<=4
 .by_cases h2:N<=6
  .simp(disch:=first|omega|assumption)only[W0,Z0,Q0.val,h1,h2,R11,h4]
   exact E _ fun _=>⟨.inl h2,fun a b c=>by rw[hw a b c] at h4;exact h4⟩
  .by_cases h3:32<N
   .simp(disch:=first|omega|assumption)only[W0,Z0,Q0.val,h1,h2,h3,R11,h4]
    exact E _ fun _=>⟨.inr h3,fun a b c=>by omega⟩
   .simp(disch:=first|omega|assumption)only[W0,Z0,Q0.val,h1,h2,h3]
    exact⟨⟨false,rfl,fun h=>(by cases h)⟩,J⟩
 .have hf:∀ c:Bool,c=decide (free<0)->c=true->(0<=free->free<=N->N<=32->N-free<=4):=fun c hc h a=>by
   rw[hc] at h;simp at h;omega
  by_cases h2:N<=6
  .simp(disch:=first|omega|assumption)only[W0,Z0,Q0.val,h1,h2,R11,h4]
   exact E _ fun h=>⟨.inl h2,hf _ rfl h⟩
  .by_cases h3:32<N
   .simp(disch:=first|omega|assumption)only[W0,Z0,Q0.val,h1,h2,h3,R11,h4]
    exact E _ fun h=>⟨.inr h3,hf _ rfl h⟩
   .simp(disch:=first|omega|assumption)only[W0,Z0,Q0.val,h1,h2,h3]
    exact⟨⟨false,rfl,fun h=>(by cases h)⟩,J⟩
theorem B63{a b:List Int}{A B:Option Addr}{ca cb:Nat}{H:Y0}{nx:Nat}(hA:Sl H nx A (U4 a))(hB:Sl H nx B (U4 b))(ha:a.length<=1000):
  Q2 Tryz.prog 13 [.slice A a.length ca,.slice B b.length cb] H nx fun r H' nx'=>r = .bool (decide (a=b))/\D0 H nx H' nx':=by
 refine spec13 ?_;unfold F13
 by_cases hl:a.length=b.length
 case neg=>
  have d1:decide ((a.length:Int)≠(b.length:Int))=true:=by simp;omega
  have h2:a≠b:=fun e=>hl (by rw[e])
  simp(disch:=first|omega|assumption)only[W0,d1];exact⟨by simp[h2],D0.refl _ _⟩
 have d1:decide ((a.length:Int)≠(b.length:Int))=false:=by simp;omega
 simp(disch:=first|omega|assumption)only[W0,d1];refine B1 (m:=a.length) (fun m L H' nx'=>∃ i:Nat,m+i=a.length/\L=[.int .i64 (i:Int)]/\a.take i=b.take i/\H=H'/\nx<=nx') ?_ ⟨0,by omega,rfl,by simp,rfl,Nat.le_refl _⟩;rintro m ih L _ n2 ⟨i,hm,rfl,V,rfl,a0⟩ Z
 by_cases hi:i<a.length
 .have J:(i:Int)<(a.length:Int):=by omega
  obtain⟨x,hx⟩:∃ x,a[i]? = some x:=⟨_,List.getElem?_eq_getElem hi⟩
  obtain⟨y,hy⟩:∃ x,b[i]? = some x:=⟨_,List.getElem?_eq_getElem (by omega)⟩
  obtain⟨P,o,row,rfl,a3,Q,W⟩:=hA.open (i:=i) (by rw[X9];omega);have q0:=W _ _ (Z9 hx);obtain⟨P2,o2,a1,rfl,a2,E,U⟩:=hB.open (i:=i) (by rw[X9];omega);have q1:=U _ _ (Z9 hy)
  by_cases O:x=y
  .have d2:decide (x≠y)=false:=by simp[O]
   simp(disch:=first|omega|assumption)only[W0,J,X3 Q,X3 E,q0,q1,d2];exact Z (m-1) _ _ _ (by omega) ⟨i+1,by omega,by simp,by rw[C7 hx,C7 hy,V,O],rfl,by omega⟩
  .have d2:decide (x≠y)=true:=by simp[O]
   simp(disch:=first|omega|assumption)only[W0,J,X3 Q,X3 E,q0,q1,d2];refine⟨?_,D0.self (by omega)⟩;have:a≠b:=fun e=>by subst e;rw[hx] at hy;cases hy;exact O rfl
   simp[this]
 .have J:¬ (i:Int)<(a.length:Int):=by omega
  simp(disch:=first|omega|assumption)only[W0,J];rw[List.take_of_length_le (by omega),List.take_of_length_le (by omega)] at V;exact⟨by simp[V],D0.self a0⟩
def W14(es:List Nat)(N:Nat):Bool:=(List.range N).all fun v=>R10 es (2^v)
theorem W49{N:Nat}(hN:N<=6)(A:Option Addr)(es:List Nat)(cap:Nat)(U:C4 es)(Z:es.length<=8)(H:Y0)(nx:Nat)(hS:Sl H nx A (C0 es)):
  Q2 Tryz.prog 28 [gv (N:Int) A es.length cap] H nx fun r H' nx'=>r = .bool (W14 es N)/\D0 H nx H' nx':=by
 refine spec28 ?_;unfold F28;have J:D0 H nx (hs H nx (some (.cells [.int .i64 N,.slice A es.length cap] 0))) (nx+1):=(D0.refl H nx).new _ (Nat.le_refl _) (by omega);have k1:J0 (hs H nx (some (.cells [.int .i64 N,.slice A es.length cap] 0))) nx=some (.cells [.int .i64 N,.slice A es.length cap] 0):=E0 _ _ _;simp(disch:=first|omega|assumption)only[W0,Z0,Q0.val];generalize hs H nx (some (.cells [.int .i64 N,.slice A es.length cap] 0))=K at *
 refine B1 (m:=N) (fun m L H' nx'=>∃ i:Nat,m+i=N/\L=[.int .i64 (i:Int)]/\(∀ v,v<i->R10 es (2^v)=true)/\K=H'/\nx+1=nx') ?_ ⟨0,by omega,rfl,fun v h=>by omega,rfl,rfl⟩;rintro m ih L _ _ ⟨i,hm,rfl,O,rfl,rfl⟩ Q
 by_cases hi:i<N
 .have E:(i:Int)<(N:Int):=by omega
  have V:2^i<4294967296:=by
   have:2^i<=2^6:=Nat.pow_le_pow_right (by omega) (by omega);omega
  have a0:i<32:=by omega
  have W:i<18446744073709551616:=by omega
  simp(disch:=first|omega|assumption)only[W0,k1,E,Z10 W];refine R0 (B45 V A es cap _ _ (hS.ext J) U (by omega)) ?_;rintro _ _ _ ⟨rfl,rfl,rfl⟩;have hz:(R10 es (2^i) || decide (2^i=0))=R10 es (2^i):=by
   have:0<2^i:=Nat.two_pow_pos i;have e:decide (2^i=0)=false:=by simp
   rw[e,Bool.or_false]
  rw[hz]
  cases hb:R10 es (2^i) with
  | false=>
   simp(disch:=first|omega|assumption)only[W0];refine⟨?_,J⟩;have:W14 es N=false:=by
    rw[Bool.eq_false_iff];intro h;have:=List.all_eq_true.1 h i (by simpa using hi);rw[hb] at this;cases this
   rw[this]
  | true=>
   simp(disch:=first|omega|assumption)only[W0];refine Q (m-1) _ _ _ (by omega) ⟨i+1,by omega,by simp,fun v hv => ?_,rfl,rfl⟩
   by_cases e:v=i
   .subst e;exact hb
   .exact O v (by omega)
 .have E:¬ (i:Int)<(N:Int):=by omega
  simp(disch:=first|omega|assumption)only[W0,k1,E];refine⟨?_,J⟩;have:W14 es N=true:=List.all_eq_true.2 fun v hv=>O v (by have:=List.mem_range.1 hv;omega)
  rw[this]
def C5(N free:Int)(es:List Nat):Int:=if Q6 N free es≠0 then Q6 N free es else if W14 es N.toNat=true then 0 else 9
theorem C58{N free:Int}(A:Option Addr)(es:List Nat)(cap:Nat)(U:C4 es)(hF:K36 N free es)(H:Y0)(nx:Nat)(hS:Sl H nx A (C0 es)):
  Q2 Tryz.prog 11 [gv N A es.length cap,.int .i64 free] H nx fun r H' nx'=>r = .int .i64 (C5 N free es)/\D0 H nx H' nx':=by
 refine spec11 ?_;unfold F11;have O:D0 H nx (hs H nx (some (.cells [.int .i64 N,.slice A es.length cap] 0))) (nx+1):=(D0.refl H nx).new _ (Nat.le_refl _) (by omega);have k1:J0 (hs H nx (some (.cells [.int .i64 N,.slice A es.length cap] 0))) nx=some (.cells [.int .i64 N,.slice A es.length cap] 0):=E0 _ _ _;simp(disch:=first|omega|assumption)only[W0,Z0,Q0.val,U2];generalize hs H nx (some (.cells [.int .i64 N,.slice A es.length cap] 0))=K at *
 refine R0 (N11 N A es cap _ _ (hS.ext O) U) ?_;rintro _ H2 nx2 ⟨rfl,J⟩;have k2:=(J.get nx (by omega)).trans k1;have E:=O.trans J
 by_cases hg:N3 N es≠0
 .have d1:decide (N3 N es≠0)=true:=by simp[hg]
  simp(disch:=first|omega|assumption)only[W0,d1];refine⟨?_,E⟩;have hf:Q6 N free es=N3 N es:=by unfold Q6;rw[if_pos hg]
  unfold C5;rw[hf,if_pos hg]
 have V:N3 N es=0:=Classical.byContradiction hg;have d1:decide (N3 N es≠0)=false:=by simp[V]
 have hf:Q6 N free es=if free<0\/N<free then 3 else 0:=by unfold Q6;rw[if_neg hg]
 have c1:decide (free > N)=decide (N<free):=rfl;simp(disch:=first|omega|assumption)only[W0,d1];refine N5 (fun L' H' nx'=>L'=[.bool (decide (free<0\/N<free))]/\H2=H'/\nx2=nx') ?_ ?_
 .intro j hj
  by_cases q0:free<0
  .simp(disch:=first|omega|assumption)only[W0,decide_eq_true q0]
   exact hj _ _ _ ⟨by simp[q0],rfl,rfl⟩
  .simp(disch:=first|omega|assumption)only[W0,decide_eq_false q0,k2]
   exact hj _ _ _ ⟨by simp[q0],rfl,rfl⟩
 rintro L _ _ ⟨rfl,rfl,rfl⟩
 by_cases hr:free<0\/N<free
 .simp(disch:=first|omega|assumption)only[W0,decide_eq_true hr]
  refine⟨?_,E⟩;rw[if_pos hr] at hf;unfold C5;rw[hf];rfl
 rw[if_neg hr] at hf;obtain⟨n,f,rfl,rfl,_,_,_,a0⟩:=U27 hf;have W:n<=6:=by have:=hF.2.1;omega
 simp(disch:=first|omega|assumption)only[W0,decide_eq_false hr,k2,U2];refine R0 (W49 W A es cap U hF.1 _ _ (hS.ext E)) ?_;rintro _ H3 Z ⟨rfl,Q⟩;have hw:C5 n f es=if W14 es n=true then 0 else 9:=by
  unfold C5;rw[hf,if_neg (by simp)]
  rfl
 rw[hw]
 cases W14 es n with
 | true=>
  simp(disch:=first|omega|assumption)only[W0];exact E.trans Q
 | false=>
  simp(disch:=first|omega|assumption)only[W0];exact E.trans Q
theorem M67{N:Nat}{es:List Nat}(E:∀ e ∈ es,e<2^N):W14 es N=true<->orF es es.length=2^N-1:=by
 have hb:∀ v,R10 es (2^v)=true<->∃ e ∈ es,e.testBit v=true:=fun v=>by
  unfold R10;rw[List.any_eq_true]
  constructor
  .rintro⟨e,h1,h2⟩
   refine⟨e,h1,?_⟩;have h3:=of_decide_eq_true h2;have h4:=N1 (2^v) e v;rw[h3,Nat.zero_testBit,Nat.testBit_two_pow_self] at h4;simpa using h4.symm
  .rintro⟨e,h1,h2⟩
   refine⟨e,h1,decide_eq_true ?_⟩;apply Nat.eq_of_testBit_eq;intro w;rw[N1,Nat.testBit_two_pow,Nat.zero_testBit]
   by_cases hw:v=w
   .subst hw;simp[h2]
   .simp[hw]
 unfold W14;rw[List.all_eq_true]
 constructor
 .intro h
  apply Nat.eq_of_testBit_eq;intro w;rw[Nat.testBit_two_pow_sub_one]
  by_cases hw:w<N
  .rw[decide_eq_true hw]
   exact X37.2 ((hb w).1 (h w (by simpa using hw)))
  .rw[decide_eq_false hw,Bool.eq_false_iff]
   intro hh;obtain⟨e,h1,h2⟩:=X37.1 hh;exact hw (R7 (E e h1) h2)
 .intro h v hv
  rw[hb];exact X37.1 (by rw[h,Nat.testBit_two_pow_sub_one];simpa using hv)
end Go.Proofs.YtoiioigihocgbaaGreatDoor

namespace Go.Clo
theorem G40{a:Nat}(h:1<=a)(ha:a<4294967296)(k:VP):U0 .sub (.int .u32 (a:Int)) (.int .u32 1) k=k (.int .u32 ((a-1:Nat):Int)):=by
 rw[R11];have e:IntKind.u32.wrap ((a:Int)-1)=((a-1:Nat):Int):=by
  simp only[IntKind.wrap,IntKind.signed,IntKind.bits];simp;omega
 rw[e]
end Go.Clo
namespace Go.Proofs.YtoiioigihocgbaaGreatDoor
open Go.Clo
set_option maxRecDepth 20000 in
set_option maxHeartbeats 4000000 in
theorem Y36{N free:Int}(A:Option Addr)(es:List Nat)(cap:Nat)(a8:C4 es)(hF:K36 N free es)(H:Y0)(nx:Nat)(hS:Sl H nx A (C0 es)):
  Q2 Tryz.prog 25 [gv N A es.length cap,.int .i64 free] H nx fun r H' nx'=>r = .int .i64 (C5 N free es)/\D0 H nx H' nx':=by
 refine spec25 ?_;unfold F25;have ab:D0 H nx (hs H nx (some (.cells [.int .i64 N,.slice A es.length cap] 0))) (nx+1):=(D0.refl H nx).new _ (Nat.le_refl _) (by omega);have k1:J0 (hs H nx (some (.cells [.int .i64 N,.slice A es.length cap] 0))) nx=some (.cells [.int .i64 N,.slice A es.length cap] 0):=E0 _ _ _;simp(disch:=first|omega|assumption)only[W0,Z0,Q0.val,U2];generalize hs H nx (some (.cells [.int .i64 N,.slice A es.length cap] 0))=K at *
 refine R0 (N11 N A es cap _ _ (hS.ext ab) a8) ?_;rintro _ H2 nx2 ⟨rfl,a1⟩;have k2:=(a1.get nx (by omega)).trans k1;have E:=ab.trans a1;have bh:=a1.le
 by_cases hg:N3 N es≠0
 .have d1:decide (N3 N es≠0)=true:=by simp[hg]
  simp(disch:=first|omega|assumption)only[W0,d1];refine⟨?_,E⟩;have hf:Q6 N free es=N3 N es:=by unfold Q6;rw[if_pos hg]
  unfold C5;rw[hf,if_pos hg]
 have ay:N3 N es=0:=Classical.byContradiction hg;have d1:decide (N3 N es≠0)=false:=by simp[ay]
 have hf:Q6 N free es=if free<0\/N<free then 3 else 0:=by unfold Q6;rw[if_neg hg]
 simp(disch:=first|omega|assumption)only[W0,d1];refine N5 (fun L' H' nx'=>L'=[.bool (decide (free<0\/N<free))]/\H2=H'/\nx2=nx') ?_ ?_
 .intro j hj
  by_cases q0:free<0
  .simp(disch:=first|omega|assumption)only[W0,decide_eq_true q0]
   exact hj _ _ _ ⟨by simp[q0],rfl,rfl⟩
  .simp(disch:=first|omega|assumption)only[W0,decide_eq_false q0,k2]
   exact hj _ _ _ ⟨by simp[q0],rfl,rfl⟩
 rintro L _ _ ⟨rfl,rfl,rfl⟩
 by_cases hr:free<0\/N<free
 .simp(disch:=first|omega|assumption)only[W0,decide_eq_true hr]
  refine⟨?_,E⟩;rw[if_pos hr] at hf;unfold C5;rw[hf];rfl
 rw[if_neg hr] at hf;obtain⟨n,f,rfl,rfl,_,ax,_,Z⟩:=U27 hf;have V:n<=6:=by have:=hF.2.1;omega
 have ai:=hF.1;have bd:2^n<=64:=Nat.pow_le_pow_right (n:=2) (by omega) V;have c4:0<2^n:=Nat.two_pow_pos n;have bf:2^f<=2^n:=Nat.pow_le_pow_right (n:=2) (by omega) ax;have bx:0<2^f:=Nat.two_pow_pos f;have hw:C5 n f es=if W14 es n=true then 0 else 9:=by
  unfold C5;rw[hf,if_neg (by simp)]
  rfl
 have ag:=M67 Z;simp(disch:=first|omega|assumption)only[W0,decide_eq_false hr,k2];have a0:=R58 Z;refine B1 (m:=es.length) (fun m L H' nx'=>∃ i:Nat,m+i=es.length/\L=[.int .u32 (orF es i:Int),.int .i64 (i:Int)]/\H2=H'/\nx2=nx') ?_ ⟨0,by omega,rfl,rfl,rfl⟩;rintro m2 c6 L2 _ _ ⟨i2,bz,rfl,rfl,rfl⟩ ac
 by_cases ao:i2<es.length
 .have J:(i2:Int)<(es.length:Int):=by omega
  obtain⟨e,he⟩:∃ e,es[i2]? = some e:=⟨_,List.getElem?_eq_getElem ao⟩
  obtain⟨B,o,row,rfl,aq,U,Q⟩:=(hS.ext E).open (i:=i2) (by rw[E1];omega);have q0:=Q _ _ (Q3 he);have ba:=a8.get he;have h1:=a0 i2 (by omega);have b4:orF es i2<4294967296:=by omega
  simp(disch:=first|omega|assumption)only[W0,J,X3 U,q0];exact ac (m2-1) _ _ _ (by omega) ⟨i2+1,by omega,by rw[C47 he];simp,rfl,rfl⟩
 have J:¬ (i2:Int)<(es.length:Int):=by omega
 obtain rfl:i2=es.length:=by omega
 have bc:=a0 es.length (Nat.le_refl _);have bw:n<32:=by omega
 have bv:f<32:=by omega
 have a9:2^n<4294967296:=by omega
 have ad:2^f<4294967296:=by omega
 have s1:=fun k=>G40 (a:=2^n) (by omega) a9 k
 have s2:=fun k=>G40 (a:=2^f) (by omega) ad k
 have z1:decide ((orF es es.length:Int)≠((2^n-1:Nat):Int))=decide (orF es es.length≠2^n-1):=by congr 1;apply propext;omega
 by_cases W:orF es es.length≠2^n-1
 .have a4:W14 es n=false:=by rw[Bool.eq_false_iff];exact fun h=>W (ag.1 h)
  simp(disch:=first|omega|assumption)only[W0,J,k2,s1,z1,decide_eq_true W];rw[hw,a4];exact⟨rfl,E⟩
 have a4:W14 es n=true:=ag.2 (Classical.byContradiction W);have av:2^n-1<4294967296:=by omega
 have a5:Z2 (2^n-1) (2^f-1)<4294967296:=V0 av;simp(config:={ maxSteps:=2000000 }) (disch:=first|omega|assumption)only[W0,J,k2,s1,z1,decide_eq_false W,s2,U2];refine R0 (Q49 (hS.ext (E.more (show nx2<=nx2+9 by omega))) V Z ai a5) ?_;rintro _ H6 n6 ⟨⟨B6,rfl,au,a7⟩,a3⟩;have b8:=a3.le;have bk:=K46 es (Z2 (2^n-1) (2^f-1));have aa:=U67 (s:=Z2 (2^n-1) (2^f-1)) Z;generalize D14 es (Z2 (2^n-1) (2^f-1))=il at *
 have k6:=(a3.get nx (by omega)).trans k2;simp(config:={ maxSteps:=2000000 }) (disch:=first|omega|assumption)only[W0,Z0,Nat.reduceAdd,gv,G26,U2];have al:D0 H6 (nx2+7) (hs (hs H6 (nx2+7) (some (.cells [.int .i64 0,.slice none 0 0] 0))) (nx2+7) (some (.cells [.int .i64 (n:Int),.slice B6 il.length il.length] 0))) n6:=((D0.self (by omega):D0 H6 (nx2+7) H6 n6).hs (by omega)).hs (by omega);have ak:Sl (hs (hs H6 (nx2+7) (some (.cells [.int .i64 0,.slice none 0 0] 0))) (nx2+7) (some (.cells [.int .i64 (n:Int),.slice B6 il.length il.length] 0))) n6 B6 (C0 il):=fun i u hu=>by
  obtain⟨b,o,row,rfl,h2,h3,h4⟩:=au i u hu;have:=a7 b o none rfl;refine⟨b,o,row,rfl,h2,?_,h4⟩;unfold Q5;rw[Z1 _ (by omega),Z1 _ (by omega)];exact h3
 generalize hs (hs H6 (nx2+7) (some (.cells [.int .i64 0,.slice none 0 0] 0))) (nx2+7) (some (.cells [.int .i64 (n:Int),.slice B6 il.length il.length] 0))=H8 at *
 have a6:D0 H nx H8 n6:=⟨by omega,fun i hi=>by rw[al.get i (by omega),a3.get i (by omega)];exact E.get i hi⟩
 refine R0 (U41 (cap:=il.length) ak V aa (by omega)) ?_;rintro _ H9 n9 ⟨⟨B9,rfl,aj⟩,b3⟩;obtain⟨ap,_,_⟩:=M56 (es:=il) V;have bt:(D19 il n).length<=n:=E40 _ _ _ _;generalize D19 il n=cs at *
 simp(disch:=first|omega|assumption)only[W0];refine B1 (m:=cs.length) (fun m L H' nx'=>∃ i:Nat,m+i=cs.length/\L=[.int .i64 (i:Int)]/\D0 H9 n9 H' nx') ?_ ⟨0,by omega,rfl,D0.refl _ _⟩;rintro m ih L c3 bo ⟨i,hm,rfl,O⟩ aw
 by_cases hi:i<cs.length
 .have a2:(i:Int)<(cs.length:Int):=by omega
  obtain⟨c,hc⟩:∃ c,cs[i]? = some c:=⟨_,List.getElem?_eq_getElem hi⟩
  obtain⟨B,o,row,rfl,aq,U,Q⟩:=(aj.ext O).open (i:=i) (by rw[E1];omega);have q0:=Q _ _ (Q3 hc);obtain⟨cv,_,an⟩:=ap c (List.mem_of_getElem? hc);have ae:c<64:=by have:=an.lt;omega
  have bg:E9 c<=6:=Q15 _ _;simp(disch:=first|omega|assumption)only[W0,a2,X3 U,q0];refine R0 (R44 ae _ _) ?_;rintro _ bu b5 ⟨rfl,ah⟩;have az:¬ (E9 c:Int) > 8:=by omega
  simp(disch:=first|omega|assumption)only[W0,az];exact aw (m-1) _ _ _ (by omega) ⟨i+1,by omega,by simp,O.trans ah⟩
 .have a2:¬ (i:Int)<(cs.length:Int):=by omega
  simp(disch:=first|omega|assumption)only[W0,a2];rw[hw,a4];exact⟨rfl,(a6.trans b3).trans O⟩
end Go.Proofs.YtoiioigihocgbaaGreatDoor
