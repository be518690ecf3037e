/-
  Contract: cover.packing (all of it).
  Contracts: cover.vertices,zeros;plain: each vertex of a covered set lies in a part.
-/
import Derived.Test.YtpiobdofbhkmjaaDoorL35
set_option linter.unusedSimpArgs false
set_option linter.unusedVariables false
set_option linter.unusedSectionVars false
namespace Go.Clo
def PkR (es:List Nat) (N set:Nat) (H:Y0) (nx:Nat) (v:Value):Prop:=
 ∃ (AC AA AB Am Af:Option Addr) (cC cA cB cm cf:Nat) (ac:List Value) (fs:List Nat),
  v = .tuple ⟨[.agg ⟨[.slice AC (Y4 N set).length cC,.slice AA (Q4 es set).length cA,.slice AB (Q4 es set).length cB]⟩,.slice Am (Y4 N set).length cm,.slice Af (Q4 es set).length cf]⟩ /\
  Sl H nx AA ac/\ac.length=(Q4 es set).length/\(∀ i,i<(Q4 es set).length->∃ Ai ci,ac[i]? = some (.slice Ai (Y4 N set).length ci)/\RSl H nx Ai (Y4 N set).length (fun j=>if sP es N set i j then 1 else 0)) /\
  RSl H nx AB (Q4 es set).length (fun _=>1)/\RSl H nx AC (Y4 N set).length (fun _=>1)/\Sl H nx Am (R3 ((Y4 N set).map fun (w:Nat)=>(w:Int)))/\Sl H nx Af (R3 (fs.map fun (w:Nat)=>(w:Int)))/\fs.length=(Q4 es set).length/\∀ f ∈ fs,f<es.length
theorem G71 (k:Prop):M50 none k=k:=rfl
theorem E91 (x v:Nat):(((x >>> v%2:Nat):Int):Rat)=if x.testBit v then 1 else 0:=by
 rw[<- Z29]
 rcases Nat.mod_two_eq_zero_or_one (x >>> v) with h | h
 .rw[h];rfl
 .rw[h];rfl
theorem C86 (y:Nat) (k:VP):M3 .i64 (.int .u32 ((y%2:Nat):Int)) k=k (.int .i64 ((y%2:Nat):Int)):=by
 rw[W17]
 rcases Nat.mod_two_eq_zero_or_one y with h | h
 .rw[h];rfl
 .rw[h];rfl
theorem RO3.boxs {H:Y0} {nx b n q:Nat} {X:Nat->Rat} {l l':List Value} (h:RO3 H nx b n X) (hg:X0 H q=some (.cells l 0)) (hr:noU l=true):RO3 (hs H q (some (.cells l' 0))) nx b n X:=by
 obtain⟨css,h1,h2,h3,h4⟩:=h
 have hne:b≠q:=by
  rintro rfl
  rw[h1] at hg;cases hg
 exact⟨css,by rw[M0 _ hne];exact h1,h2,h3,fun i c hc=>(h4 i c hc).boxs hg (X8 hr) (.inl rfl)⟩
end Go.Clo
namespace Go.Proofs.YtpiobdofbhkmjaaDoor
open Go.Clo
theorem E72 {H:Y0} {nx N set cap:Nat} {A:Option Addr} {es:List Nat} (hN:N<=8) (hS:Sl H nx A (N1 es)) (hsm:∀ e ∈ es,e<2^N) (hle:es.length<=8) (hset:set<2^N) (hn0:0<(Y4 N set).length):
  J2 Tryd.prog 62 [gv N A es.length cap,.int .u32 (set:Int)] H nx fun v H' nx'=>D0 H nx H' nx'/\PkR es N set H' nx' v:=by
 have hp32:2^N<4294967296:=Q33 (by omega)
 have hset32:set<4294967296:=by omega
 refine spec62 ?_
 unfold F62
 have hhead:∀ K:Value->Value->Value->Value->Y0->Nat->Prop,(R5 (gv N A es.length cap) fun tc_1=>D2 (.cells tc_1 0) .ptr H nx fun t2_2 H1 nx1=>
   D2 (.cells [.slice none 0 0,.slice none 0 0,.slice none 0 0] 0) .ptr H1 nx1 fun t4_3 H2 nx2=>
   D2 (.cells [.slice none 0 0,.slice none 0 0,.slice none 0 0] 0) .ptr H2 nx2 fun t7_4 H3 nx3=>
   D1 t2_2 0 fun t18_5=>G0 t18_5 none H3 fun t19_6=>K t2_2 t4_3 t7_4 t19_6 H3 nx3) =
   K (.pointer (some ⟨nx,0,none⟩)) (.pointer (some ⟨nx+1,0,none⟩)) (.pointer (some ⟨nx+2,0,none⟩)) (.int .i64 (N:Int))
    (hs (hs (hs H nx (some (.cells [.int .i64 (N:Int),.slice A es.length cap] 0))) (nx+1) (some (.cells [.slice none 0 0,.slice none 0 0,.slice none 0 0] 0))) (nx+2) (some (.cells [.slice none 0 0,.slice none 0 0,.slice none 0 0] 0))) (nx+3):=by
  intro K
  simp (disch:=first | omega | assumption | exact Y2 (by assumption) | exact Q1 (by assumption) | exact J1 (by omega) | fail) only[W0,Z0,B0.val]
 rw[hhead]
 have hE3:D0 H nx (hs (hs (hs H nx (some (.cells [.int .i64 (N:Int),.slice A es.length cap] 0))) (nx+1) (some (.cells [.slice none 0 0,.slice none 0 0,.slice none 0 0] 0))) (nx+2) (some (.cells [.slice none 0 0,.slice none 0 0,.slice none 0 0] 0))) (nx+3):=
  (((D0.refl _ _).new _ (Nat.le_refl _) (m:=nx+1) (by omega)).new _ (by omega) (m:=nx+2) (by omega)).new _ (by omega) (by omega)
 have g30:X0 (hs (hs (hs H nx (some (.cells [.int .i64 (N:Int),.slice A es.length cap] 0))) (nx+1) (some (.cells [.slice none 0 0,.slice none 0 0,.slice none 0 0] 0))) (nx+2) (some (.cells [.slice none 0 0,.slice none 0 0,.slice none 0 0] 0))) nx=some (.cells [.int .i64 (N:Int),.slice A es.length cap] 0):=by
  rw[M0 _ (by omega),M0 _ (by omega),Q0]
 have g34:X0 (hs (hs (hs H nx (some (.cells [.int .i64 (N:Int),.slice A es.length cap] 0))) (nx+1) (some (.cells [.slice none 0 0,.slice none 0 0,.slice none 0 0] 0))) (nx+2) (some (.cells [.slice none 0 0,.slice none 0 0,.slice none 0 0] 0))) (nx+1)=some (.cells [.slice none 0 0,.slice none 0 0,.slice none 0 0] 0):=by
  rw[M0 _ (by omega),Q0]
 have g37:X0 (hs (hs (hs H nx (some (.cells [.int .i64 (N:Int),.slice A es.length cap] 0))) (nx+1) (some (.cells [.slice none 0 0,.slice none 0 0,.slice none 0 0] 0))) (nx+2) (some (.cells [.slice none 0 0,.slice none 0 0,.slice none 0 0] 0))) (nx+2)=some (.cells [.slice none 0 0,.slice none 0 0,.slice none 0 0] 0):=Q0 _ _ _
 generalize hs (hs (hs H nx (some (.cells [.int .i64 (N:Int),.slice A es.length cap] 0))) (nx+1) (some (.cells [.slice none 0 0,.slice none 0 0,.slice none 0 0] 0))) (nx+2) (some (.cells [.slice none 0 0,.slice none 0 0,.slice none 0 0] 0))=H3 at *
 refine E1 (m:=N) (fun k L H' nx'=>∃ (v n:Nat) (vm vC:Value) (css:List (List Value)),k+v=N/\L=[vm,.int .i64 (v:Int)]/\PS H nx H' nx' 0 vm vC n (Y4 v set) css/\X0 H' nx=some (.cells [.int .i64 (N:Int),.slice A es.length cap] 0)) ?_
  ⟨0,0,.slice none 0 0,.slice none 0 0,[],by omega,rfl,⟨hE3,Nat.le_refl _,g34,g37,Q6.nil _ _ _ _,Q6.nil _ _ _ _,rfl,rfl,fun q c hc=>by simp at hc,.inl ⟨rfl,rfl⟩⟩,g30⟩
 rintro k ih L H4 nx4 ⟨v,n,vm,vC,css,hk,rfl,hps,g40⟩ hih
 show J0 .lss (.int .i64 (v:Int)) (.int .i64 (N:Int)) _
 rw[M24,W10]
 by_cases hv:v<N
 .rw[if_pos (by simpa using hv),K3]
  show J0 .shr (.int .u32 (set:Int)) (.int .i64 (v:Int)) _
  have hnl:=hps.lm
  have hml:=E15 v set
  rw[V13 _ hset32,K40 _ (Y2 hset32),R30,Z29,W10]
  cases hb:set.testBit v with
  | true=>
   rw[if_pos rfl]
   refine E63 hps (by omega) ?_
   intro vm' vC' css' H' nx' h' g'
   simp (disch:=first | omega | assumption | exact Y2 (by assumption) | exact Q1 (by assumption) | exact J1 (by omega) | fail) only[W0]
   exact hih (k-1) _ _ _ (by omega) ⟨v+1,n+1,vm',vC',css',by omega,by simp,by rw[M32,hb];exact h',g'.trans g40⟩
  | false=>
   rw[if_neg (by simp)]
   simp (disch:=first | omega | assumption | exact Y2 (by assumption) | exact Q1 (by assumption) | exact J1 (by omega) | fail) only[W0]
   exact hih (k-1) _ _ _ (by omega) ⟨v+1,n,vm,vC,css,by omega,by simp,by rw[M32,hb];exact hps,g40⟩
 obtain rfl:v=N:=by omega
 rw[if_neg (by simp)]
 have hlm:=hps.lm
 have hle4:=hps.le
 have hn8:n<=8:=by have:=E15 v set;omega
 obtain⟨bm,hvm,hbm3,hbmn,hgm⟩:∃ bm,vm = .slice (some ⟨bm,0,none⟩) n n/\nx+3<=bm/\bm<nx4/\X0 H4 bm=some (.cells (R3 ((Y4 v set).map fun (w:Nat)=>(w:Int))) 1):=by
  rcases W8 hps.am (d:=nx) with ⟨_,h0,_⟩ | ⟨b,h1,_,h2,h3,h4⟩
  .omega
  .exact⟨b,h1,h2,h3,h4⟩
 obtain⟨bC,hvC,hbC3,hbCn,hgC⟩:∃ bC,vC = .slice (some ⟨bC,0,none⟩) n n/\nx+3<=bC/\bC<nx4/\X0 H4 bC=some (.cells css.flatten 3):=by
  rcases W8 hps.aC (d:=nx) with ⟨_,h0,_⟩ | ⟨b,h1,_,h2,h3,h4⟩
  .omega
  .exact⟨b,h1,h2,h3,h4⟩
 subst hvm hvC
 have hroC:RO3 (U8 H4 [nx+2]) nx4 bC n fun _=>1:=by
  refine⟨css,by rw[W11 (by simp;omega)];exact hgC,hbCn,hps.lc,hps.rx.sub (R13 (fun _ _ _=>rfl) (fun q hq => .inl (by simp at hq ⊢;omega)))⟩
 have hmid:∀ K:Value->Value->Value->Y0->Nat->Prop,(M50 none <| D2 (.map [] 0) .map H4 nx4 fun t39_28 H13 nx13=>
   D1 (.pointer (some ⟨nx,0,none⟩)) 1 fun t40_29=>G0 t40_29 none H13 fun t41_30=>X3 t41_30 0 H13 fun t42_31=>K t39_28 t41_30 t42_31 H13 nx13) =
   K (.map (some nx4)) (.slice A es.length cap) (.int .i64 (es.length:Int)) (hs H4 nx4 (some (.map [] 0))) (nx4+1):=by
  intro K
  simp (disch:=first | omega | assumption | exact Y2 (by assumption) | exact Q1 (by assumption) | exact J1 (by omega) | fail) only[W0,B0.val,G71,g40]
 rw[hmid]
 have hE13:D0 H4 nx4 (hs H4 nx4 (some (.map [] 0))) (nx4+1):=(D0.refl _ _).new _ (Nat.le_refl _) (by omega)
 have g13:X0 (hs H4 nx4 (some (.map [] 0))) nx4=some (.map [] 0):=Q0 _ _ _
 generalize hs H4 nx4 (some (.map [] 0))=H13 at *
 refine E1 (m:=es.length) (fun k L H' nx'=>∃ (i:Nat) (vA vB vf:Value) (m:Nat) (bs:List Nat) (cssB:List (List Value)) (fs:List Nat),k+i=es.length/\L=[vf,.int .i64 (i:Int)]/\(Q4 (es.take i) set).length=m/\m<=i/\(∀ f ∈ fs,f<i) /\
   PT H nx H' nx' nx4 bm bC n (Y4 v set) (fun t=>if t ∈ Q4 (es.take i) set then some (.bool true) else none) vA vB vf m m bs cssB fs (fun r j=>if ((Q4 (es.take i) set).getD r 0).testBit ((Y4 v set).getD j 0) then 1 else 0)/\X0 H' nx=some (.cells [.int .i64 (v:Int),.slice A es.length cap] 0)) ?_
  ⟨0,.slice none 0 0,.slice none 0 0,.slice none 0 0,0,[],[],[],by omega,rfl,rfl,Nat.le_refl _,by simp,⟨hps.ext.trans hE13,by omega,by omega,(hE13.get _ (by omega)).trans hps.g4,(hE13.get _ (by omega)).trans hps.g7,(hE13.get _ hbmn).trans hgm,hbmn,hbm3,(C8.nil g13).congr (fun t=>by simp[Q4]),Q6.nil _ _ _ _,Q6.nil _ _ _ _,Q6.nil _ _ _ _,rfl,rfl,rfl,
   hroC.step (by omega) (fun i hi _=>hE13.get i hi) (fun q hq=>by simp[R4] at hq ⊢;omega),fun q c hc=>by simp at hc,fun k b hb=>by simp at hb,.inl ⟨rfl,rfl⟩,.inl ⟨rfl,rfl⟩,.inl ⟨rfl,rfl⟩⟩,(hE13.get _ (by omega)).trans g40⟩
 rintro k2 ih2 L2 H14 nx14 ⟨i,vA,vB,vf,m,bs,cssB,fs,hk2,rfl,hpl,hmi,hfs,hpt,g140⟩ hih2
 show J0 .lss (.int .i64 (i:Int)) (.int .i64 (es.length:Int)) _
 rw[M24,W10]
 by_cases hi:i<es.length
 case neg=>
  obtain rfl:i=es.length:=by omega
  rw[if_neg (by simp)]
  rw[List.take_length] at hpt hpl
  have hput:∀ (a b c a' b' c':Value),G6 [a,b,c] 0 [a',b',c']=[a',b',c']:=fun _ _ _ _ _ _=>rfl
  obtain⟨AA,eA,hAA⟩:=hpt.aA.sl
  obtain⟨AB,eB,hAB⟩:=hpt.aB.sl
  obtain⟨Af,eF,hAf⟩:=hpt.af.sl
  have hrn:=hpt.rn
  have hler:=hpt.le
  have h7:=hpt.g7
  subst eA eB eF
  simp (disch:=first | omega | assumption | exact Y2 (by assumption) | exact Q1 (by assumption) | exact J1 (by omega) | fail) only[W0,Z0,Nat.reduceAdd,h7,D3,hpt.g4,hput]
  have hk:∀ x,x≠nx+1->X0 (hs H14 (nx+1) (some (.cells [.slice (some ⟨bC,0,none⟩) n n,.slice AA m m,.slice AB m m] 0))) x=X0 H14 x:=fun x hx=>M0 _ hx
  have hro:∀ {qs:List Nat} {b:Nat} {X:Nat->Rat},RO3 (U8 H14 qs) nx14 b n X->RSl (hs H14 (nx+1) (some (.cells [.slice (some ⟨bC,0,none⟩) n n,.slice AA m m,.slice AB m m] 0))) nx14 (some ⟨b,0,none⟩) n X:=fun h=>
   ((h.sub (fun x b _ hb=>X12 x b hb)).boxs hpt.g4 rfl).rsl
  have hxB:RX (hs H14 (nx+1) (some (.cells [.slice (some ⟨bC,0,none⟩) n n,.slice AA m m,.slice AB m m] 0))) nx14 cssB fun _=>1:=fun q c hc=>
   ((hpt.rxB q c hc).sub (fun x b _ hb=>X12 x b hb)).boxs hpt.g4 (X8 rfl) (.inl rfl)
  have haA:=(hpt.aA.same (H':=hs H14 (nx+1) (some (.cells [.slice (some ⟨bC,0,none⟩) n n,.slice AA m m,.slice AB m m] 0))) (Nat.le_refl _) fun b h1 _ _=>hk b (by omega)).sl
  have haB:=(hpt.aB.same (H':=hs H14 (nx+1) (some (.cells [.slice (some ⟨bC,0,none⟩) n n,.slice AA m m,.slice AB m m] 0))) (Nat.le_refl _) fun b h1 _ _=>hk b (by omega)).sl
  have haf:=(hpt.af.same (H':=hs H14 (nx+1) (some (.cells [.slice (some ⟨bC,0,none⟩) n n,.slice AA m m,.slice AB m m] 0))) (Nat.le_refl _) fun b h1 _ _=>hk b (by omega)).sl
  obtain⟨AA',eA',hAA'⟩:=haA
  obtain⟨AB',eB',hAB'⟩:=haB
  obtain⟨Af',eF',hAf'⟩:=haf
  cases eA';cases eB';cases eF'
  have hgmk:=(hk bm (by omega)).trans hpt.gm
  refine⟨⟨by have:=hpt.ext.le;omega,fun x hx=>(hk x (by omega)).trans (hpt.ext.get x hx)⟩,some ⟨bC,0,none⟩,AA,AB,some ⟨bm,0,none⟩,Af,n,m,m,n,m,slR n bs,fs,by rw[hlm,hpl],hAA',by rw[V25,hpt.lA,hpl],fun x hx => ?_,?_,by rw[hlm];exact hro hpt.roC,?_,hAf',by rw[hpt.lf,hpl],hfs⟩
  .rw[hpl] at hx
   have hbx:bs[x]? = some (bs[x]'(by have:=hpt.lA;omega)):=List.getElem?_eq_getElem _
   refine⟨_,_,by rw[hlm];exact G14 hbx,?_⟩
   rw[hlm]
   have:=hro (hpt.rows x _ hbx)
   obtain⟨cs,h1,h2,h3⟩:=this
   exact⟨cs,h1,h2,fun q c hc=>by simpa [sP] using h3 q c hc⟩
  .rw[hpl];exact⟨cssB,hAB',hpt.lB,hxB⟩
  .intro x u hu
   exact⟨bm,0,_,rfl,by have:=hpt.bmr;have:=hpt.rn;omega,by rw[V3,hgmk];rfl,by rw[Nat.zero_add];exact hu⟩
 rw[if_pos (by simpa using hi),K3]
 simp only[List.getD_cons_zero,List.getD_cons_succ]
 have hei:es[i]? = some es[i]:=List.getElem?_eq_getElem hi
 generalize es[i]=e at hei
 have he:e<2^v:=hsm e (List.mem_of_getElem? hei)
 have he32:e<4294967296:=by omega
 obtain⟨bE,oE,rwE,rfl,hbE,hrwE,hgetE⟩:=hS.open (i:=0) (by rw[G1];omega)
 have hrw14:V3 H14 bE=some rwE:=(hpt.ext.row hbE).trans hrwE
 have hge:=hgetE i _ (G3 hei)
 have hpre:∀ K:Value->Prop,(W2 (.slice (some ⟨bE,oE,none⟩) es.length cap) (.int .i64 (i:Int)) none 1 fun t46=>G0 t46 none H14 fun t47=>J0 .and t47 (.int .u32 (set:Int)) fun t50=>K t50)=K (.int .u32 ((e &&& set:Nat):Int)):=by
  intro K
  have hi':(i:Int)<(es.length:Int):=by omega
  simp (disch:=first | omega | assumption | exact Y2 (by assumption) | exact Q1 (by assumption) | exact J1 (by omega) | fail) only[W0,Y3 hrw14,hge]
 rw[hpre]
 have hp32':e &&& set<4294967296:=B95 he32
 have hjn:∀ rest:JK,(B4 (fun tj_40=>J0 .eql (.int .u32 ((e &&& set:Nat):Int)) (.int .u32 0) fun t52_42=>
   J4 false t52_42 (wLk (.int .u32) (.bool false) (.map (some nx4)) (.int .u32 ((e &&& set:Nat):Int)) false H14 fun t56_43=>tj_40 [t56_43] H14 nx14) (tj_40 [(.bool true)] H14 nx14)) rest) =
   rest [.bool (decide (e &&& set=0\/e &&& set ∈ Q4 (es.take i) set))] H14 nx14:=by
  intro rest
  rw[K3,R30,K31]
  by_cases h0:e &&& set=0
  .rw[if_pos (by simp[h0])];simp[h0]
  .rw[if_neg (by simpa using fun h=>h0 (by omega))]
   by_cases h1:e &&& set ∈ Q4 (es.take i) set
   .rw[hpt.mp.lkS' (v := .bool true) (by simp[h1])];simp[h1]
   .rw[hpt.mp.lkN' (by simp[h1])];simp[h0,h1]
 rw[hjn]
 simp only[List.getD_cons_zero]
 rw[W10]
 have hpn:=J73 (set:=set) hei
 by_cases hsk:e &&& set=0\/e &&& set ∈ Q4 (es.take i) set
 .rw[if_pos (by simpa using hsk)]
  have hadd:Q4 (es.take (i+1)) set=Q4 (es.take i) set:=by rw[hpn];unfold W23;rw[if_pos hsk]
  simp (disch:=first | omega | assumption | exact Y2 (by assumption) | exact Q1 (by assumption) | exact J1 (by omega) | fail) only[W0]
  exact hih2 (k2-1) _ _ _ (by omega) ⟨i+1,vA,vB,vf,m,bs,cssB,fs,by omega,by simp,by rw[hadd];exact hpl,by omega,fun f hf=>by have:=hfs f hf;omega,by rw[hadd];exact hpt,g140⟩
 rw[if_neg (by simpa using hsk)]
 have hadd:Q4 (es.take (i+1)) set=Q4 (es.take i) set++[e &&& set]:=by rw[hpn];unfold W23;rw[if_neg hsk]
 generalize hpart:e &&& set=part at *
 refine C74 hpt (by omega) ?_
 intro vf' H19 nx19 h19 g19
 rw[X37]
 have h19n:=h19.rn
 have h19b:=h19.bmr
 have h19l:=h19.le
 have hAh:=B20 h19.aA (d:=nx+2) (by omega)
 have hBh:=B20 h19.aB (d:=nx+2) (by omega)
 have hfh:=B20 h19.af (d:=nx+2) (by omega)
 refine E1 (m:=n) (fun k3 L H' nx'=>∃ (j:Nat) (vrow:Value) (css:List (List Value)),k3+j=n/\L=[vrow,.int .i64 (j:Int)]/\D0 H19 nx19 H' nx'/\Q6 nx19 H' nx' 3 vrow j css.flatten/\css.length=j /\
   RX (U8 H' (R4 (nx+2) vrow :: [nx+2,nx4,R4 (nx+2) vA,R4 (nx+2) vB,R4 (nx+2) vf'])) nx' css (fun t=>if part.testBit ((Y4 v set).getD t 0) then 1 else 0)) ?_
  ⟨0,.slice none 0 0,[],by omega,rfl,D0.refl _ _,Q6.nil _ _ _ _,rfl,fun q c hc=>by simp at hc⟩
 rintro k3 ih3 L3 H20 nx20 ⟨j,vrow,csr,hk3,rfl,hE20,haR,hlR,hxR⟩ hih3
 have hle20:=hE20.le
 show J0 .lss (.int .i64 (j:Int)) (.int .i64 (n:Int)) _
 rw[M24,W10]
 by_cases hj:j<n
 .rw[if_pos (by simpa using hj)]
  have hj':(j:Int)<(n:Int):=by omega
  obtain⟨w,hw⟩:∃ w,(Y4 v set)[j]? = some w:=⟨(Y4 v set)[j]'(by omega),List.getElem?_eq_getElem _⟩
  have hwD:(Y4 v set).getD j 0=w:=by simp[List.getD_eq_getElem?_getD,hw]
  have hgw:(R3 ((Y4 v set).map fun (w:Nat)=>(w:Int)))[j]? = some (.int .i64 (w:Int)):=by simp[R3,hw]
  have hgm20:=(hE20.get bm (by omega)).trans h19.gm
  have hpar:part<4294967296:=hp32'
  simp (disch:=first | omega | assumption | exact Y2 (by assumption) | exact Q1 (by assumption) | exact J1 (by omega) | fail) only[W0,B0.val,hgm20,hgw,C86]
  have hRh:=B20 haR (d:=nx+2) (by omega)
  have hRl:=Z26 haR (d:=nx20+2) (by omega)
  refine R16 (qs:=R4 (nx+2) vrow :: [nx+2,nx4,R4 (nx+2) vA,R4 (nx+2) vB,R4 (nx+2) vf']) (by intro q hq;simp at hq;omega) (V16 (n:=((part >>> w%2:Nat):Int)) (by omega) (by omega) _ _) (fun _ _ _ h=>h.2) ?_
  rintro r1 H21 nx21 E0 ⟨hr,hE0⟩ hE21 hS21 _
  have hle21:=hE21.le
  obtain⟨c,rfl,hc⟩:=hr.num
  have hr21:=hr.sub hS21
  rw[E91] at hr21
  have hE22:D0 H21 nx21 (hs H21 nx21 (some (.cells c 0))) (nx21+1):=(D0.refl _ _).new _ (Nat.le_refl _) (by omega)
  have g22:X0 (hs H21 nx21 (some (.cells c 0))) nx21=some (.cells c 0):=Q0 _ _ _
  simp (disch:=first | omega | assumption | exact Y2 (by assumption) | exact Q1 (by assumption) | exact J1 (by omega) | fail) only[M46 hc]
  generalize hs H21 nx21 (some (.cells c 0))=H22 at *
  have hsrc:Src H22 3 (.slice (some ⟨nx21,0,none⟩) 1 1) 1 c:=Z8 g22 (by rw[hc.three]) (by omega)
  refine V15 (d:=nx21+1) (by omega) ((haR.ext hE21).ext hE22) hsrc (by omega) hc.one (by omega) (by omega) ?_
  intro H23 g23 hk23
  have hR1:=Z26 haR (d:=nx21+1) (by omega)
  have hRo:=K36 haR (nx+2) (nx21+1)
  refine hih3 (k3-1) _ _ _ (by omega) ⟨j+1,.slice (some ⟨nx21+1,0,none⟩) (j+1) (j+1),csr++[c],by omega,by simp,⟨by omega,fun x hx => ?_⟩,X22 (by rw[V24,List.length_append,haR.1,hc.three];omega) (by omega) (by omega) (by rw[g23,V24]),by simp[hlR],?_⟩
  .rw[hk23 x (by omega) (by omega),hE22.get x (by omega),hE21.get x (by omega)];exact hE20.get x hx
  .show RX (U8 H23 ((nx21+1) :: _)) _ _ _
   have h21:=hxR.step (H':=H21) (nx':=nx21) (qs':=R4 (nx+2) vrow :: [nx+2,nx4,R4 (nx+2) vA,R4 (nx+2) vB,R4 (nx+2) vf']) (by omega) (fun x h1 _=>hE21.get x h1) (fun q hq => .inl hq)
   refine (h21.app hlR (by rw[hwD];exact hr21)).step (by omega) (fun x h1 h2 => ?_) (fun q hq=>by simp at hq ⊢;omega)
   simp at h2
   rw[hk23 x (by omega) (by omega),hE22.get x h1]
 obtain rfl:j=n:=by omega
 rw[if_neg (by simp)]
 simp only[List.getD_cons_zero]
 obtain⟨b,hvb,hb19,hb20,hgb⟩:∃ b,vrow = .slice (some ⟨b,0,none⟩) j j/\nx19<=b/\b<nx20/\X0 H20 b=some (.cells csr.flatten 3):=by
  rcases W8 haR (d:=nx) with ⟨_,h0,_⟩ | ⟨b,h1,_,h2,h3,h4⟩
  .omega
  .exact⟨b,h1,h2,h3,h4⟩
 subst hvb
 have hro:RO3 (U8 H20 [nx+2,nx4,R4 (nx+2) vA,R4 (nx+2) vB,R4 (nx+2) vf']) nx20 b j (fun t=>if part.testBit ((Y4 v set).getD t 0) then 1 else 0):=
  ⟨csr,by rw[W11 (by simp;omega)];exact hgb,hb20,hlR,hxR.sub (R13 (fun _ _ _=>rfl) (fun q hq => .inl (List.mem_cons_of_mem _ hq)))⟩
 refine G84 (h19.ext' hE20) (by omega) hro ?_
 intro vA' vB' cssB' H' nx' h' g'
 simp (disch:=first | omega | assumption | exact Y2 (by assumption) | exact Q1 (by assumption) | exact J1 (by omega) | fail) only[W0]
 have hM:(fun t=>if t=part then some (Value.bool true) else if t ∈ Q4 (es.take i) set then some (.bool true) else none)=fun t=>if t ∈ Q4 (es.take (i+1)) set then some (.bool true) else none:=by
  funext t
  rw[hadd]
  by_cases h1:t=part
  .simp[h1]
  .simp[h1]
 have hY:(fun k=>if k=m then (fun t=>if part.testBit ((Y4 v set).getD t 0) then (1:Rat) else 0) else fun j=>if ((Q4 (es.take i) set).getD k 0).testBit ((Y4 v set).getD j 0) then (1:Rat) else 0) =
   fun r j=>if ((Q4 (es.take (i+1)) set).getD r 0).testBit ((Y4 v set).getD j 0) then (1:Rat) else 0:=by
  funext r t
  rw[hadd]
  by_cases h1:r=m
  .subst h1
   rw[if_pos rfl]
   have:(Q4 (es.take i) set++[part]).getD r 0=part:=by
    rw[List.getD_eq_getElem?_getD,List.getElem?_append_right (by omega),hpl];simp
   rw[this]
  .rw[if_neg h1]
   have:(Q4 (es.take i) set++[part]).getD r 0=(Q4 (es.take i) set).getD r 0:=by
    rw[List.getD_eq_getElem?_getD,List.getD_eq_getElem?_getD]
    rcases Nat.lt_or_ge r m with g | g
    .rw[List.getElem?_append_left (by omega)]
    .rw[List.getElem?_eq_none (by simp;omega),List.getElem?_eq_none (by omega)]
   rw[this]
 rw[hM,hY] at h'
 exact hih2 (k2-1) _ _ _ (by omega) ⟨i+1,vA',vB',vf',m+1,bs++[b],cssB',fs++[i],by omega,by simp,by rw[hadd];simp[hpl],by omega,fun f hf=>by
  rcases List.mem_append.1 hf with h1 | h1
  .have:=hfs f h1;omega
  .simp at h1;omega,h',g'.trans ((hE20.get nx (by omega)).trans (g19.trans g140))⟩
end Go.Proofs.YtpiobdofbhkmjaaDoor

namespace Go.Clo
theorem E59 (set x:Nat):∀ (es ps:List Nat),x ∈ ps->x ∈ es.foldl (W23 set) ps
 | [],ps,h=>h
 | e :: es,ps,h=>E59 set x es _ (by unfold W23;split<;>simp[h])
theorem U40 (set e:Nat) (h0:e &&& set≠0):∀ (es ps:List Nat),e ∈ es->e &&& set ∈ es.foldl (W23 set) ps
 | [],ps,h=>by simp at h
 | d :: es,ps,h=>by
  rw[List.foldl_cons]
  rcases List.mem_cons.1 h with rfl | h
  .refine E59 set _ es _ ?_
   unfold W23
   by_cases h1:e &&& set ∈ ps
   .rw[if_pos (.inr h1)];exact h1
   .rw[if_neg (by simp[h0,h1])];simp
  .exact U40 set e h0 es _ h
theorem Y79 {es:List Nat} {set v:Nat} (hv:set.testBit v=true) (hc:∃ e ∈ es,e.testBit v=true):∃ r,r<(Q4 es set).length/\((Q4 es set).getD r 0).testBit v=true:=by
 obtain⟨e,he,hb⟩:=hc
 have hbit:(e &&& set).testBit v=true:=by rw[Nat.testBit_and,hb,hv];rfl
 have h0:e &&& set≠0:=by intro h;rw[h] at hbit;simp at hbit
 obtain⟨r,hr⟩:=List.getElem?_of_mem (U40 set e h0 es [] he)
 refine⟨r,(List.getElem?_eq_some_iff.1 hr).1,?_⟩
 have:(Q4 es set).getD r 0=e &&& set:=by rw[List.getD_eq_getElem?_getD];unfold Q4;rw[hr];rfl
 rw[this];exact hbit
theorem B35 {es:List Nat} {N set:Nat} (hcov:∀ v,set.testBit v=true->∃ e ∈ es,e.testBit v=true) {j:Nat} (hj:j<(Y4 N set).length):∃ r,r<(Q4 es set).length/\sP es N set r j=true:=by
 have hm:(Y4 N set)[j]? = some (Y4 N set)[j]:=List.getElem?_eq_getElem hj
 have hb:=(G31.1 (List.mem_of_getElem? hm)).2
 obtain⟨r,hr,h⟩:=Y79 hb (hcov _ hb)
 refine⟨r,hr,?_⟩
 unfold sP
 rw[show (Y4 N set).getD j 0=(Y4 N set)[j] by simp[List.getD_eq_getElem?_getD,hm]]
 exact h
noncomputable def M10 (es:List Nat) (N set:Nat):Rat:=(Lp.tabK (Y4 N set).length (Q4 es set).length (sP es N set) (Lp.steps (Y4 N set).length (Q4 es set).length (sP es N set))).g ((Y4 N set).length+(Q4 es set).length+1)
def orL (es:List Nat):Nat:=es.foldl (· ||| ·) 0
theorem K88 {es:List Nat} {i e:Nat} (h:es[i]? = some e):orL (es.take (i+1))=orL (es.take i) ||| e:=by
 unfold orL;rw[List.take_add_one,h];simp
theorem N28 (v:Nat):∀ (es:List Nat) (m:Nat),(es.foldl (· ||| ·) m).testBit v=(m.testBit v || es.any fun e=>e.testBit v)
 | [],m=>by simp
 | e :: es,m=>by rw[List.foldl_cons,N28 v es,Nat.testBit_or,List.any_cons,Bool.or_assoc]
theorem Z92 (es:List Nat) (v:Nat):(orL es).testBit v=es.any fun e=>e.testBit v:=by unfold orL;rw[N28];simp
theorem G36:∀ (es:List Nat) (m:Nat),m<4294967296->(∀ e ∈ es,e<4294967296)->es.foldl (· ||| ·) m<4294967296
 | [],m,h,_=>h
 | e :: es,m,h,h2=>G36 es _ (Y67 h (h2 e (by simp))) fun d hd=>h2 d (by simp[hd])
theorem K77 {es:List Nat} (h:∀ e ∈ es,e<4294967296):orL es<4294967296:=G36 es 0 (by omega) h
theorem V17 {a b:Nat} (h:∀ v,a.testBit v=true->b.testBit v=true):M2 a b=0:=by
 apply Nat.eq_of_testBit_eq
 intro v
 rw[N3,Nat.zero_testBit]
 cases ha:a.testBit v with
 | false=>rfl
 | true=>rw[h v ha];rfl
end Go.Clo
namespace Go.Proofs.YtpiobdofbhkmjaaDoor
open Go.Clo
theorem R67 {n:Nat} {A:Option Addr} {l c:Nat} (hn:n<=32) (H:Y0) (nx:Nat):J2 Tryd.prog 61 [gv n A l c] H nx fun v H' nx'=>v = .int .u32 ((2^n-1:Nat):Int)/\D0 H nx H' nx':=by
 refine spec61 ?_
 unfold F61
 simp (disch:=first|omega|assumption) only[W0,Z0,B0.val,K41 hn]
 exact (D0.refl _ _).new _ (Nat.le_refl _) (by omega)
theorem X59 {n:Nat} (hn:n<=1000) (H:Y0) (nx:Nat):J2 Tryd.prog 64 [.int .i64 (n:Int)] H nx fun v H' nx'=>v = .slice (some ⟨nx,0,none⟩) n n/\TC H' nx n/\nx<nx'/\D0 H nx H' nx':=by
 refine spec64 ?_
 unfold F64
 rw[V12 (by omega),show [Value.bool false,.slice none 0 0,.slice none 0 0]=D8 from rfl,V38]
 simp (disch:=first|omega|assumption) only[W0,B0.val]
 have hE0:D0 H nx (hs H nx (some (.cells (List.replicate n D8).flatten 0))) (nx+1):=(D0.refl H nx).new _ (Nat.le_refl _) (by omega)
 refine E1 (m:=n) (fun m L H' nx'=>∃ (i:Nat) (css:List (List Value)),m+i=n/\L=[.int .i64 (i:Int)]/\css.length=n/\(∀ d ∈ css,G9 d) /\
  X0 H' nx=some (.cells css.flatten 0)/\D0 H nx H' nx'/\nx<nx') ?_ ⟨0,List.replicate n D8,rfl,rfl,by simp,fun d hd=>by rw[(List.mem_replicate.1 hd).2];exact J89,Q0 _ _ _,hE0,by omega⟩
 rintro m ih L H1 nx1 ⟨i,css,hm,rfl,hlen,htri,hg,hE,hnx⟩ hih
 by_cases hi:i<n
 case neg=>
  have hi':¬ (i:Int)<(n:Int):=by omega
  simp (disch:=first|omega|assumption) only[W0,hi']
  exact⟨⟨css,hg,hlen,htri⟩,hnx,hE⟩
 have hi':(i:Int)<(n:Int):=by omega
 simp (disch:=first|omega|assumption) only[W0,hi']
 refine K0 (V16 (n:=0) (by omega) (by omega) H1 nx1) ?_
 rintro r H2 nx2 ⟨hr,hE2⟩
 have hg2:=(hE2.get nx hnx).trans hg
 obtain⟨c,rfl,hc⟩:=hr.num
 rw[Nat.mul_comm i 3,E21 hg2 htri hc (by omega)]
 have hle:=hE2.le
 exact hih (m-1) _ _ _ (by omega) ⟨i+1,css.set i c,by omega,by simp,by simp[hlen],M42 htri hc,Q0 _ _ _,(hE.trans hE2).hs (Nat.le_refl _),by omega⟩
end Go.Proofs.YtpiobdofbhkmjaaDoor
