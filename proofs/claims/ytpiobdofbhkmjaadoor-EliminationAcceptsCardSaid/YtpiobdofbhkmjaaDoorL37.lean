/-
  Contract: cover.Of.
  Contracts: the reference's has,Inside,Order;hypergraph.Inside.
  Contract: elimination.greater;the solver in memory.
-/
import Derived.Test.YtpiobdofbhkmjaaDoorL36
import Derived.Test.YtpiobdofbhkmjaaDoorL34
import Derived.Test.YtpiobdofbhkmjaaDoorL21
set_option linter.unusedSimpArgs false
set_option linter.unusedVariables false
set_option linter.unusedSectionVars false
namespace Go.Clo
def X97 (es:List Nat) (N set:Nat) (H:Y0) (nx:Nat) (v:Value):Prop:=
 ∃ (AW AP:Option Addr) (lw cw lp cp:Nat) (t:Bool) (A C:Option Addr) (l k l' k':Nat),v = .tuple ⟨[.agg ⟨[.slice AW lw cw,.slice AP lp cp,.bool t,.slice A l k,.slice C l' k']⟩,.int .i64 0]⟩ /\
  RR H nx (.agg ⟨[.bool t,.slice A l k,.slice C l' k']⟩) (M10 es N set)
theorem Y78 (b o:Nat) (H:Y0) (k:VP):G0 (.pointer (some ⟨b,o,none⟩)) (some 5) H k=ldP (X0 H b) o (some 5) k:=M30 b o 4 H k
theorem N79 (a b c d x y z:Value) (k:VP):N9 [a,b,c,d,x,y,z] 4 (some 3) k=k (.agg ⟨[x,y,z]⟩):=by
 rw[D16];simp
theorem R45 (a b c d e:Value) (k:VP):N9 [a,b,c,d,e] 0 (some 5) k=k (.agg ⟨[a,b,c,d,e]⟩):=R31 (l:=[a,b,c,d,e]) k
theorem TC.put {H:Y0} {b n i:Nat} {c:List Value} {css:List (List Value)} (hg:X0 H b=some (.cells css.flatten 0)) (hl:css.length=n) (ht:∀ d ∈ css,G9 d) (hc:G9 c):TC (hs H b (some (.cells (css.set i c).flatten 0))) b n:=
 ⟨css.set i c,Q0 _ _ _,by simp[hl],M42 ht hc⟩
end Go.Clo
namespace Go.Proofs.YtpiobdofbhkmjaaDoor
open Go.Clo
theorem K89 {H:Y0} {nx N set cap:Nat} {A:Option Addr} {es:List Nat} (hN:N<=8) (hS:Sl H nx A (N1 es)) (hsm:∀ e ∈ es,e<2^N) (hle:es.length<=8) (hset:set<2^N) (hn0:0<(Y4 N set).length)
  (hcov:∀ v,set.testBit v=true->∃ e ∈ es,e.testBit v=true):
  J2 Tryd.prog 43 [gv N A es.length cap,.int .u32 (set:Int)] H nx fun v H' nx'=>D0 H nx H' nx'/\X97 es N set H' nx' v:=by
 have hp32:2^N<4294967296:=Q33 (by omega)
 have hset32:set<4294967296:=by omega
 have hsm32:Z4 es:=fun e he=>by have:=hsm e he;omega
 have hgc:R8 N es=0:=W14 (by omega) (by omega) fun i e he=>hsm e (List.mem_of_getElem? he)
 have hmn:=E15 N set
 have hmp:(Q4 es set).length<=es.length:=by have:=D33 set es [];simpa [Q4] using this
 have hm1:1<=(Q4 es set).length:=by
  obtain⟨r,hr,_⟩:=B35 (N:=N) hcov hn0
  omega
 refine spec43 ?_
 unfold F43
 simp (config:={ maxSteps:=2000000 }) (disch:=first|omega|assumption) only[W0,Z0,B0.val]
 have hE2:D0 H nx (hs (hs H nx (some (.cells [.int .i64 (N:Int),.slice A es.length cap] 0))) (nx+1) (some (.cells [.slice none 0 0,.slice none 0 0,.bool false,.slice none 0 0,.slice none 0 0] 0))) (nx+1+1):=
  ((D0.refl _ _).new _ (Nat.le_refl _) (m:=nx+1) (by omega)).new _ (by omega) (by omega)
 have g20:X0 (hs (hs H nx (some (.cells [.int .i64 (N:Int),.slice A es.length cap] 0))) (nx+1) (some (.cells [.slice none 0 0,.slice none 0 0,.bool false,.slice none 0 0,.slice none 0 0] 0))) nx=some (.cells [.int .i64 (N:Int),.slice A es.length cap] 0):=by
  rw[M0 _ (by omega),Q0]
 have g24:X0 (hs (hs H nx (some (.cells [.int .i64 (N:Int),.slice A es.length cap] 0))) (nx+1) (some (.cells [.slice none 0 0,.slice none 0 0,.bool false,.slice none 0 0,.slice none 0 0] 0))) (nx+1)=some (.cells [.slice none 0 0,.slice none 0 0,.bool false,.slice none 0 0,.slice none 0 0] 0):=Q0 _ _ _
 simp (config:={ maxSteps:=2000000 }) (disch:=first|omega|assumption) only[J3]
 generalize hs (hs H nx (some (.cells [.int .i64 (N:Int),.slice A es.length cap] 0))) (nx+1) (some (.cells [.slice none 0 0,.slice none 0 0,.bool false,.slice none 0 0,.slice none 0 0] 0))=H2 at *
 refine K0 (Y24 N A es cap _ _ (hS.ext hE2) hsm32) ?_
 rintro _ H3 nx3 ⟨rfl,hE3⟩
 rw[hgc]
 have hle3:=hE3.le
 have hE03:=hE2.trans hE3
 have g30:=(hE3.get nx (by omega)).trans g20
 have g34:=(hE3.get (nx+1) (by omega)).trans g24
 simp (config:={ maxSteps:=2000000 }) (disch:=first|omega|assumption) only[W0,ne_eq,not_true_eq_false,g30,J3]
 refine K0 (R67 (by omega) _ _) ?_
 rintro _ H5 nx5 ⟨rfl,hE5⟩
 have hle5:=hE5.le
 have hE05:=hE03.trans hE5
 have g50:=(hE5.get nx (by omega)).trans g30
 have g54:=(hE5.get (nx+1) (by omega)).trans g34
 have hnd:M2 set (2^N-1)=0:=by
  have:=G46 (n:=N) hset32
  have h2:¬ 2^N<=set:=by omega
  simpa [h2] using this
 have hbl:2^N-1<4294967296:=by omega
 rw[E17 _ hset32 hbl,hnd]
 simp (config:={ maxSteps:=2000000 }) (disch:=first|omega|assumption) only[W0,ne_eq,not_true_eq_false,g50]
 refine E1 (m:=es.length) (fun k L H' nx'=>∃ i:Nat,k+i=es.length/\L=[.int .u32 ((orL (es.take i):Nat):Int),.int .i64 (i:Int)]/\H5=H'/\nx5=nx') ?_ ⟨0,by omega,by simp[orL],rfl,rfl⟩
 rintro k ih L _ _ ⟨i,hk,rfl,rfl,rfl⟩ hih
 by_cases hi:i<es.length
 .have hi':(i:Int)<(es.length:Int):=by omega
  have hei:es[i]? = some es[i]:=List.getElem?_eq_getElem hi
  obtain⟨bE,oE,rwE,rfl,hbE,hrwE,hgetE⟩:=hS.open (i:=0) (by rw[G1];omega)
  have hrw5:V3 H5 bE=some rwE:=(hE05.row hbE).trans hrwE
  have hor:orL (es.take i)<4294967296:=K77 fun e he=>hsm32 e (List.mem_of_mem_take he)
  have he32:es[i]<4294967296:=hsm32 _ (List.getElem_mem hi)
  simp (config:={ maxSteps:=2000000 }) (disch:=first|omega|assumption) only[W0,hi',Y3 hrw5,hgetE i _ (G3 hei)]
  exact hih (k-1) _ _ _ (by omega) ⟨i+1,by omega,by rw[K88 hei];simp,rfl,rfl⟩
 obtain rfl:i=es.length:=by omega
 have hi':¬ (es.length:Int)<(es.length:Int):=by omega
 have hnd2:M2 set (orL es)=0:=V17 fun v hv=>by
  rw[Z92,List.any_eq_true]
  exact hcov v hv
 have hor:orL es<4294967296:=K77 hsm32
 rw[List.take_length]
 have hand:∀ k:VP,J0 .andNot (.int .u32 (set:Int)) (.int .u32 ((orL es:Nat):Int)) k=k (.int .u32 0):=fun k=>by rw[E17 _ hset32 hor,hnd2];rfl
 simp (config:={ maxSteps:=2000000 }) (disch:=first|omega|assumption) only[W0,hi',hand,ne_eq,not_true_eq_false,g50,J3]
 refine K0 (E72 hN (hS.ext hE05) hsm hle hset hn0) ?_
 rintro _ H9 nx9 ⟨hE9,AC,AA,AB,Am,Af,cC,cA,cB,cm,cf,ac,fs,rfl,hAA,hac,hrow,hAB,hAC,hAm,hAf,hfl,hfs⟩
 have hle9:=hE9.le
 have g90:=(hE9.get nx (by omega)).trans g50
 have g94:=(hE9.get (nx+1) (by omega)).trans g54
 have hput3:∀ (a b c a' b' c':Value),G6 [a,b,c] 0 [a',b',c']=[a',b',c']:=fun _ _ _ _ _ _=>rfl
 have hE11:D0 H9 nx9 (hs (hs H9 nx9 (some (.cells [.slice none 0 0,.slice none 0 0,.slice none 0 0] 0))) nx9 (some (.cells [.slice AC (Y4 N set).length cC,.slice AA (Q4 es set).length cA,.slice AB (Q4 es set).length cB] 0))) (nx9+1):=
  ((D0.refl _ _).new _ (Nat.le_refl _) (m:=nx9+1) (by omega)).new _ (by omega) (by omega)
 simp (config:={ maxSteps:=2000000 }) (disch:=first|omega|assumption) only[W0,Z0,Nat.reduceAdd,hput3,D3]
 refine K0 (Q87 (s:=sP es N set) hn0 (by omega) hm1 (by omega) (hAA.ext hE11) hac (fun i hi=>by obtain⟨Ai,ci,h1,h2⟩:=hrow i hi;exact⟨Ai,ci,h1,h2.ext hE11⟩) (hAB.ext hE11) (hAC.ext hE11) (fun v hv=>B35 hcov hv)) ?_
 rintro v12 H12 nx12 ⟨⟨bX,bY,t,Az,Cz,lz,kz,lz',kz',rfl,hbX,hbY,hX,hY,hz⟩,hE12⟩
 have hle12:=hE12.le
 have hE912:=hE11.trans hE12
 have g120:=(hE912.get nx (by omega)).trans g90
 have g124:=(hE912.get (nx+1) (by omega)).trans g94
 have hput7:∀ (a b c d e f g a' b' c' d' e' f' g':Value),G6 [a,b,c,d,e,f,g] 0 [a',b',c',d',e',f',g']=[a',b',c',d',e',f',g']:=fun _ _ _ _ _ _ _ _ _ _ _ _ _ _=>rfl
 have hE14:D0 H12 nx12 (hs (hs H12 nx12 (some (.cells [.int .i64 0,.slice none 0 0,.slice none 0 0,.slice none 0 0,.bool false,.slice none 0 0,.slice none 0 0] 0))) nx12 (some (.cells [.int .i64 0,.slice (some ⟨bX,0,none⟩) (Y4 N set).length (Y4 N set).length,.slice (some ⟨bY,0,none⟩) (Q4 es set).length (Q4 es set).length,.slice none 0 0,.bool t,.slice Az lz kz,.slice Cz lz' kz'] 0))) (nx12+1):=
  ((D0.refl _ _).new _ (Nat.le_refl _) (m:=nx12+1) (by omega)).new _ (by omega) (by omega)
 have g1413:X0 (hs (hs H12 nx12 (some (.cells [.int .i64 0,.slice none 0 0,.slice none 0 0,.slice none 0 0,.bool false,.slice none 0 0,.slice none 0 0] 0))) nx12 (some (.cells [.int .i64 0,.slice (some ⟨bX,0,none⟩) (Y4 N set).length (Y4 N set).length,.slice (some ⟨bY,0,none⟩) (Q4 es set).length (Q4 es set).length,.slice none 0 0,.bool t,.slice Az lz kz,.slice Cz lz' kz'] 0))) nx12=some (.cells [.int .i64 0,.slice (some ⟨bX,0,none⟩) (Y4 N set).length (Y4 N set).length,.slice (some ⟨bY,0,none⟩) (Q4 es set).length (Q4 es set).length,.slice none 0 0,.bool t,.slice Az lz kz,.slice Cz lz' kz'] 0):=Q0 _ _ _
 simp (config:={ maxSteps:=2000000 }) (disch:=first|omega|assumption) only[W0,Z0,Nat.reduceAdd,hput7,ne_eq,not_true_eq_false,g120]
 generalize hs (hs H12 nx12 (some (.cells [.int .i64 0,.slice none 0 0,.slice none 0 0,.slice none 0 0,.bool false,.slice none 0 0,.slice none 0 0] 0))) nx12 (some (.cells [.int .i64 0,.slice (some ⟨bX,0,none⟩) (Y4 N set).length (Y4 N set).length,.slice (some ⟨bY,0,none⟩) (Q4 es set).length (Q4 es set).length,.slice none 0 0,.bool t,.slice Az lz kz,.slice Cz lz' kz'] 0))=H14 at *
 have g140:=(hE14.get nx (by omega)).trans g120
 have hE14':D0 H14 (nx12+1) H14 (nx12+1+12):=D0.self (by omega)
 refine K0 (X59 (n:=es.length) (by omega) _ _) ?_
 rintro _ H17 nx17 ⟨rfl,hW,hW2,hE17⟩
 have g170:=(hE17.get nx (by omega)).trans g140
 simp (config:={ maxSteps:=2000000 }) (disch:=first|omega|assumption) only[W0,g170]
 refine K0 (X59 (n:=N) (by omega) _ _) ?_
 rintro _ H18 nx18 ⟨rfl,hP,hP2,hE18⟩
 have hW18:=hW.ext hE18 hW2
 have hE1418:D0 H14 (nx12+1) H18 nx18:=(hE14'.trans hE17).trans hE18
 have g1813:=(hE1418.get nx12 (by omega)).trans g1413
 have g180:=(hE18.get nx (by omega)).trans g170
 have g1713:=((hE14'.trans hE17).get nx12 (by omega)).trans g1413
 have g184:=(hE1418.get (nx+1) (by omega)).trans ((hE14.get _ (by omega)).trans g124)
 have hbd:∀ k0:VP,M4 [.slice none 0 0,.slice none 0 0,.bool false,.slice none 0 0,.slice none 0 0] [(0,1),(1,1),(2,3)] [(0,.slice (some ⟨nx12+1+12,0,none⟩) es.length es.length),(1,.slice (some ⟨nx17,0,none⟩) N N),(2,.agg ⟨[.bool t,.slice Az lz kz,.slice Cz lz' kz']⟩)] k0 =
   k0 (.agg ⟨[.slice (some ⟨nx12+1+12,0,none⟩) es.length es.length,.slice (some ⟨nx17,0,none⟩) N N,.bool t,.slice Az lz kz,.slice Cz lz' kz']⟩):=fun k0=>E3 _ _
 have hput5:∀ (a b c d e a' b' c' d' e':Value),G6 [a,b,c,d,e] 0 [a',b',c',d',e']=[a',b',c',d',e']:=fun _ _ _ _ _ _ _ _ _ _=>rfl
 simp (config:={ maxSteps:=2000000 }) (disch:=first|omega|assumption) only[W0,Z0,Nat.reduceAdd,g1813,g1713,N79,hbd,hput5]
 have hE20:D0 H18 (nx12+1) (hs (hs H18 (nx12+1+10) (some (.cells [.slice none 0 0,.slice none 0 0,.bool false,.slice none 0 0,.slice none 0 0] 0))) (nx12+1+10) (some (.cells [.slice (some ⟨nx12+1+12,0,none⟩) es.length es.length,.slice (some ⟨nx17,0,none⟩) N N,.bool t,.slice Az lz kz,.slice Cz lz' kz'] 0))) nx18:=
  ((D0.self (by omega)).hs (by omega)).hs (by omega)
 have g2015:X0 (hs (hs H18 (nx12+1+10) (some (.cells [.slice none 0 0,.slice none 0 0,.bool false,.slice none 0 0,.slice none 0 0] 0))) (nx12+1+10) (some (.cells [.slice (some ⟨nx12+1+12,0,none⟩) es.length es.length,.slice (some ⟨nx17,0,none⟩) N N,.bool t,.slice Az lz kz,.slice Cz lz' kz'] 0))) (nx12+1+10) =
   some (.cells [.slice (some ⟨nx12+1+12,0,none⟩) es.length es.length,.slice (some ⟨nx17,0,none⟩) N N,.bool t,.slice Az lz kz,.slice Cz lz' kz'] 0):=Q0 _ _ _
 have hkeep20:∀ x,x≠nx12+1+10->X0 (hs (hs H18 (nx12+1+10) (some (.cells [.slice none 0 0,.slice none 0 0,.bool false,.slice none 0 0,.slice none 0 0] 0))) (nx12+1+10) (some (.cells [.slice (some ⟨nx12+1+12,0,none⟩) es.length es.length,.slice (some ⟨nx17,0,none⟩) N N,.bool t,.slice Az lz kz,.slice Cz lz' kz'] 0))) x=X0 H18 x:=fun x hx=>by
  rw[M0 _ hx,M0 _ hx]
 generalize hs (hs H18 (nx12+1+10) (some (.cells [.slice none 0 0,.slice none 0 0,.bool false,.slice none 0 0,.slice none 0 0] 0))) (nx12+1+10) (some (.cells [.slice (some ⟨nx12+1+12,0,none⟩) es.length es.length,.slice (some ⟨nx17,0,none⟩) N N,.bool t,.slice Az lz kz,.slice Cz lz' kz'] 0))=H20 at *
 have hle17:=hE17.le
 have hle18:=hE18.le
 have hE1220:D0 H12 nx12 H20 nx18:=hE14.trans (hE1418.both hE20)
 have hz20:=hz.ext hE1220
 have hE920:=hE912.trans hE1220
 have hP20:TC H20 nx17 N:=by
  obtain⟨cs,h1,h2,h3⟩:=hP
  exact⟨cs,(hkeep20 _ (by omega)).trans h1,h2,h3⟩
 have hW20:TC H20 (nx12+1+12) es.length:=by
  obtain⟨cs,h1,h2,h3⟩:=hW18
  exact⟨cs,(hkeep20 _ (by omega)).trans h1,h2,h3⟩
 have g2013:X0 H20 nx12=_:=(hkeep20 nx12 (by omega)).trans g1813
 have g204:X0 H20 (nx+1)=_:=(hkeep20 (nx+1) (by omega)).trans g184
 obtain⟨csX,hgX,hlX,htX⟩:=hX
 obtain⟨csY,hgY,hlY,htY⟩:=hY
 have hgX20:=(hE1220.get bX hbX).trans hgX
 have hgY20:=(hE1220.get bY hbY).trans hgY
 obtain⟨bM,oM,rwM,rfl,hbM,hrwM,hgetM⟩:=hAm.open (i:=0) (by rw[R37];omega)
 obtain⟨bF,oF,rwF,rfl,hbF,hrwF,hgetF⟩:=hAf.open (i:=0) (by rw[R37];omega)
 have hrM20:V3 H20 bM=some rwM:=(hE920.row hbM).trans hrwM
 have hrF20:V3 H20 bF=some rwF:=(hE920.row hbF).trans hrwF
 have hE020:D0 H nx H20 nx18:=(hE05.trans hE9).trans hE920
 have hle12n:nx9+1<=nx12:=hle12
 refine E1 (m:=(Y4 N set).length) (fun k L H' nx'=>∃ v:Nat,k+v=(Y4 N set).length/\L=[.int .i64 (v:Int)]/\nx18<=nx'/\(∀ x,x<nx18->x≠nx17->X0 H' x=X0 H20 x)/\TC H' nx17 N/\RR H' nx' (.agg ⟨[.bool t,.slice Az lz kz,.slice Cz lz' kz']⟩) (M10 es N set)) ?_
  ⟨0,by omega,rfl,Nat.le_refl _,fun _ _ _=>rfl,hP20,hz20⟩
 rintro k1 ih1 L1 H21 nx21 ⟨v,hk1,rfl,hn21,hkeep,hTP,hz21⟩ hih1
 by_cases hv:v<(Y4 N set).length
 .have hv':(v:Int)<((Y4 N set).length:Int):=by omega
  obtain⟨w,hw⟩:∃ w,(Y4 N set)[v]? = some w:=⟨(Y4 N set)[v],List.getElem?_eq_getElem hv⟩
  have hwN:=(G31.1 (List.mem_of_getElem? hw)).1
  have hwN':(w:Int)<(N:Int):=by omega
  have hgw:(R3 ((Y4 N set).map fun (w:Nat)=>(w:Int)))[v]? = some (.int .i64 (w:Int)):=by simp[R3,hw]
  have hrM21:V3 H21 bM=some rwM:=by unfold V3;rw[hkeep bM (by omega) (by omega)];exact hrM20
  have g2115:=(hkeep (nx12+1+10) (by omega) (by omega)).trans g2015
  have g2113:=(hkeep nx12 (by omega) (by omega)).trans g2013
  have g21X:=(hkeep bX (by omega) (by omega)).trans hgX20
  obtain⟨cs,hgP,hlP,htP⟩:=hTP
  obtain⟨c,hc⟩:∃ c,csX[v]? = some c:=⟨csX[v]'(by omega),List.getElem?_eq_getElem _⟩
  have hcT:=htX c (List.mem_of_getElem? hc)
  have e3:w*3=3*w:=by omega
  have ep:G6 cs.flatten (w*3) c=(cs.set w c).flatten:=by rw[e3];exact E30 (fun d hd=>(htP d hd).three) hcT.three (by omega)
  have el:w*3+3<=3*cs.length:=by omega
  simp (config:={ maxSteps:=2000000 }) (disch:=first|omega|assumption) only[W0,hv',Y3 hrM21,hgetM v _ hgw,g2115,g2113,g21X,U6 (fun d hd=>(htX d hd).three) hc,hcT.three,hcT.one,hgP,Q8 (fun d hd=>(htP d hd).three),ep,el]
  refine hih1 (k1-1) _ _ _ (by omega) ⟨v+1,by omega,by simp,by omega,fun x h1 h2=>by rw[M0 _ h2];exact hkeep x h1 h2,TC.put hgP hlP htP hcT,(hz21.ext (D0.self (by omega))).boxs hgP (M28 htP) (.inl rfl)⟩
 obtain rfl:v=(Y4 N set).length:=by omega
 have hv':¬ ((Y4 N set).length:Int)<((Y4 N set).length:Int):=by omega
 simp (config:={ maxSteps:=2000000 }) (disch:=first|omega|assumption) only[W0,hv']
 refine E1 (m:=(Q4 es set).length) (fun k L H' nx'=>∃ v:Nat,k+v=(Q4 es set).length/\L=[.int .i64 (v:Int)]/\nx18<=nx'/\(∀ x,x<nx18->x≠nx17->x≠nx12+1+12->X0 H' x=X0 H20 x)/\TC H' (nx12+1+12) es.length/\RR H' nx' (.agg ⟨[.bool t,.slice Az lz kz,.slice Cz lz' kz']⟩) (M10 es N set)) ?_
  ⟨0,by omega,rfl,hn21,fun x h1 h2 _=>hkeep x h1 h2,by
   obtain⟨cs,h1,h2,h3⟩:=hW20
   exact⟨cs,(hkeep _ (by omega) (by omega)).trans h1,h2,h3⟩,hz21⟩
 rintro k2 ih2 L2 H24 nx24 ⟨v,hk2,rfl,hn24,hkeep4,hTW,hz24⟩ hih2
 have g2415:=(hkeep4 (nx12+1+10) (by omega) (by omega) (by omega)).trans g2015
 by_cases hv:v<(Q4 es set).length
 .have hv'':(v:Int)<((Q4 es set).length:Int):=by omega
  obtain⟨w,hw⟩:∃ w,fs[v]? = some w:=⟨fs[v]'(by omega),List.getElem?_eq_getElem _⟩
  have hwN:=hfs w (List.mem_of_getElem? hw)
  have hwN':(w:Int)<(es.length:Int):=by omega
  have hgw:(R3 (fs.map fun (w:Nat)=>(w:Int)))[v]? = some (.int .i64 (w:Int)):=by simp[R3,hw]
  have hrF24:V3 H24 bF=some rwF:=by unfold V3;rw[hkeep4 bF (by omega) (by omega) (by omega)];exact hrF20
  have g2413:=(hkeep4 nx12 (by omega) (by omega) (by omega)).trans g2013
  have g24Y:=(hkeep4 bY (by omega) (by omega) (by omega)).trans hgY20
  obtain⟨cs,hgP,hlP,htP⟩:=hTW
  obtain⟨c,hc⟩:∃ c,csY[v]? = some c:=⟨csY[v]'(by omega),List.getElem?_eq_getElem _⟩
  have hcT:=htY c (List.mem_of_getElem? hc)
  have e3:w*3=3*w:=by omega
  have ep:G6 cs.flatten (w*3) c=(cs.set w c).flatten:=by rw[e3];exact E30 (fun d hd=>(htP d hd).three) hcT.three (by omega)
  have el:w*3+3<=3*cs.length:=by omega
  simp (config:={ maxSteps:=2000000 }) (disch:=first|omega|assumption) only[W0,hv'',Y3 hrF24,hgetF v _ hgw,g2415,g2413,g24Y,U6 (fun d hd=>(htY d hd).three) hc,hcT.three,hcT.one,hgP,Q8 (fun d hd=>(htP d hd).three),ep,el]
  refine hih2 (k2-1) _ _ _ (by omega) ⟨v+1,by omega,by simp,by omega,fun x h1 h2 h3=>by rw[M0 _ h3];exact hkeep4 x h1 h2 h3,TC.put hgP hlP htP hcT,(hz24.ext (D0.self (by omega))).boxs hgP (M28 htP) (.inl rfl)⟩
 obtain rfl:v=(Q4 es set).length:=by omega
 have hv'':¬ ((Q4 es set).length:Int)<((Q4 es set).length:Int):=by omega
 have g244:=(hkeep4 (nx+1) (by omega) (by omega) (by omega)).trans g204
 simp (config:={ maxSteps:=2000000 }) (disch:=first|omega|assumption) only[W0,Z0,Nat.reduceAdd,hv'',Y78,g2415,R45,g244,hput5]
 refine⟨⟨by have:=hE020.le;omega,fun x hx => ?_⟩,_,_,_,_,_,_,t,Az,Cz,lz,kz,lz',kz',rfl,hz24.boxs g244 (X8 rfl) (.inl rfl)⟩
 rw[M0 _ (by omega),hkeep4 x (by omega) (by omega) (by omega)]
 exact hE020.get x hx
end Go.Proofs.YtpiobdofbhkmjaaDoor

namespace Go.Proofs.YtpiobdofbhkmjaaDoor
open Go.Clo
theorem D68 (a b:Int) (k:VP):wVf (.mm true) [.int .i64 a,.int .i64 b] k=k (.int .i64 (if b > a then b else a)):=by
 unfold wVf
 rw[R9];rfl
theorem R43 (neg a b:Bool) (k:VP):wVf (.eqb neg) [.bool a,.bool b] k=k (.bool (cond neg (!(a==b)) (a==b))):=by
 unfold wVf
 rw[R9];rfl
def J31 (es:List Nat) (s:Nat):Bool:=es.any fun e=>decide (M2 s e=0)
theorem V96 (f:Value) (p:Nat->Bool) (A:Option Addr) (es:List Nat) (cap:Nat) (H:Y0) (nx:Nat) (hS:Sl H nx A (N1 es)) (hle:es.length<=64)
  (hf:∀ e ∈ es,∀ k:EP,k (.bool (p e)) H nx->E22 Tryd.prog f [.int .u32 (e:Int)] H nx k):
  J2 Tryd.prog 84 [.slice A es.length cap,f] H nx fun r H' nx'=>(∃ x:Int,r = .int .i64 x/\(0<=x<->es.any p=true))/\H=H'/\nx=nx':=by
 refine spec84 ?_
 unfold F84
 simp (disch:=first|omega|assumption) only[W0]
 refine E1 (m:=es.length) (fun m L H' nx'=>∃ i:Nat,m+i=es.length/\L=[.int .i64 (i:Int)]/\(∀ (j e:Nat),j<i->es[j]? = some e->p e=false)/\H=H'/\nx=nx') ?_ ⟨0,rfl,rfl,fun j e h=>by omega,rfl,rfl⟩
 rintro m ih L _ _ ⟨i,hm,rfl,hno,rfl,rfl⟩ hih
 simp (disch:=first|omega|assumption) only[W0]
 by_cases hi:i<es.length
 .have hi':(i:Int)<(es.length:Int):=by omega
  obtain⟨e,he⟩:∃ e,es[i]? = some e:=⟨_,List.getElem?_eq_getElem hi⟩
  obtain⟨b,o,row,rfl,hb,hrow,hget⟩:=hS.open (i:=i) (by rw[G1];omega)
  have g0:=hget _ _ (G3 he)
  simp (disch:=first|omega|assumption) only[W0,hi',Y3 hrow,g0]
  refine hf e (List.mem_of_getElem? he) _ ?_
  cases hp:p e with
  | true=>
   simp (disch:=first|omega|assumption) only[W0]
   refine⟨_,rfl,⟨fun _ => ?_,fun _=>by omega⟩⟩
   rw[List.any_eq_true];exact⟨e,List.mem_of_getElem? he,hp⟩
  | false=>
   simp (disch:=first|omega|assumption) only[W0]
   refine hih (m-1) _ _ _ (by omega) ⟨i+1,by omega,by simp,fun j e' hj he' => ?_,rfl,rfl⟩
   by_cases hji:j=i
   .subst hji;rw[he] at he';cases he';exact hp
   .exact hno j e' (by omega) he'
 .have hi':¬ (i:Int)<(es.length:Int):=by omega
  simp (disch:=first|omega|assumption) only[W0,hi']
  refine⟨_,rfl,⟨fun h=>by omega,fun h => ?_⟩⟩
  rw[List.any_eq_true] at h
  obtain⟨e,he,hp⟩:=h
  obtain⟨j,hj,rfl⟩:=List.getElem_of_mem he
  rw[hno j _ (by omega) (List.getElem?_eq_getElem hj)] at hp
  cases hp
theorem M96 {e s q:Nat} (he:e<4294967296) (h32:s<4294967296) (H:Y0) (nx:Nat) (hg:X0 H q=some (.cells [.int .u32 (s:Int)] 0)):
  J2 Tryd.prog 85 [.int .u32 (e:Int),.pointer (some ⟨q,0,none⟩)] H nx (K63 (.bool (decide (M2 s e=0))) H nx):=by
 refine spec85 ?_
 unfold F85
 simp (disch:=first|omega|assumption) only[W0,hg]
 exact⟨rfl,rfl,rfl⟩
theorem V85 {n s:Nat} (hn:n<=32) (h32:s<4294967296) (A:Option Addr) (es:List Nat) (cap:Nat) (H:Y0) (nx:Nat) (hS:Sl H nx A (N1 es)) (hsm:Z4 es) (hle:es.length<=64) (hgc:R8 n es=0):
  J2 Tryd.prog 65 [gv n A es.length cap,.int .u32 (s:Int)] H nx fun r H' nx'=>(∃ x:Int,r = .tuple ⟨[.int .i64 x,.bool (J31 es s)]⟩)/\D0 H nx H' nx':=by
 refine spec65 ?_
 unfold F65
 simp (disch:=first|omega|assumption) only[W0,Z0,B0.val,J3]
 generalize hK:hs (hs H nx (some (.cells [.int .i64 n,.slice A es.length cap] 0))) (nx+1) (some (.cells [.int .u32 (s:Int)] 0))=K
 have kG:X0 K nx=some (.cells [.int .i64 n,.slice A es.length cap] 0):=by rw[<- hK,M0 _ (by omega),Q0]
 have kS:X0 K (nx+1)=some (.cells [.int .u32 (s:Int)] 0):=by rw[<- hK,Q0]
 have hEK:D0 H nx K (nx+1+1):=by
  rw[<- hK];exact (((D0.refl H nx).new _ (by omega) (by omega):D0 H nx _ (nx+1)).new _ (by omega) (by omega))
 refine K0 (Y24 n A es cap _ _ (hS.ext hEK) hsm) ?_
 rintro _ H2 nx2 ⟨rfl,hE2⟩
 have d1:decide (R8 n es≠0)=false:=by simp[hgc]
 have g2:=(hE2.get nx (by omega)).trans kG
 have s2:=(hE2.get (nx+1) (by omega)).trans kS
 simp (disch:=first|omega|assumption) only[W0,d1,g2]
 refine K0 (V96 _ (fun e=>decide (M2 s e=0)) A es cap _ _ (hS.ext (hEK.trans hE2)) hle fun e he k hk=>Y34 (M96 (hsm e he) h32 _ _ s2) ?_) ?_
 .rintro _ _ _ ⟨rfl,rfl,rfl⟩
  exact hk
 rintro _ _ _ ⟨⟨x,rfl,hx⟩,rfl,rfl⟩
 have e1:decide (x ≥ 0)=J31 es s:=by
  rw[Bool.eq_iff_iff,decide_eq_true_eq];exact hx
 simp (disch:=first|omega|assumption) only[W0,D68,e1]
 exact⟨⟨_,rfl⟩,hEK.trans hE2⟩
end Go.Proofs.YtpiobdofbhkmjaaDoor

namespace Go.Clo
def gr (x y:Rat):Rat:=if x<y then y else x
theorem Z24 {x y:Rat} {L:Nat} (hx:X4 x L) (hy:X4 y L):X4 (gr x y) L:=by unfold gr;split<;>assumption
theorem NN.boxm {H:Y0} {nx i n c:Nat} {v:Value} {es:List MapEntry} {b:Option V4} (h:NN H nx v n) (hg:X0 H i=some (.map es c)):NN (hs H i b) nx v n:=by
 obtain⟨A,c,rfl,hD⟩:=h
 refine⟨A,c,rfl,?_,?_,hD.small,hD.le⟩
 .intro j x hx
  obtain⟨b,o,rw1,e1,e2,e3,e4⟩:=hD.sl j x hx
  have hb:b≠i:=by
   rintro rfl
   rw[V3,hg] at e3;cases e3
  exact⟨b,o,rw1,e1,e2,by rw[V3,M0 _ hb];exact e3,e4⟩
 .rcases hD.sk with e | ⟨b,o,rw1,e1,e2,e3⟩
  .exact .inl e
  .have hb:b≠i:=by
    rintro rfl
    rw[hg] at e3
    rcases e3 with e3 | ⟨_,_,e3⟩<;>cases e3
   exact .inr ⟨b,o,rw1,e1,e2,by rw[M0 _ hb];exact e3⟩
theorem RR.boxm {H:Y0} {nx i c:Nat} {v:Value} {x:Rat} {es:List MapEntry} {b:Option V4} (h:RR H nx v x) (hg:X0 H i=some (.map es c)):RR (hs H i b) nx v x:=
 let ⟨a,b,h1,h2,h3⟩:=h;⟨a,b,h1,NN.boxm h2 hg,NN.boxm h3 hg⟩
structure Kp (H:Y0) (nx p q:Nat) (H':Y0) (nx':Nat):Prop where
 le:nx<=nx'
 get:∀ x,x<nx->x≠p->x≠q->X0 H' x=X0 H x
theorem Kp.refl (H:Y0) (nx p q:Nat):Kp H nx p q H nx:=⟨Nat.le_refl _,fun _ _ _ _=>rfl⟩
theorem Kp.trans {H:Y0} {nx p q:Nat} {H1:Y0} {n1:Nat} {H2:Y0} {n2:Nat} (a:Kp H nx p q H1 n1) (b:Kp H1 n1 p q H2 n2):Kp H nx p q H2 n2:=
 ⟨Nat.le_trans a.le b.le,fun x h1 h2 h3=>(b.get x (Nat.lt_of_lt_of_le h1 a.le) h2 h3).trans (a.get x h1 h2 h3)⟩
theorem D0.kp {H:Y0} {nx p q:Nat} {H':Y0} {nx':Nat} (e:D0 H nx H' nx'):Kp H nx p q H' nx':=⟨e.le,fun x h _ _=>e.get x h⟩
theorem Kp.hs {H:Y0} {nx p q:Nat} {H':Y0} {nx' i:Nat} {b:Option V4} (a:Kp H nx p q H' nx') (hi:nx<=i\/i=p\/i=q):Kp H nx p q (Go.Clo.hs H' i b) nx':=
 ⟨a.le,fun x h1 h2 h3=>by rw[M0 _ (by omega)];exact a.get x h1 h2 h3⟩
theorem Kp.more {H:Y0} {nx p q:Nat} {H':Y0} {nx' m:Nat} (a:Kp H nx p q H' nx') (h:nx'<=m):Kp H nx p q H' m:=⟨Nat.le_trans a.le h,a.get⟩
def J11 (H:Y0) (r:Nat):Prop:=∃ es c,X0 H r=some (.map es c)
theorem C8.is {H:Y0} {r:Nat} {M:Nat->Option Value} (h:C8 H r M):J11 H r:=let ⟨es,c,h1,_⟩:=h;⟨es,c,h1⟩
theorem J11.ne {H:Y0} {r b:Nat} (h:J11 H r) {row:List Value} (hr:V3 H b=some row):b≠r:=by
 rintro rfl
 obtain⟨es,c,h1⟩:=h
 rw[V3,h1] at hr;cases hr
theorem NN.kp {H:Y0} {nx n p q:Nat} {v:Value} {H':Y0} {nx':Nat} (h:NN H nx v n) (e:Kp H nx p q H' nx') (hp:J11 H p) (hq:J11 H q):NN H' nx' v n:=by
 obtain⟨A,c,rfl,hD⟩:=h
 refine⟨A,c,rfl,?_,?_,hD.small,hD.le⟩
 .intro j x hx
  obtain⟨b,o,rw1,e1,e2,e3,e4⟩:=hD.sl j x hx
  refine⟨b,o,rw1,e1,Nat.lt_of_lt_of_le e2 e.le,?_,e4⟩
  unfold V3
  rw[e.get b e2 (hp.ne e3) (hq.ne e3)];exact e3
 .rcases hD.sk with h0 | ⟨b,o,rw1,e1,e2,e3⟩
  .exact .inl h0
  .have hr:∃ row,V3 H b=some row:=by
    rcases e3 with h1 | ⟨_,_,h1⟩<;>exact⟨_,by rw[V3,h1];rfl⟩
   obtain⟨row,hr⟩:=hr
   exact .inr ⟨b,o,rw1,e1,Nat.lt_of_lt_of_le e2 e.le,by rw[e.get b e2 (hp.ne hr) (hq.ne hr)];exact e3⟩
theorem RR.kp {H:Y0} {nx p q:Nat} {v:Value} {x:Rat} {H':Y0} {nx':Nat} (h:RR H nx v x) (e:Kp H nx p q H' nx') (hp:J11 H p) (hq:J11 H q):RR H' nx' v x:=
 let ⟨a,b,h1,h2,h3⟩:=h;⟨a,b,h1,h2.kp e hp hq,h3.kp e hp hq⟩
theorem Sl.kp {H:Y0} {nx p q:Nat} {A:Option Addr} {l:List Value} {H':Y0} {nx':Nat} (h:Sl H nx A l) (e:Kp H nx p q H' nx') (hp:J11 H p) (hq:J11 H q):Sl H' nx' A l:=by
 intro i v hv
 obtain⟨b,o,row,e1,e2,e3,e4⟩:=h i v hv
 refine⟨b,o,row,e1,Nat.lt_of_lt_of_le e2 e.le,?_,e4⟩
 unfold V3
 rw[e.get b e2 (hp.ne e3) (hq.ne e3)];exact e3
end Go.Clo
namespace Go.Proofs.YtpiobdofbhkmjaaDoor
open Go.Clo
noncomputable def Q21 (es:List Nat) (N set:Nat):Rat:=if J31 es set then 1 else M10 es N set
theorem M93 {x:Rat} (h:Lp.Sz (2^Lp.expN 8) x):X4 x 100000:=G47 h (by decide)
theorem Y38 (es:List Nat) (N set:Nat) (h:es.length<=8):X4 (M10 es N set) 100000:=by
 have hm:(Q4 es set).length<=8:=by have:=D33 set es [];simp[Q4] at this ⊢;omega
 exact M93 ((Lp.tabK_sz hm (Nat.le_refl _)).2 _ (by omega))
def J24 (N:Nat) (A:Option Addr) (len cap:Nat) (nb:List Nat) (rc rl:Nat):List Value := .int .i64 (N:Int) :: .slice A len cap :: (N1 nb++[.map (some rc),.map (some rl)])
theorem G92 {N:Nat} {A:Option Addr} {len cap rc rl:Nat} {nb:List Nat} (h:nb.length=32):(J24 N A len cap nb rc rl)[34]? = some (.map (some rc)):=by
 unfold J24
 rw[List.getElem?_cons_succ,List.getElem?_cons_succ,List.getElem?_append_right (by rw[G1];omega),G1,h];rfl
theorem M69 {N:Nat} {A:Option Addr} {len cap rc rl:Nat} {nb:List Nat} (h:nb.length=32):(J24 N A len cap nb rc rl)[35]? = some (.map (some rl)):=by
 unfold J24
 rw[List.getElem?_cons_succ,List.getElem?_cons_succ,List.getElem?_append_right (by rw[G1];omega),G1,h];rfl
theorem X93 {N:Nat} {A:Option Addr} {len cap rc rl u x:Nat} {nb:List Nat} (h:nb[u]? = some x):(J24 N A len cap nb rc rl)[2+u]? = some (.int .u32 (x:Int)):=by
 unfold J24
 rw[show 2+u=u+1+1 by omega,List.getElem?_cons_succ,List.getElem?_cons_succ,List.getElem?_append_left (by rw[G1];exact (List.getElem?_eq_some_iff.1 h).1)]
 exact G3 h
structure SV (H:Y0) (nx p rc rl N:Nat) (A:Option Addr) (cap:Nat) (es nb:List Nat) (L:Nat->Rat):Prop where
 hp:X0 H p=some (.cells (J24 N A es.length cap nb rc rl) 0)
 pn:p<nx
 rcn:rc<nx
 rln:rl<nx
 nbl:nb.length=32
 es':Sl H nx A (N1 es)
 cm:∃ M,C8 H rc M/\∀ n v,M n=some v->RR H nx v (M10 es N n)
 lm:∃ M,C8 H rl M/\∀ n v,M n=some v->RR H nx v (L n)
 ne:rc≠rl
theorem SV.pc {H:Y0} {nx p rc rl N:Nat} {A:Option Addr} {cap:Nat} {es nb:List Nat} {L:Nat->Rat} (h:SV H nx p rc rl N A cap es nb L):p≠rc:=by
 obtain⟨M,h1,_⟩:=h.cm
 exact h1.is.ne (row:=J24 N A es.length cap nb rc rl) (by rw[V3,h.hp];rfl)
theorem SV.pl {H:Y0} {nx p rc rl N:Nat} {A:Option Addr} {cap:Nat} {es nb:List Nat} {L:Nat->Rat} (h:SV H nx p rc rl N A cap es nb L):p≠rl:=by
 obtain⟨M,h1,_⟩:=h.lm
 exact h1.is.ne (row:=J24 N A es.length cap nb rc rl) (by rw[V3,h.hp];rfl)
theorem SV.ic {H:Y0} {nx p rc rl N:Nat} {A:Option Addr} {cap:Nat} {es nb:List Nat} {L:Nat->Rat} (h:SV H nx p rc rl N A cap es nb L):J11 H rc:=let ⟨_,h1,_⟩:=h.cm;h1.is
theorem SV.il {H:Y0} {nx p rc rl N:Nat} {A:Option Addr} {cap:Nat} {es nb:List Nat} {L:Nat->Rat} (h:SV H nx p rc rl N A cap es nb L):J11 H rl:=let ⟨_,h1,_⟩:=h.lm;h1.is
theorem SV.ext {H:Y0} {nx p rc rl N:Nat} {A:Option Addr} {cap:Nat} {es nb:List Nat} {L:Nat->Rat} {H':Y0} {nx':Nat} (h:SV H nx p rc rl N A cap es nb L) (e:D0 H nx H' nx'):SV H' nx' p rc rl N A cap es nb L:=by
 have:=e.le
 have h1:=h.pn;have h2:=h.rcn;have h3:=h.rln
 refine⟨(e.get p h1).trans h.hp,by omega,by omega,by omega,h.nbl,h.es'.ext e,?_,?_,h.ne⟩
 .obtain⟨M,a,b⟩:=h.cm
  exact⟨M,a.ext h2 e,fun n v hv=>(b n v hv).ext e⟩
 .obtain⟨M,a,b⟩:=h.lm
  exact⟨M,a.ext h3 e,fun n v hv=>(b n v hv).ext e⟩
theorem B37 {v w:Value} {x y:Rat} {H:Y0} {nx:Nat} (hv:RR H nx v x) (hw:RR H nx w y) (hx:X4 x 100000) (hy:X4 y 100000):
  J2 Tryd.prog 28 [v,w] H nx fun r H' nx'=>RR H' nx' r (gr x y)/\D0 H nx H' nx':=by
 obtain⟨c,rfl,hc⟩:=hv.num
 obtain⟨d,rfl,hd⟩:=hw.num
 refine spec28 ?_
 unfold F28
 have hE3:D0 H nx (hs (hs (hs H nx (some (.cells c 0))) (nx+1) (some (.cells d 0))) (nx+1+1) (some (.cells [.bool false,.slice none 0 0,.slice none 0 0] 0))) (nx+1+1+1):=
  (((D0.refl _ _).new _ (Nat.le_refl _) (m:=nx+1) (by omega)).new _ (by omega) (m:=nx+1+1) (by omega)).new _ (by omega) (by omega)
 have g1:X0 (hs (hs (hs H nx (some (.cells c 0))) (nx+1) (some (.cells d 0))) (nx+1+1) (some (.cells [.bool false,.slice none 0 0,.slice none 0 0] 0))) nx=some (.cells c 0):=by
  rw[M0 _ (by omega),M0 _ (by omega),Q0]
 have g2:X0 (hs (hs (hs H nx (some (.cells c 0))) (nx+1) (some (.cells d 0))) (nx+1+1) (some (.cells [.bool false,.slice none 0 0,.slice none 0 0] 0))) (nx+1)=some (.cells d 0):=by
  rw[M0 _ (by omega),Q0]
 have g3:X0 (hs (hs (hs H nx (some (.cells c 0))) (nx+1) (some (.cells d 0))) (nx+1+1) (some (.cells [.bool false,.slice none 0 0,.slice none 0 0] 0))) (nx+1+1)=some (.cells [.bool false,.slice none 0 0,.slice none 0 0] 0):=Q0 _ _ _
 simp (disch:=first|omega|assumption) only[W0,B0.val,hc.one,hd.one,Q3 hc,Q3 hd]
 generalize hs (hs (hs H nx (some (.cells c 0))) (nx+1) (some (.cells d 0))) (nx+1+1) (some (.cells [.bool false,.slice none 0 0,.slice none 0 0] 0))=H3 at *
 refine K0 (N20 (hv.ext hE3) (hw.ext hE3) hx hy) ?_
 rintro _ H4 nx4 ⟨rfl,hE4⟩
 have hle4:=hE4.le
 have hE04:=hE3.trans hE4
 have g41:=(hE4.get nx (by omega)).trans g1
 have g42:=(hE4.get (nx+1) (by omega)).trans g2
 have g43:=(hE4.get (nx+1+1) (by omega)).trans g3
 have hsh:∀ {z:Rat},X4 z 100000->X4 z 400000:=fun h=>⟨by have:=h.1;omega,by have:=h.2;omega⟩
 by_cases hlt:x<y
 .have hl:=Q22.2 hlt
  simp (disch:=first|omega|assumption) only[W0,hl,g42,Q3 hd]
  refine K0 (J13 (hw.ext hE04) (hsh hy)) ?_
  rintro r H5 nx5 ⟨hr,hE5⟩
  have g53:=(hE5.get (nx+1+1) (by omega)).trans g43
  obtain⟨e,rfl,he⟩:=hr.num
  simp (disch:=first|omega|assumption) only[W0,Nat.reduceAdd,he.three,he.one,g53,Z5 (show e.length=[Value.bool false,.slice none 0 0,.slice none 0 0].length from he.three),Q3 he]
  refine⟨?_,(hE04.trans hE5).hs (by omega)⟩
  unfold gr;rw[if_pos hlt]
  exact hr.boxs g53 (X8 rfl) (.inl rfl)
 .have hl:¬ Q11 x y<0:=fun h=>hlt (Q22.1 h)
  simp (disch:=first|omega|assumption) only[W0,hl,g41,Q3 hc]
  refine K0 (J13 (hv.ext hE04) (hsh hx)) ?_
  rintro r H5 nx5 ⟨hr,hE5⟩
  have g53:=(hE5.get (nx+1+1) (by omega)).trans g43
  obtain⟨e,rfl,he⟩:=hr.num
  simp (disch:=first|omega|assumption) only[W0,Nat.reduceAdd,he.three,he.one,g53,Z5 (show e.length=[Value.bool false,.slice none 0 0,.slice none 0 0].length from he.three),Q3 he]
  refine⟨?_,(hE04.trans hE5).hs (by omega)⟩
  unfold gr;rw[if_neg hlt]
  exact hr.boxs g53 (X8 rfl) (.inl rfl)
end Go.Proofs.YtpiobdofbhkmjaaDoor
