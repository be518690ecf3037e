/-
  Contract: cover.Of.
  MADE BY PROGRAM (wip/gen/gen.py): functions 88 58 59 60 57 9 as marked code,and their claims written out.
  Contracts: the reference's has,Inside,Order;hypergraph.Inside.
  Contract: elimination.greater;the solver in memory.
  Contract: the solver's cover.
  math/bits.TrailingZeros32 at the numbers below 64.
  Contract: the solver's bag.
  Contract: the solver's minimum.
  Plain: connected components as sets of bits.
  Contract: the solver's minimum.
  .
-/
import Derived.Test.YtoiioigihocgbaaGreatDoorD11
import Derived.Test.YtoiioigihocgbaaGreatDoorD10
import Derived.KernelRfl
import Derived.Shelf.Abstract
import Derived.WalkKit
import Derived.OwnWalkIn
import Derived.TacticsInMore
import Derived.LoopNIn
import Derived.LoopIn
import Derived.Test.YtoiioigihocgbaaGreatDoorProg
import Derived.Test.YtoiioigihocgbaaGreatDoorD1
import Derived.Test.YtoiioigihocgbaaGreatDoorD6
set_option maxHeartbeats 8000000
set_option maxRecDepth 100000
set_option linter.all false
noncomputable section
open Bool renaming and_eq_true->aG,eq_iff_iff->eX,or_eq_true->cO
open Classical renaming byContradiction->aI
open Go.IntKind renaming bits->dW,signed->eK,u32->eW,wrap->eY
open Go.Value renaming bool->dU
open List renaming all_eq_true->bW,any_eq_true->dY,cons_append->dL,countP_eq_length_filter->fS,getD_eq_getElem?_getD->aP,getElem?_append_left->bQ,getElem?_append_right->bS,getElem?_cons_succ->dK,getElem?_eq_getElem->aE,getElem?_eq_some_iff->aJ,getElem_of_mem->gL,length_cons->cV,mem_append->dN,mem_cons->aU,mem_map->gN,mem_of_getElem?->aH,mem_range->cW,mem_singleton->dJ,nil_append->eR,pairwise_iff_getElem->fD,range->aY,take_of_length_le->gJ
open Nat renaming eq_of_beq_eq_true->bT,eq_of_testBit_eq->bZ,le_refl->aD,le_trans->bK,lt_of_le_of_lt->cE,lt_of_lt_of_le->aO,pow_le_pow_right->aK,testBit_and->bI,testBit_lt_two_pow->dV,testBit_or->aV,testBit_two_pow->aR,two_pow_pos->aQ,zero_testBit->cN
open Ne renaming symm->eT
open Option.some renaming inj->fA
namespace Go.Clo
def D76(es:List Nat)(N set:Nat)(H:Y0)(nx:Nat)(v:Value):Prop:=
 ∃(AW AP:Option Addr) (lw cw lp cp:Nat) (t:Bool) (A C:Option Addr) (l k l' k':Nat),v = .tuple ⟨[.agg ⟨[.slice AW lw cw,.slice AP lp cp,.bool t,.slice A l k,.slice C l' k']⟩,.int .i64 0]⟩ /\
  RR H nx (.agg ⟨[.bool t,.slice A l k,.slice C l' k']⟩) (D73 es N set)
theorem X110(b o:Nat)(H:Y0)(k:VP):J1 (.pointer (some ⟨b,o,none⟩)) (some 5) H k=ldP (J0 H b) o (some 5) k:=W31 b o 4 H k
theorem E102(a b c d x y z:Value)(k:VP):B10 [a,b,c,d,x,y,z] 4 (some 3) k=k (.agg ⟨[x,y,z]⟩):=by
 rw[X21];simp
theorem E96(a b c d e:Value)(k:VP):B10 [a,b,c,d,e] 0 (some 5) k=k (.agg ⟨[a,b,c,d,e]⟩):=K26 (l:=[a,b,c,d,e]) k
theorem TC.put{H:Y0}{b n i:Nat}{c:List Value}{css:List (List Value)}(hg:J0 H b=some (.cells css.flatten 0))(hl:css.length=n)(ht:∀ d ∈ css,V7 d)(hc:V7 c):TC (hs H b (some (.cells (css.set i c).flatten 0))) b n:=
 ⟨css.set i c,Z11 _ _ _,by simp[hl],J85 ht hc⟩
end Go.Clo
namespace Go.Proofs.YtoiioigihocgbaaGreatDoor
open Go.Clo
theorem Z111{H:Y0}{nx N set cap:Nat}{A:Option Addr}{es:List Nat}(hN:N<=8)(hS:Sl H nx A (K12 es))(bx:∀ e ∈ es,e<2^N)(ef:es.length<=8)(d1:set<2^N)(bu:0<(V5 N set).length)
  (ax:∀ v,set.testBit v=true->∃ e ∈ es,e.testBit v=true):
  Q2 Tryz.prog 95 [gv N A es.length cap,.int .u32 (set:Int)] H nx fun v H' nx'=>D0 H nx H' nx'/\D76 es N set H' nx' v:=by
 have f7:2^N<4294967296:=Y18 (by omega);have a5:set<4294967296:=by omega
 have a4:U14 es:=fun e he=>by have:=bx e he;omega
 have eb:N3 N es=0:=V11 (by omega) (by omega) fun i e he=>bx e (aH he)
 have fe:=Q15 N set;have fh:(D16 es set).length<=es.length:=by have:=X79 set es [];simpa [D16] using this
 have dx:1<=(D16 es set).length:=by
  obtain⟨r,hr,_⟩:=G83 (N:=N) ax bu;omega
 refine spec95 ?_;unfold F95;simp(config:={ maxSteps:=2000000 }) (disch:=first|omega|assumption)only[W0,Z0,Q0.val];have de:D0 H nx (hs (hs H nx (some (.cells [.int .i64 (N:Int),.slice A es.length cap] 0))) (nx+1) (some (.cells [.slice none 0 0,.slice none 0 0,.bool false,.slice none 0 0,.slice none 0 0] 0))) (nx+1+1):=
  ((D0.refl _ _).new _ (aD _) (m:=nx+1) (by omega)).new _ (by omega) (by omega)
 have e6:J0 (hs (hs H nx (some (.cells [.int .i64 (N:Int),.slice A es.length cap] 0))) (nx+1) (some (.cells [.slice none 0 0,.slice none 0 0,.bool false,.slice none 0 0,.slice none 0 0] 0))) nx=some (.cells [.int .i64 (N:Int),.slice A es.length cap] 0):=by
  rw[Z1 _ (by omega),Z11]
 have ec:J0 (hs (hs H nx (some (.cells [.int .i64 (N:Int),.slice A es.length cap] 0))) (nx+1) (some (.cells [.slice none 0 0,.slice none 0 0,.bool false,.slice none 0 0,.slice none 0 0] 0))) (nx+1)=some (.cells [.slice none 0 0,.slice none 0 0,.bool false,.slice none 0 0,.slice none 0 0] 0):=Z11 _ _ _;simp(config:={ maxSteps:=2000000 }) (disch:=first|omega|assumption)only[C13];generalize hs (hs H nx (some (.cells [.int .i64 (N:Int),.slice A es.length cap] 0))) (nx+1) (some (.cells [.slice none 0 0,.slice none 0 0,.bool false,.slice none 0 0,.slice none 0 0] 0))=H2 at *
 refine R0 (N11 N A es cap _ _ (hS.ext de) a4) ?_;rintro _ H3 fj ⟨rfl,az⟩;rw[eb];have f8:=az.le;have dc:=de.trans az;have dm:=(az.get nx (by omega)).trans e6;have dp:=(az.get (nx+1) (by omega)).trans ec;simp(config:={ maxSteps:=2000000 }) (disch:=first|omega|assumption)only[W0,ne_eq,not_true_eq_false,dm,C13];refine R0 (J96 (by omega) _ _) ?_;rintro _ H5 eo ⟨rfl,b3⟩;have f0:=b3.le;have al:=dc.trans b3;have c4:=(b3.get nx (by omega)).trans dm;have e7:=(b3.get (nx+1) (by omega)).trans dp;have dv:Z2 set (2^N-1)=0:=by
  have:=X49 (n:=N) a5;have h2:¬ 2^N<=set:=by omega
  simpa [h2] using this
 have ew:2^N-1<4294967296:=by omega
 rw[V17 _ a5 ew,dv];simp(config:={ maxSteps:=2000000 }) (disch:=first|omega|assumption)only[W0,ne_eq,not_true_eq_false,c4];refine B1 (m:=es.length) (fun k L H' nx'=>∃ i:Nat,k+i=es.length/\L=[.int .u32 ((Z7 (es.take i):Nat):Int),.int .i64 (i:Int)]/\H5=H'/\eo=nx') ?_ ⟨0,by omega,by simp[Z7],rfl,rfl⟩;rintro k ih L _ _ ⟨i,hk,rfl,rfl,rfl⟩ e2
 by_cases hi:i<es.length
 .have bh:(i:Int)<(es.length:Int):=by omega
  have db:es[i]? = some es[i]:=aE hi;obtain⟨bE,oE,ek,rfl,dq,d7,c6⟩:=hS.open (i:=0) (by rw[E1];omega);have d5:Q5 H5 bE=some ek:=(al.row dq).trans d7;have co:Z7 (es.take i)<4294967296:=V102 fun e he=>a4 e (List.mem_of_mem_take he)
  have f3:es[i]<4294967296:=a4 _ (List.getElem_mem hi);simp(config:={ maxSteps:=2000000 }) (disch:=first|omega|assumption)only[W0,bh,X3 d5,c6 i _ (Q3 db)];exact e2 (k-1) _ _ _ (by omega) ⟨i+1,by omega,by rw[U105 db];simp,rfl,rfl⟩
 obtain rfl:i=es.length:=by omega
 have bh:¬ (es.length:Int)<(es.length:Int):=by omega
 have cz:Z2 set (Z7 es)=0:=M34 fun v hv=>by
  rw[V107,dY];exact ax v hv
 have co:Z7 es<4294967296:=V102 a4;rw[List.take_length];have d6:∀ k:VP,D10 .andNot (.int .u32 (set:Int)) (.int .u32 ((Z7 es:Nat):Int)) k=k (.int .u32 0):=fun k=>by rw[V17 _ a5 co,cz];rfl
 simp(config:={ maxSteps:=2000000 }) (disch:=first|omega|assumption)only[W0,bh,d6,ne_eq,not_true_eq_false,c4,C13];refine R0 (D99 hN (hS.ext al) bx ef d1 bu) ?_;rintro _ H9 ag ⟨ay,AC,AA,AB,Am,Af,cC,cA,cB,cm,cf,ac,fs,rfl,e1,e5,ck,ed,en,em,dz,ff,ee⟩;have f5:=ay.le;have et:=(ay.get nx (by omega)).trans c4;have ej:=(ay.get (nx+1) (by omega)).trans e7;have cd:∀(a b c a' b' c':Value),B12 [a,b,c] 0 [a',b',c']=[a',b',c']:=fun _ _ _ _ _ _=>rfl
 have a6:D0 H9 ag (hs (hs H9 ag (some (.cells [.slice none 0 0,.slice none 0 0,.slice none 0 0] 0))) ag (some (.cells [.slice AC (V5 N set).length cC,.slice AA (D16 es set).length cA,.slice AB (D16 es set).length cB] 0))) (ag+1):=
  ((D0.refl _ _).new _ (aD _) (m:=ag+1) (by omega)).new _ (by omega) (by omega)
 simp(config:={ maxSteps:=2000000 }) (disch:=first|omega|assumption)only[W0,Z0,Nat.reduceAdd,cd,Y12];refine R0 (M104 (s:=sP es N set) bu (by omega) dx (by omega) (e1.ext a6) e5 (fun i hi=>by obtain⟨Ai,ci,h1,h2⟩:=ck i hi;exact⟨Ai,ci,h1,h2.ext a6⟩) (ed.ext a6) (en.ext a6) (fun v hv=>G83 ax hv)) ?_;rintro fc aj E ⟨⟨bX,bY,t,Az,Cz,lz,kz,U,W,rfl,e8,e9,hX,hY,hz⟩,b5⟩;have cc:=b5.le;have ab:=a6.trans b5;have bd:=(ab.get nx (by omega)).trans et;have dl:=(ab.get (nx+1) (by omega)).trans ej;have c3:∀(a b c d e f g a' b' c' d' e' f' g':Value),B12 [a,b,c,d,e,f,g] 0 [a',b',c',d',e',f',g']=[a',b',c',d',e',f',g']:=fun _ _ _ _ _ _ _ _ _ _ _ _ _ _=>rfl
 have aq:D0 aj E (hs (hs aj E (some (.cells [.int .i64 0,.slice none 0 0,.slice none 0 0,.slice none 0 0,.bool false,.slice none 0 0,.slice none 0 0] 0))) E (some (.cells [.int .i64 0,.slice (some ⟨bX,0,none⟩) (V5 N set).length (V5 N set).length,.slice (some ⟨bY,0,none⟩) (D16 es set).length (D16 es set).length,.slice none 0 0,.bool t,.slice Az lz kz,.slice Cz U W] 0))) (E+1):=
  ((D0.refl _ _).new _ (aD _) (m:=E+1) (by omega)).new _ (by omega) (by omega)
 have a8:J0 (hs (hs aj E (some (.cells [.int .i64 0,.slice none 0 0,.slice none 0 0,.slice none 0 0,.bool false,.slice none 0 0,.slice none 0 0] 0))) E (some (.cells [.int .i64 0,.slice (some ⟨bX,0,none⟩) (V5 N set).length (V5 N set).length,.slice (some ⟨bY,0,none⟩) (D16 es set).length (D16 es set).length,.slice none 0 0,.bool t,.slice Az lz kz,.slice Cz U W] 0))) E=some (.cells [.int .i64 0,.slice (some ⟨bX,0,none⟩) (V5 N set).length (V5 N set).length,.slice (some ⟨bY,0,none⟩) (D16 es set).length (D16 es set).length,.slice none 0 0,.bool t,.slice Az lz kz,.slice Cz U W] 0):=Z11 _ _ _;simp(config:={ maxSteps:=2000000 }) (disch:=first|omega|assumption)only[W0,Z0,Nat.reduceAdd,c3,ne_eq,not_true_eq_false,bd];generalize hs (hs aj E (some (.cells [.int .i64 0,.slice none 0 0,.slice none 0 0,.slice none 0 0,.bool false,.slice none 0 0,.slice none 0 0] 0))) E (some (.cells [.int .i64 0,.slice (some ⟨bX,0,none⟩) (V5 N set).length (V5 N set).length,.slice (some ⟨bY,0,none⟩) (D16 es set).length (D16 es set).length,.slice none 0 0,.bool t,.slice Az lz kz,.slice Cz U W] 0))=H14 at *
 have b8:=(aq.get nx (by omega)).trans bd;have ap:D0 H14 (E+1) H14 (E+1+12):=D0.self (by omega);refine R0 (M91 (n:=es.length) (by omega) _ _) ?_;rintro _ fk O ⟨rfl,hW,dt,ad⟩;have au:=(ad.get nx (by omega)).trans b8;simp(config:={ maxSteps:=2000000 }) (disch:=first|omega|assumption)only[W0,au];refine R0 (M91 (n:=N) (by omega) _ _) ?_;rintro _ a7 Z ⟨rfl,hP,fb,ae⟩;have d8:=hW.ext ae dt;have a3:D0 H14 (E+1) a7 Z:=(ap.trans ad).trans ae;have av:=(a3.get E (by omega)).trans a8;have cu:=(ae.get nx (by omega)).trans au;have cj:=((ap.trans ad).get E (by omega)).trans a8;have dj:=(a3.get (nx+1) (by omega)).trans ((aq.get _ (by omega)).trans dl);have e0:∀ k0:VP,U11 [.slice none 0 0,.slice none 0 0,.bool false,.slice none 0 0,.slice none 0 0] [(0,1),(1,1),(2,3)] [(0,.slice (some ⟨E+1+12,0,none⟩) es.length es.length),(1,.slice (some ⟨O,0,none⟩) N N),(2,.agg ⟨[.bool t,.slice Az lz kz,.slice Cz U W]⟩)] k0 =
   k0 (.agg ⟨[.slice (some ⟨E+1+12,0,none⟩) es.length es.length,.slice (some ⟨O,0,none⟩) N N,.bool t,.slice Az lz kz,.slice Cz U W]⟩):=fun k0=>V14 _ _
 have ao:∀(a b c d e a' b' c' d' e':Value),B12 [a,b,c,d,e] 0 [a',b',c',d',e']=[a',b',c',d',e']:=fun _ _ _ _ _ _ _ _ _ _=>rfl
 simp(config:={ maxSteps:=2000000 }) (disch:=first|omega|assumption)only[W0,Z0,Nat.reduceAdd,av,cj,E102,e0,ao];have di:D0 a7 (E+1) (hs (hs a7 (E+1+10) (some (.cells [.slice none 0 0,.slice none 0 0,.bool false,.slice none 0 0,.slice none 0 0] 0))) (E+1+10) (some (.cells [.slice (some ⟨E+1+12,0,none⟩) es.length es.length,.slice (some ⟨O,0,none⟩) N N,.bool t,.slice Az lz kz,.slice Cz U W] 0))) Z:=
  ((D0.self (by omega)).hs (by omega)).hs (by omega)
 have aw:J0 (hs (hs a7 (E+1+10) (some (.cells [.slice none 0 0,.slice none 0 0,.bool false,.slice none 0 0,.slice none 0 0] 0))) (E+1+10) (some (.cells [.slice (some ⟨E+1+12,0,none⟩) es.length es.length,.slice (some ⟨O,0,none⟩) N N,.bool t,.slice Az lz kz,.slice Cz U W] 0))) (E+1+10) =
   some (.cells [.slice (some ⟨E+1+12,0,none⟩) es.length es.length,.slice (some ⟨O,0,none⟩) N N,.bool t,.slice Az lz kz,.slice Cz U W] 0):=Z11 _ _ _
 have V:∀ x,x≠E+1+10->J0 (hs (hs a7 (E+1+10) (some (.cells [.slice none 0 0,.slice none 0 0,.bool false,.slice none 0 0,.slice none 0 0] 0))) (E+1+10) (some (.cells [.slice (some ⟨E+1+12,0,none⟩) es.length es.length,.slice (some ⟨O,0,none⟩) N N,.bool t,.slice Az lz kz,.slice Cz U W] 0))) x=J0 a7 x:=fun x hx=>by
  rw[Z1 _ hx,Z1 _ hx]
 generalize hs (hs a7 (E+1+10) (some (.cells [.slice none 0 0,.slice none 0 0,.bool false,.slice none 0 0,.slice none 0 0] 0))) (E+1+10) (some (.cells [.slice (some ⟨E+1+12,0,none⟩) es.length es.length,.slice (some ⟨O,0,none⟩) N N,.bool t,.slice Az lz kz,.slice Cz U W] 0))=H20 at *
 have dy:=ad.le;have ea:=ae.le;have a0:D0 aj E H20 Z:=aq.trans (a3.both di);have dk:=hz.ext a0;have aa:=ab.trans a0;have d9:TC H20 O N:=by
  obtain⟨cs,h1,h2,h3⟩:=hP;exact⟨cs,(V _ (by omega)).trans h1,h2,h3⟩
 have ct:TC H20 (E+1+12) es.length:=by
  obtain⟨cs,h1,h2,h3⟩:=d8;exact⟨cs,(V _ (by omega)).trans h1,h2,h3⟩
 have ah:J0 H20 E=_:=(V E (by omega)).trans av;have cy:J0 H20 (nx+1)=_:=(V (nx+1) (by omega)).trans dj;obtain⟨d4,dr,fi,cn⟩:=hX;obtain⟨d0,e4,fg,cx⟩:=hY;have bo:=(a0.get bX e8).trans dr;have c8:=(a0.get bY e9).trans e4;obtain⟨bM,oM,d3,rfl,ey,d2,bv⟩:=em.open (i:=0) (by rw[N81];omega);obtain⟨bF,oF,dd,rfl,eh,cp,ca⟩:=dz.open (i:=0) (by rw[N81];omega);have ce:Q5 H20 bM=some d3:=(aa.row ey).trans d2;have c9:Q5 H20 bF=some dd:=(aa.row eh).trans cp;have ai:D0 H nx H20 Z:=(al.trans ay).trans aa;have dn:ag+1<=E:=cc;refine B1 (m:=(V5 N set).length) (fun k L H' nx'=>∃ v:Nat,k+v=(V5 N set).length/\L=[.int .i64 (v:Int)]/\Z<=nx'/\(∀ x,x<Z->x≠O->J0 H' x=J0 H20 x)/\TC H' O N/\RR H' nx' (.agg ⟨[.bool t,.slice Az lz kz,.slice Cz U W]⟩) (D73 es N set)) ?_
  ⟨0,by omega,rfl,aD _,fun _ _ _=>rfl,d9,dk⟩
 rintro k1 fl L1 eu f6 ⟨v,fd,rfl,cq,Q,eg,bc⟩ dh
 by_cases hv:v<(V5 N set).length
 .have bk:(v:Int)<((V5 N set).length:Int):=by omega
  obtain⟨w,hw⟩:∃ w,(V5 N set)[v]? = some w:=⟨(V5 N set)[v],aE hv⟩
  have du:=(Q62.1 (aH hw)).1;have cv:(w:Int)<(N:Int):=by omega
  have cg:(U4 ((V5 N set).map fun(w:Nat)=>(w:Int)))[v]? = some (.int .i64 (w:Int)):=by simp[U4,hw]
  have bz:Q5 eu bM=some d3:=by unfold Q5;rw[Q bM (by omega) (by omega)];exact ce
  have bt:=(Q (E+1+10) (by omega) (by omega)).trans aw;have bf:=(Q E (by omega) (by omega)).trans ah;have dg:=(Q bX (by omega) (by omega)).trans bo;obtain⟨cs,a9,c7,a1⟩:=eg;obtain⟨c,hc⟩:∃ c,d4[v]? = some c:=⟨d4[v]'(by omega),aE _⟩
  have a2:=cn c (aH hc);have e3:w*3=3*w:=by omega
  have ep:B12 cs.flatten (w*3) c=(cs.set w c).flatten:=by rw[e3];exact M78 (fun d hd=>(a1 d hd).three) a2.three (by omega)
  have el:w*3+3<=3*cs.length:=by omega
  simp(config:={ maxSteps:=2000000 }) (disch:=first|omega|assumption)only[W0,bk,X3 bz,bv v _ cg,bt,bf,dg,J22 (fun d hd=>(cn d hd).three) hc,a2.three,a2.one,a9,W26 (fun d hd=>(a1 d hd).three),ep,el];refine dh (k1-1) _ _ _ (by omega) ⟨v+1,by omega,by simp,by omega,fun x h1 h2=>by rw[Z1 _ h2];exact Q x h1 h2,TC.put a9 c7 a1 a2,(bc.ext (D0.self (by omega))).boxs a9 (N77 a1) (.inl rfl)⟩
 obtain rfl:v=(V5 N set).length:=by omega
 have bk:¬ ((V5 N set).length:Int)<((V5 N set).length:Int):=by omega
 simp(config:={ maxSteps:=2000000 }) (disch:=first|omega|assumption)only[W0,bk];refine B1 (m:=(D16 es set).length) (fun k L H' nx'=>∃ v:Nat,k+v=(D16 es set).length/\L=[.int .i64 (v:Int)]/\Z<=nx'/\(∀ x,x<Z->x≠O->x≠E+1+12->J0 H' x=J0 H20 x)/\TC H' (E+1+12) es.length/\RR H' nx' (.agg ⟨[.bool t,.slice Az lz kz,.slice Cz U W]⟩) (D73 es N set)) ?_
  ⟨0,by omega,rfl,cq,fun x h1 h2 _=>Q x h1 h2,by
   obtain⟨cs,h1,h2,h3⟩:=ct;exact⟨cs,(Q _ (by omega) (by omega)).trans h1,h2,h3⟩,bc⟩
 rintro k2 fa L2 dw ez ⟨v,f9,rfl,f4,J,ei,b4⟩ df;have an:=(J (E+1+10) (by omega) (by omega) (by omega)).trans aw
 by_cases hv:v<(D16 es set).length
 .have ak:(v:Int)<((D16 es set).length:Int):=by omega
  obtain⟨w,hw⟩:∃ w,fs[v]? = some w:=⟨fs[v]'(by omega),aE _⟩
  have du:=ee w (aH hw);have cv:(w:Int)<(es.length:Int):=by omega
  have cg:(U4 (fs.map fun(w:Nat)=>(w:Int)))[v]? = some (.int .i64 (w:Int)):=by simp[U4,hw]
  have bg:Q5 dw bF=some dd:=by unfold Q5;rw[J bF (by omega) (by omega) (by omega)];exact c9
  have bw:=(J E (by omega) (by omega) (by omega)).trans ah;have da:=(J bY (by omega) (by omega) (by omega)).trans c8;obtain⟨cs,a9,c7,a1⟩:=ei;obtain⟨c,hc⟩:∃ c,d0[v]? = some c:=⟨d0[v]'(by omega),aE _⟩
  have a2:=cx c (aH hc);have e3:w*3=3*w:=by omega
  have ep:B12 cs.flatten (w*3) c=(cs.set w c).flatten:=by rw[e3];exact M78 (fun d hd=>(a1 d hd).three) a2.three (by omega)
  have el:w*3+3<=3*cs.length:=by omega
  simp(config:={ maxSteps:=2000000 }) (disch:=first|omega|assumption)only[W0,ak,X3 bg,ca v _ cg,an,bw,da,J22 (fun d hd=>(cx d hd).three) hc,a2.three,a2.one,a9,W26 (fun d hd=>(a1 d hd).three),ep,el];refine df (k2-1) _ _ _ (by omega) ⟨v+1,by omega,by simp,by omega,fun x h1 h2 h3=>by rw[Z1 _ h3];exact J x h1 h2 h3,TC.put a9 c7 a1 a2,(b4.ext (D0.self (by omega))).boxs a9 (N77 a1) (.inl rfl)⟩
 obtain rfl:v=(D16 es set).length:=by omega
 have ak:¬ ((D16 es set).length:Int)<((D16 es set).length:Int):=by omega
 have ba:=(J (nx+1) (by omega) (by omega) (by omega)).trans cy;simp(config:={ maxSteps:=2000000 }) (disch:=first|omega|assumption)only[W0,Z0,Nat.reduceAdd,ak,X110,an,E96,ba,ao];refine⟨⟨by have:=ai.le;omega,fun x hx => ?_⟩,_,_,_,_,_,_,t,Az,Cz,lz,kz,U,W,rfl,b4.boxs ba (U47 rfl) (.inl rfl)⟩;rw[Z1 _ (by omega),J x (by omega) (by omega) (by omega)];exact ai.get x hx
section
variable (a0 a1 a2:Value) (H:Y0) (nx:Nat) (k:EP)
def F88:Prop:=
 R4 a0 0 H fun b=>
 G3 (fun c d e f=>
 D10 .lss d.a b fun b=>
 K2 b (
 U6 a0 d.a e fun _ b=>
 M33 Tryz.prog a1 [b] e f fun b e f=>
 K2 b (
 Rt d.a e f k) (
 D10 .add d.a i1 fun b=>
 c [b] e f)) (
 Rt (.int .i64 (-1)) e f k)) [i0] H nx
def F9:Prop:=
 M12 a0 H nx fun b c d=>
 wFl b 1 c fun _ e=>
 R4 e 0 c fun e=>
 D10 .leq e (.int .i64 8) fun e=>
 K3 true e (
 wFl b 0 c fun _ e=>
 D10 .leq e (.int .i64 6) fun e=>
 K3 false e (
 wFl b 0 c fun _ e=>
 D10 .gtr e (.int .i64 32) fun e=>
 K3 true e (
 wFl b 0 c fun _ b=>
 D10 .sub b a1 fun b=>
 D10 .leq b (.int .i64 4) fun b=>
 K3 false b (
 D10 .lss a1 i0 fun b=>
 Rt b c d k) (
 Rt bT c d k)) (
 Rt bF c d k)) (
 wFl b 0 c fun _ b=>
 D10 .sub b a1 fun b=>
 D10 .leq b (.int .i64 4) fun b=>
 K3 false b (
 D10 .lss a1 i0 fun b=>
 Rt b c d k) (
 Rt bT c d k))) (
 Rt bF c d k)
variable {a0 a1 a2 H nx k}
theorem spec88:F88 a0 a1 H nx k->Q2 Tryz.prog 88 [a0,a1] H nx k:=Q12 [] [[8]] []
theorem spec9:F9 a0 a1 H nx k->Q2 Tryz.prog 9 [a0,a1] H nx k:=Q12 [] [] [.one (.tst (.tst (.one (.one (.tst (.tst (.one (.one .nil)) (.one (.one .nil))) (.one (.one (.one .nil)))))) (.one (.one (.one (.tst (.one (.one .nil)) (.one (.one .nil))))))) (.one (.one (.one (.one (.one (.one (.one .nil))))))))]
end
theorem C69{n:Nat}(h:n<18446744073709551616):IntKind.u64.wrap (n:Int)=n:=by
 simp only[eY,eK,dW];simp;omega
theorem Z10{n:Nat}(h:n<18446744073709551616)(K:IntKind)(k:VP):W8 .u64 (.int K (n:Int)) k=k (.int .u64 (n:Int)):=by rw[Z32,C69 h]
theorem C108(a b:Int)(k:VP):D9 (.mm true) [.int .i64 a,.int .i64 b] k=k (.int .i64 (if b > a then b else a)):=by
 unfold D9;rw[J8];rfl
def R10(es:List Nat)(s:Nat):Bool:=es.any fun e=>decide (Z2 s e=0)
theorem N63{es:List Nat}{s e:Nat}(he:e ∈ es)(h:Z2 s e=0):R10 es s=true:=by
 unfold R10;rw[dY];exact⟨e,he,by simp[h]⟩
theorem N66{es:List Nat}{s:Nat}(h:∀(j e:Nat),j<es.length->es[j]? = some e->Z2 s e≠0):R10 es s=false:=by
 unfold R10;rw[List.any_eq_false];intro e he;obtain⟨i,hi,rfl⟩:=gL he;have:=h i _ hi (aE hi);simp[this]
theorem M32 (e s:Nat):e &&& s=s<->Z2 s e=0:=by
 constructor
 .intro h
  apply Nat.eq_of_testBit_eq
  intro i
  have:=congrArg (fun x=>x.testBit i) h
  simp only[Nat.testBit_and] at this
  rw[N1,Nat.zero_testBit]
  revert this
  cases s.testBit i<;>cases e.testBit i<;>simp
 .intro h
  apply Nat.eq_of_testBit_eq
  intro i
  have:=congrArg (fun x=>x.testBit i) h
  simp only[N1,Nat.zero_testBit] at this
  rw[Nat.testBit_and]
  revert this
  cases s.testBit i<;>cases e.testBit i<;>simp
theorem B45{s:Nat}(a2:s<4294967296)(A:Option Addr)(es:List Nat)(cap:Nat)(H:Y0)(nx:Nat)(hS:Sl H nx A (K12 es))(V:U14 es)(a1:es.length<=64):
  Q2 Tryz.prog 62 [.slice A es.length cap,.int .u32 (s:Int)] H nx fun r H' nx'=>r = .bool (R10 es s || decide (s=0))/\H=H'/\nx=nx':=by
 refine spec62 ?_;unfold F62;refine B1 (m:=es.length) (fun m L H' nx'=>∃ i:Nat,m+i=es.length/\L=[.int .i64 (i:Int)]/\(∀(j e:Nat),j<i->es[j]? = some e->Z2 s e≠0)/\H=H'/\nx=nx') ?_ ⟨0,rfl,rfl,fun j e h=>by omega,rfl,rfl⟩;rintro m ih L _ _ ⟨i,hm,rfl,U,rfl,rfl⟩ Z;simp(disch:=first|omega|assumption)only[W0]
 by_cases hi:i<es.length
 .have E:(i:Int)<(es.length:Int):=by omega
  obtain⟨e,he⟩:∃ e,es[i]? = some e:=⟨_,aE hi⟩
  obtain⟨b,o,row,rfl,hb,J,Q⟩:=hS.open (i:=i) (by rw[E1];omega);have a0:=V.get he;have g0:=Q _ _ (Q3 he)
  by_cases h:Z2 s e=0
  .have d:decide (((e &&& s:Nat):Int)=(s:Int))=true:=by
    have:=(M32 e s).2 h;simp only[decide_eq_true_eq];omega
   simp(disch:=first|omega|assumption)only[W0,E,X3 J,g0,d];rw[N63 (aH he) h];rfl
  .have d:decide (((e &&& s:Nat):Int)=(s:Int))=false:=by
    have:¬ (e &&& s=s):=fun q=>h ((M32 e s).1 q)
    simp only[decide_eq_false_iff_not];omega
   simp(disch:=first|omega|assumption)only[W0,E,X3 J,g0,d];refine Z (m-1) _ _ _ (by omega) ⟨i+1,by omega,by simp,fun j e' hj O => ?_,rfl,rfl⟩
   by_cases W:j=i
   .subst W;rw[he] at O;cases O;exact h
   .exact U j e' (by omega) O
 .have E:¬ (i:Int)<(es.length:Int):=by omega
  simp(disch:=first|omega|assumption)only[W0,E];rw[N66 fun j e hj he=>U j e (by omega) he];rfl
theorem W111(f:Value)(p:Nat->Bool)(A:Option Addr)(es:List Nat)(cap:Nat)(H:Y0)(nx:Nat)(hS:Sl H nx A (K12 es))(Z:es.length<=64)
  (hf:∀ e ∈ es,∀ k:EP,k (.bool (p e)) H nx->M33 Tryz.prog f [.int .u32 (e:Int)] H nx k):
  Q2 Tryz.prog 88 [.slice A es.length cap,f] H nx fun r H' nx'=>(∃ x:Int,r = .int .i64 x/\(0<=x<->es.any p=true))/\H=H'/\nx=nx':=by
 refine spec88 ?_;unfold F88;simp(disch:=first|omega|assumption)only[W0];refine B1 (m:=es.length) (fun m L H' nx'=>∃ i:Nat,m+i=es.length/\L=[.int .i64 (i:Int)]/\(∀(j e:Nat),j<i->es[j]? = some e->p e=false)/\H=H'/\nx=nx') ?_ ⟨0,rfl,rfl,fun j e h=>by omega,rfl,rfl⟩;rintro m ih L _ _ ⟨i,hm,rfl,U,rfl,rfl⟩ V;simp(disch:=first|omega|assumption)only[W0]
 by_cases hi:i<es.length
 .have J:(i:Int)<(es.length:Int):=by omega
  obtain⟨e,he⟩:∃ e,es[i]? = some e:=⟨_,aE hi⟩
  obtain⟨b,o,row,rfl,hb,O,Q⟩:=hS.open (i:=i) (by rw[E1];omega);have g0:=Q _ _ (Q3 he);simp(disch:=first|omega|assumption)only[W0,J,X3 O,g0];refine hf e (aH he) _ ?_
  cases hp:p e with
  | true=>
   simp(disch:=first|omega|assumption)only[W0];refine⟨_,rfl,⟨fun _ => ?_,fun _=>by omega⟩⟩;rw[dY];exact⟨e,aH he,hp⟩
  | false=>
   simp(disch:=first|omega|assumption)only[W0];refine V (m-1) _ _ _ (by omega) ⟨i+1,by omega,by simp,fun j e' hj E => ?_,rfl,rfl⟩
   by_cases W:j=i
   .subst W;rw[he] at E;cases E;exact hp
   .exact U j e' (by omega) E
 .have J:¬ (i:Int)<(es.length:Int):=by omega
  simp(disch:=first|omega|assumption)only[W0,J];refine⟨_,rfl,⟨fun h=>by omega,fun h => ?_⟩⟩;rw[dY] at h;obtain⟨e,he,hp⟩:=h;obtain⟨j,hj,rfl⟩:=gL he;rw[U j _ (by omega) (aE hj)] at hp
  cases hp
theorem W78{e s q:Nat}(he:e<4294967296)(E:s<4294967296)(H:Y0)(nx:Nat)(hg:J0 H q=some (.cells [.int .u32 (s:Int)] 0)):
  Q2 Tryz.prog 106 [.int .u32 (e:Int),.pointer (some ⟨q,0,none⟩)] H nx (Z56 (.bool (decide (Z2 s e=0))) H nx):=by
 refine spec106 ?_;unfold F106;simp(disch:=first|omega|assumption)only[W0,hg];exact⟨rfl,rfl,rfl⟩
theorem Z106{n s:Nat}(hn:n<=32)(Q:s<4294967296)(A:Option Addr)(es:List Nat)(cap:Nat)(H:Y0)(nx:Nat)(hS:Sl H nx A (K12 es))(O:U14 es)(V:es.length<=64)(U:N3 n es=0):
  Q2 Tryz.prog 90 [gv n A es.length cap,.int .u32 (s:Int)] H nx fun r H' nx'=>(∃ x:Int,r = .tuple ⟨[.int .i64 x,.bool (R10 es s)]⟩)/\D0 H nx H' nx':=by
 refine spec90 ?_;unfold F90;simp(disch:=first|omega|assumption)only[W0,Z0,Q0.val,C13];generalize hK:hs (hs H nx (some (.cells [.int .i64 n,.slice A es.length cap] 0))) (nx+1) (some (.cells [.int .u32 (s:Int)] 0))=K;have kG:J0 K nx=some (.cells [.int .i64 n,.slice A es.length cap] 0):=by rw[<- hK,Z1 _ (by omega),Z11]
 have kS:J0 K (nx+1)=some (.cells [.int .u32 (s:Int)] 0):=by rw[<- hK,Z11]
 have J:D0 H nx K (nx+1+1):=by
  rw[<- hK];exact(((D0.refl H nx).new _ (by omega) (by omega):D0 H nx _ (nx+1)).new _ (by omega) (by omega))
 refine R0 (N11 n A es cap _ _ (hS.ext J) O) ?_;rintro _ H2 nx2 ⟨rfl,E⟩;have d1:decide (N3 n es≠0)=false:=by simp[U]
 have g2:=(E.get nx (by omega)).trans kG;have s2:=(E.get (nx+1) (by omega)).trans kS;simp(disch:=first|omega|assumption)only[W0,d1,g2];refine R0 (W111 _ (fun e=>decide (Z2 s e=0)) A es cap _ _ (hS.ext (J.trans E)) V fun e he k hk=>V22 (W78 (O e he) Q _ _ s2) ?_) ?_
 .rintro _ _ _ ⟨rfl,rfl,rfl⟩
  exact hk
 rintro _ _ _ ⟨⟨x,rfl,hx⟩,rfl,rfl⟩;have e1:decide (x ≥ 0)=R10 es s:=by
  rw[eX,decide_eq_true_eq];exact hx
 simp(disch:=first|omega|assumption)only[W0,C108,e1];exact⟨⟨_,rfl⟩,J.trans E⟩
end Go.Proofs.YtoiioigihocgbaaGreatDoor
namespace Go.Clo
def gr(x y:Rat):Rat:=if x<y then y else x
theorem E78{x y:Rat}{L:Nat}(hx:U15 x L)(hy:U15 y L):U15 (gr x y) L:=by unfold gr;split<;>assumption
theorem NN.boxm{H:Y0}{nx i n c:Nat}{v:Value}{es:List MapEntry}{b:Option V3}(h:NN H nx v n)(hg:J0 H i=some (.map es c)):NN (hs H i b) nx v n:=by
 obtain⟨A,c,rfl,hD⟩:=h;refine⟨A,c,rfl,?_,?_,hD.small,hD.le⟩
 .intro j x hx
  obtain⟨b,o,E,e1,e2,e3,e4⟩:=hD.sl j x hx;have hb:b≠i:=by
   rintro rfl;rw[Q5,hg] at e3;cases e3
  exact⟨b,o,E,e1,e2,by rw[Q5,Z1 _ hb];exact e3,e4⟩
 .rcases hD.sk with e | ⟨b,o,E,e1,e2,e3⟩
  .exact .inl e
  .have hb:b≠i:=by
    rintro rfl;rw[hg] at e3;rcases e3 with e3 | ⟨_,_,e3⟩<;>cases e3
   exact .inr ⟨b,o,E,e1,e2,by rw[Z1 _ hb];exact e3⟩
theorem RR.boxm{H:Y0}{nx i c:Nat}{v:Value}{x:Rat}{es:List MapEntry}{b:Option V3}(h:RR H nx v x)(hg:J0 H i=some (.map es c)):RR (hs H i b) nx v x:=
 let ⟨a,b,h1,h2,h3⟩:=h;⟨a,b,h1,NN.boxm h2 hg,NN.boxm h3 hg⟩
structure Kp (H:Y0) (nx p q:Nat) (H':Y0) (nx':Nat):Prop where
 le:nx<=nx'
 get:∀ x,x<nx->x≠p->x≠q->J0 H' x=J0 H x
theorem Kp.trans{H:Y0}{nx p q:Nat}{H1:Y0}{n1:Nat}{H2:Y0}{n2:Nat}(a:Kp H nx p q H1 n1)(b:Kp H1 n1 p q H2 n2):Kp H nx p q H2 n2:=
 ⟨bK a.le b.le,fun x h1 h2 h3=>(b.get x (aO h1 a.le) h2 h3).trans (a.get x h1 h2 h3)⟩
theorem D0.kp{H:Y0}{nx p q:Nat}{H':Y0}{nx':Nat}(e:D0 H nx H' nx'):Kp H nx p q H' nx':=⟨e.le,fun x h _ _=>e.get x h⟩
theorem Kp.hs{H:Y0}{nx p q:Nat}{H':Y0}{nx' i:Nat}{b:Option V3}(a:Kp H nx p q H' nx')(hi:nx<=i\/i=p\/i=q):Kp H nx p q (Go.Clo.hs H' i b) nx':=
 ⟨a.le,fun x h1 h2 h3=>by rw[Z1 _ (by omega)];exact a.get x h1 h2 h3⟩
theorem Kp.more{H:Y0}{nx p q:Nat}{H':Y0}{nx' m:Nat}(a:Kp H nx p q H' nx')(h:nx'<=m):Kp H nx p q H' m:=⟨bK a.le h,a.get⟩
def X51(H:Y0)(r:Nat):Prop:=∃ es c,J0 H r=some (.map es c)
theorem U29.is{H:Y0}{r:Nat}{M:Nat->Option Value}(h:U29 H r M):X51 H r:=let ⟨es,c,h1,_⟩:=h;⟨es,c,h1⟩
theorem X51.ne{H:Y0}{r b:Nat}(h:X51 H r){row:List Value}(hr:Q5 H b=some row):b≠r:=by
 rintro rfl;obtain⟨es,c,h1⟩:=h;rw[Q5,h1] at hr;cases hr
theorem NN.kp{H:Y0}{nx n p q:Nat}{v:Value}{H':Y0}{nx':Nat}(h:NN H nx v n)(e:Kp H nx p q H' nx')(hp:X51 H p)(hq:X51 H q):NN H' nx' v n:=by
 obtain⟨A,c,rfl,hD⟩:=h;refine⟨A,c,rfl,?_,?_,hD.small,hD.le⟩
 .intro j x hx
  obtain⟨b,o,E,e1,e2,e3,e4⟩:=hD.sl j x hx;refine⟨b,o,E,e1,aO e2 e.le,?_,e4⟩;unfold Q5;rw[e.get b e2 (hp.ne e3) (hq.ne e3)];exact e3
 .rcases hD.sk with h0 | ⟨b,o,E,e1,e2,e3⟩
  .exact .inl h0
  .have hr:∃ row,Q5 H b=some row:=by
    rcases e3 with h1 | ⟨_,_,h1⟩<;>exact⟨_,by rw[Q5,h1];rfl⟩
   obtain⟨row,hr⟩:=hr;exact .inr ⟨b,o,E,e1,aO e2 e.le,by rw[e.get b e2 (hp.ne hr) (hq.ne hr)];exact e3⟩
theorem RR.kp{H:Y0}{nx p q:Nat}{v:Value}{x:Rat}{H':Y0}{nx':Nat}(h:RR H nx v x)(e:Kp H nx p q H' nx')(hp:X51 H p)(hq:X51 H q):RR H' nx' v x:=
 let ⟨a,b,h1,h2,h3⟩:=h;⟨a,b,h1,h2.kp e hp hq,h3.kp e hp hq⟩
theorem Sl.kp{H:Y0}{nx p q:Nat}{A:Option Addr}{l:List Value}{H':Y0}{nx':Nat}(h:Sl H nx A l)(e:Kp H nx p q H' nx')(hp:X51 H p)(hq:X51 H q):Sl H' nx' A l:=by
 intro i v hv;obtain⟨b,o,row,e1,e2,e3,e4⟩:=h i v hv;refine⟨b,o,row,e1,aO e2 e.le,?_,e4⟩;unfold Q5;rw[e.get b e2 (hp.ne e3) (hq.ne e3)];exact e3
end Go.Clo
namespace Go.Proofs.YtoiioigihocgbaaGreatDoor
open Go.Clo
def Y74(es:List Nat)(N set:Nat):Rat:=if R10 es set then 1 else D73 es N set
theorem B109{x:Rat}(h:Lp.Sz (2^Lp.expN 8) x):U15 x 100000:=R87 h (by decide)
theorem Z100(es:List Nat)(N set:Nat)(h:es.length<=8):U15 (D73 es N set) 100000:=by
 have hm:(D16 es set).length<=8:=by have:=X79 set es [];simp[D16] at this ⊢;omega
 exact B109 ((Lp.tabK_sz hm (aD _)).2 _ (by omega))
def E75(N:Nat)(A:Option Addr)(len cap:Nat)(nb:List Nat)(rc rl:Nat):List Value := .int .i64 (N:Int) :: .slice A len cap :: (K12 nb++[.map (some rc),.map (some rl)])
theorem J107{N:Nat}{A:Option Addr}{len cap rc rl:Nat}{nb:List Nat}(h:nb.length=32):(E75 N A len cap nb rc rl)[34]? = some (.map (some rc)):=by
 unfold E75;rw[dK,dK,bS (by rw[E1];omega),E1,h];rfl
theorem Z97{N:Nat}{A:Option Addr}{len cap rc rl:Nat}{nb:List Nat}(h:nb.length=32):(E75 N A len cap nb rc rl)[35]? = some (.map (some rl)):=by
 unfold E75;rw[dK,dK,bS (by rw[E1];omega),E1,h];rfl
theorem U108{N:Nat}{A:Option Addr}{len cap rc rl u x:Nat}{nb:List Nat}(h:nb[u]? = some x):(E75 N A len cap nb rc rl)[2+u]? = some (.int .u32 (x:Int)):=by
 unfold E75;rw[show 2+u=u+1+1 by omega,dK,dK,bQ (by rw[E1];exact(aJ.1 h).1)];exact Q3 h
structure SV (H:Y0) (nx p rc rl N:Nat) (A:Option Addr) (cap:Nat) (es nb:List Nat) (L:Nat->Rat):Prop where
 hp:J0 H p=some (.cells (E75 N A es.length cap nb rc rl) 0)
 pn:p<nx
 rcn:rc<nx
 rln:rl<nx
 nbl:nb.length=32
 es':Sl H nx A (K12 es)
 cm:∃ M,U29 H rc M/\∀ n v,M n=some v->RR H nx v (D73 es N n)
 lm:∃ M,U29 H rl M/\∀ n v,M n=some v->RR H nx v (L n)
 ne:rc≠rl
theorem SV.pc{H:Y0}{nx p rc rl N:Nat}{A:Option Addr}{cap:Nat}{es nb:List Nat}{L:Nat->Rat}(h:SV H nx p rc rl N A cap es nb L):p≠rc:=by
 obtain⟨M,h1,_⟩:=h.cm;exact h1.is.ne (row:=E75 N A es.length cap nb rc rl) (by rw[Q5,h.hp];rfl)
theorem SV.pl{H:Y0}{nx p rc rl N:Nat}{A:Option Addr}{cap:Nat}{es nb:List Nat}{L:Nat->Rat}(h:SV H nx p rc rl N A cap es nb L):p≠rl:=by
 obtain⟨M,h1,_⟩:=h.lm;exact h1.is.ne (row:=E75 N A es.length cap nb rc rl) (by rw[Q5,h.hp];rfl)
theorem SV.ic{H:Y0}{nx p rc rl N:Nat}{A:Option Addr}{cap:Nat}{es nb:List Nat}{L:Nat->Rat}(h:SV H nx p rc rl N A cap es nb L):X51 H rc:=let ⟨_,h1,_⟩:=h.cm;h1.is
theorem SV.il{H:Y0}{nx p rc rl N:Nat}{A:Option Addr}{cap:Nat}{es nb:List Nat}{L:Nat->Rat}(h:SV H nx p rc rl N A cap es nb L):X51 H rl:=let ⟨_,h1,_⟩:=h.lm;h1.is
theorem SV.ext{H:Y0}{nx p rc rl N:Nat}{A:Option Addr}{cap:Nat}{es nb:List Nat}{L:Nat->Rat}{H':Y0}{nx':Nat}(h:SV H nx p rc rl N A cap es nb L)(e:D0 H nx H' nx'):SV H' nx' p rc rl N A cap es nb L:=by
 have:=e.le;have h1:=h.pn;have h2:=h.rcn;have h3:=h.rln;refine⟨(e.get p h1).trans h.hp,by omega,by omega,by omega,h.nbl,h.es'.ext e,?_,?_,h.ne⟩
 .obtain⟨M,a,b⟩:=h.cm
  exact⟨M,a.ext h2 e,fun n v hv=>(b n v hv).ext e⟩
 .obtain⟨M,a,b⟩:=h.lm
  exact⟨M,a.ext h3 e,fun n v hv=>(b n v hv).ext e⟩
theorem G82{v w:Value}{x y:Rat}{H:Y0}{nx:Nat}(hv:RR H nx v x)(hw:RR H nx w y)(hx:U15 x 100000)(hy:U15 y 100000):
  Q2 Tryz.prog 47 [v,w] H nx fun r H' nx'=>RR H' nx' r (gr x y)/\D0 H nx H' nx':=by
 obtain⟨c,rfl,hc⟩:=hv.num;obtain⟨d,rfl,hd⟩:=hw.num;refine spec47 ?_;unfold F47;have V:D0 H nx (hs (hs (hs H nx (some (.cells c 0))) (nx+1) (some (.cells d 0))) (nx+1+1) (some (.cells [.bool false,.slice none 0 0,.slice none 0 0] 0))) (nx+1+1+1):=
  (((D0.refl _ _).new _ (aD _) (m:=nx+1) (by omega)).new _ (by omega) (m:=nx+1+1) (by omega)).new _ (by omega) (by omega)
 have g1:J0 (hs (hs (hs H nx (some (.cells c 0))) (nx+1) (some (.cells d 0))) (nx+1+1) (some (.cells [.bool false,.slice none 0 0,.slice none 0 0] 0))) nx=some (.cells c 0):=by
  rw[Z1 _ (by omega),Z1 _ (by omega),Z11]
 have g2:J0 (hs (hs (hs H nx (some (.cells c 0))) (nx+1) (some (.cells d 0))) (nx+1+1) (some (.cells [.bool false,.slice none 0 0,.slice none 0 0] 0))) (nx+1)=some (.cells d 0):=by
  rw[Z1 _ (by omega),Z11]
 have g3:J0 (hs (hs (hs H nx (some (.cells c 0))) (nx+1) (some (.cells d 0))) (nx+1+1) (some (.cells [.bool false,.slice none 0 0,.slice none 0 0] 0))) (nx+1+1)=some (.cells [.bool false,.slice none 0 0,.slice none 0 0] 0):=Z11 _ _ _;simp(disch:=first|omega|assumption)only[W0,Q0.val,hc.one,hd.one,X15 hc,X15 hd];generalize hs (hs (hs H nx (some (.cells c 0))) (nx+1) (some (.cells d 0))) (nx+1+1) (some (.cells [.bool false,.slice none 0 0,.slice none 0 0] 0))=H3 at *
 refine R0 (X81 (hv.ext V) (hw.ext V) hx hy) ?_;rintro _ H4 a4 ⟨rfl,O⟩;have a3:=O.le;have E:=V.trans O;have a1:=(O.get nx (by omega)).trans g1;have a0:=(O.get (nx+1) (by omega)).trans g2;have Z:=(O.get (nx+1+1) (by omega)).trans g3;have W:∀ {z:Rat},U15 z 100000->U15 z 400000:=fun h=>⟨by have:=h.1;omega,by have:=h.2;omega⟩
 by_cases U:x<y
 .have hl:=D77.2 U
  simp(disch:=first|omega|assumption)only[W0,hl,a0,X15 hd];refine R0 (E71 (hw.ext E) (W hy)) ?_;rintro r H5 a2 ⟨hr,J⟩;have Q:=(J.get (nx+1+1) (by omega)).trans Z;obtain⟨e,rfl,he⟩:=hr.num;simp(disch:=first|omega|assumption)only[W0,Nat.reduceAdd,he.three,he.one,Q,G24 (show e.length=[dU false,.slice none 0 0,.slice none 0 0].length from he.three),X15 he];refine⟨?_,(E.trans J).hs (by omega)⟩;unfold gr;rw[if_pos U];exact hr.boxs Q (U47 rfl) (.inl rfl)
 .have hl:¬ N70 x y<0:=fun h=>U (D77.1 h)
  simp(disch:=first|omega|assumption)only[W0,hl,a1,X15 hc];refine R0 (E71 (hv.ext E) (W hx)) ?_;rintro r H5 a2 ⟨hr,J⟩;have Q:=(J.get (nx+1+1) (by omega)).trans Z;obtain⟨e,rfl,he⟩:=hr.num;simp(disch:=first|omega|assumption)only[W0,Nat.reduceAdd,he.three,he.one,Q,G24 (show e.length=[dU false,.slice none 0 0,.slice none 0 0].length from he.three),X15 he];refine⟨?_,(E.trans J).hs (by omega)⟩;unfold gr;rw[if_neg U];exact hr.boxs Q (U47 rfl) (.inl rfl)
theorem M93(N:Nat)(A:Option Addr)(len cap:Nat)(nb:List Nat)(rc rl:Nat)(k:VP):B10 (E75 N A len cap nb rc rl) 0 (some 2) k=k (.agg ⟨[.int .i64 (N:Int),.slice A len cap]⟩):=by
 rw[X21];simp[E75]
theorem E100(a b x y z:Value)(k:VP):B10 [a,b,x,y,z] 2 (some 3) k=k (.agg ⟨[x,y,z]⟩):=by
 rw[X21];simp
theorem Y87{H:Y0}{nx p rc rl N cap set:Nat}{A:Option Addr}{es nb:List Nat}{L:Nat->Rat}(h:SV H nx p rc rl N A cap es nb L)(hN:N<=8)(aa:∀ e ∈ es,e<2^N)(b5:es.length<=8)(ap:set<2^N)(b4:0<(V5 N set).length)
  (aq:∀ v,set.testBit v=true->∃ e ∈ es,e.testBit v=true):
  Q2 Tryz.prog 77 [.pointer (some ⟨p,0,none⟩),.int .u32 (set:Int)] H nx fun v H' nx'=>RR H' nx' v (Y74 es N set)/\SV H' nx' p rc rl N A cap es nb L/\Kp H nx rc rl H' nx':=by
 have bg:2^N<4294967296:=Y18 (by omega);have a2:set<4294967296:=by omega
 have a9:U14 es:=fun e he=>by have:=aa e he;omega
 have b3:N3 N es=0:=V11 (by omega) (by omega) fun i e he=>aa e (aH he)
 refine spec77 ?_;unfold F77;have ak:D0 H nx (hs H nx (some (.cells [.bool false,.slice none 0 0,.slice none 0 0] 0))) (nx+1):=(D0.refl _ _).new _ (aD _) (by omega);have g1:J0 (hs H nx (some (.cells [.bool false,.slice none 0 0,.slice none 0 0] 0))) nx=some (.cells [.bool false,.slice none 0 0,.slice none 0 0] 0):=Z11 _ _ _;have h1:=h.ext ak;simp(disch:=first|omega|assumption)only[W0,Q0.val,h1.hp,M93];generalize hs H nx (some (.cells [.bool false,.slice none 0 0,.slice none 0 0] 0))=H1 at *
 refine R0 (Z106 (by omega) a2 A es cap _ _ h1.es' a9 (by omega) b3) ?_;rintro _ H2 nx2 ⟨⟨x,rfl⟩,a8⟩;have bo:=a8.le;have J:=ak.trans a8;have h2:=h.ext J;have g2:=(a8.get nx (by omega)).trans g1
 cases ao:R10 es set with
 | true=>
  simp(disch:=first|omega|assumption)only[W0];refine R0 (R73 (n:=1) (by omega) (by omega) _ _) ?_;rintro r H3 bx ⟨hr,ab⟩;obtain⟨c,rfl,hc⟩:=hr.num;have g3:=(ab.get nx (by omega)).trans g2;simp(disch:=first|omega|assumption)only[W0,Nat.reduceAdd,hc.three,hc.one,g3,G24 (show c.length=[dU false,.slice none 0 0,.slice none 0 0].length from hc.three),X15 hc];have hE:=(J.trans ab).hs (i:=nx) (b:=some (.cells c 0)) (aD _);refine⟨?_,h.ext hE,hE.kp⟩;unfold Y74;rw[if_pos ao];exact hr.boxs g3 (U47 rfl) (.inl rfl)
 | false=>
  have au:Y74 es N set=D73 es N set:=by unfold Y74;rw[if_neg (by simp[ao])]
  obtain⟨M,hM,aw⟩:=h2.cm;have V:=J107 (N:=N) (A:=A) (len:=es.length) (cap:=cap) (rc:=rc) (rl:=rl) h2.nbl
  cases hk:M set with
  | some v=>
   have hv:=aw set v hk;obtain⟨c,rfl,hc⟩:=hv.num;simp(disch:=first|omega|assumption)only[W0,Nat.reduceAdd,h2.hp,V,hM.lkS hk,N13,hc.three,hc.one,G24 (show c.length=[dU false,.slice none 0 0,.slice none 0 0].length from hc.three),X15 hc,g2];have Z:D0 H2 nx2 (hs (hs H2 nx2 (some (.cells [.bool false,.slice none 0 0,.slice none 0 0] 0))) nx2 (some (.cells c 0))) (nx2+1):=((D0.refl _ _).new _ (aD _) (m:=nx2+1) (by omega)).new _ (by omega) (by omega);have g6:=(Z.get nx (by omega)).trans g2;have hE:=(J.trans Z).hs (i:=nx) (b:=some (.cells c 0)) (aD _);refine⟨?_,h.ext hE,hE.kp⟩;rw[au];exact(hv.ext Z).boxs g6 (U47 rfl) (.inl rfl)
  | none=>
   have Z:D0 H2 nx2 (hs (hs H2 nx2 (some (.cells [.bool false,.slice none 0 0,.slice none 0 0] 0))) nx2 (some (.cells [.bool false,.slice none 0 0,.slice none 0 0] 0))) (nx2+1):=((D0.refl _ _).new _ (aD _) (m:=nx2+1) (by omega)).new _ (by omega) (by omega);have ay:J0 (hs (hs H2 nx2 (some (.cells [.bool false,.slice none 0 0,.slice none 0 0] 0))) nx2 (some (.cells [.bool false,.slice none 0 0,.slice none 0 0] 0))) nx2=some (.cells [.bool false,.slice none 0 0,.slice none 0 0] 0):=Z11 _ _ _;have h6:=h2.ext Z;simp(disch:=first|omega|assumption)only[W0,Z0,Nat.reduceAdd,h2.hp,V,hM.lkN hk,D7];generalize hs (hs H2 nx2 (some (.cells [.bool false,.slice none 0 0,.slice none 0 0] 0))) nx2 (some (.cells [.bool false,.slice none 0 0,.slice none 0 0] 0))=H6 at *
   simp(disch:=first|omega|assumption)only[W0,N13,h6.hp,M93];refine R0 (Z111 hN h6.es' aa b5 ap b4 aq) ?_;rintro _ H8 E ⟨a7,AW,AP,lw,cw,lp,cp,t,Az,Cz,l,k,l',k',rfl,hz⟩;have bk:=a7.le;have al:=(a7.get nx2 (by omega)).trans ay;have a5:=Z.trans a7;have g8:=(a5.get nx (by omega)).trans g2;have a6:∀(a b c d e a' b' c' d' e':Value),B12 [a,b,c,d,e] 0 [a',b',c',d',e']=[a',b',c',d',e']:=fun _ _ _ _ _ _ _ _ _ _=>rfl
   have a0:D0 H8 E (hs (hs H8 E (some (.cells [.slice none 0 0,.slice none 0 0,.bool false,.slice none 0 0,.slice none 0 0] 0))) E (some (.cells [.slice AW lw cw,.slice AP lp cp,.bool t,.slice Az l k,.slice Cz l' k'] 0))) (E+1):=((D0.refl _ _).new _ (aD _) (m:=E+1) (by omega)).new _ (by omega) (by omega);have av:=(a0.get nx2 (by omega)).trans al;simp(disch:=first|omega|assumption)only[W0,Z0,Nat.reduceAdd,a6,E100,D7,al,Y12];generalize hs (hs H8 E (some (.cells [.slice none 0 0,.slice none 0 0,.bool false,.slice none 0 0,.slice none 0 0] 0))) E (some (.cells [.slice AW lw cw,.slice AP lp cp,.bool t,.slice Az l k,.slice Cz l' k'] 0))=H10 at *
   have Q:=a5.trans a0;have bv:=h2.ext Q;have ac:=hz.ext a0;have bw:=(Q.get nx (by omega)).trans g2;have U:D0 H2 nx2 (hs H10 nx2 (some (.cells [.bool t,.slice Az l k,.slice Cz l' k'] 0))) (E+1):=Q.hs (aD _);have a3:J0 (hs H10 nx2 (some (.cells [.bool t,.slice Az l k,.slice Cz l' k'] 0))) nx2=some (.cells [.bool t,.slice Az l k,.slice Cz l' k'] 0):=Z11 _ _ _;have a4:RR (hs H10 nx2 (some (.cells [.bool t,.slice Az l k,.slice Cz l' k'] 0))) (E+1) (.agg ⟨[.bool t,.slice Az l k,.slice Cz l' k']⟩) (D73 es N set):=ac.boxs av (U47 rfl) (.inl rfl);have O:=h2.ext U;have bc:=(U.get nx (by omega)).trans g2;generalize hs H10 nx2 (some (.cells [.bool t,.slice Az l k,.slice Cz l' k'] 0))=H11 at *
   obtain⟨M',ah,ai⟩:=O.cm;obtain⟨ML,ax,an⟩:=O.lm;have ba:=O.pc;have bz:=O.pl;have bt:=h2.rcn;have c3:=h.pn;have bd:=h.rcn;have bh:=h.rln;simp(disch:=first|omega|assumption)only[W0,O.hp,V];refine ah.put set _ fun a1 mc ae => ?_
   obtain⟨bf,bu,b8,_⟩:=ah;have ag:J0 (hs H11 rc (some (.map a1 mc))) nx2=_:=(Z1 _ (by omega)).trans a3;have ad:J0 (hs H11 rc (some (.map a1 mc))) nx=_:=(Z1 _ (by omega)).trans bc;simp(disch:=first|omega|assumption)only[W0,Z0,Nat.reduceAdd,ag,Y12,ad,D7];have W:∀ {v:Value} {x:Rat},RR H11 (E+1) v x->RR (hs (hs H11 rc (some (.map a1 mc))) nx (some (.cells [.bool t,.slice Az l k,.slice Cz l' k'] 0))) (E+1+7) v x:=fun hv=>
    ((hv.boxm b8).boxs ad (U47 rfl) (.inl rfl)).ext (D0.self (by omega))
   refine⟨by rw[au];exact W a4,⟨?_,by omega,by omega,by omega,h.nbl,?_,⟨_,ae.same (Z1 _ (by omega)),fun n v hv => ?_⟩,⟨ML,ax.same ?_,fun n v hv=>W (an n v hv)⟩,h.ne⟩,?_⟩
   .rw[Z1 _ (by omega),Z1 _ ba];exact O.hp
   .have az:Kp H nx rc rl (hs (hs H11 rc (some (.map a1 mc))) nx (some (.cells [.bool t,.slice Az l k,.slice Cz l' k'] 0))) (E+1+7):=((((J.trans U).kp).more (by omega)).hs (.inr (.inl rfl))).hs (.inl (aD _))
    exact h.es'.kp az h.ic h.il
   .by_cases aj:n=set
    .subst aj
     simp only[if_true] at hv
     cases hv
     exact W a4
    .simp only[aj,if_false] at hv
     exact W (ai n v hv)
   .rw[Z1 _ (by omega),Z1 _ (eT h.ne)]
   .exact((((J.trans U).kp).more (by omega)).hs (.inr (.inl rfl))).hs (.inl (aD _))
end Go.Proofs.YtoiioigihocgbaaGreatDoor
namespace Go.Clo
def tz(x:Nat):Nat:=((aY 32).find? fun i=>x.testBit i).getD 32
end Go.Clo
namespace Go.Proofs.YtoiioigihocgbaaGreatDoor
section
open Go.RowKit Go.Shelf Go.Clo
attribute [local go_sem] Oper.semAt_some
def tzi(x:Nat):Nat:=(bits BinOp.and eW x (4294967296-x)*125613361%4294967296/134217728).toNat
theorem E70{x:Nat}(h0:0<x)(O:x<64)(F:Fence)(n:Nat)(h:F.fn 73)(E:F.round=none)(w:World)(t:Nat)(hc:w.cell? ⟨0,tzi x,none⟩=some (.int .u8 (t:Int)))(ht:t<32):
  CallsIn F n Tryz.prog 73 #[.int .u32 (x:Int)] w fun e w'=>e = .returned (.int .i64 (t:Int))/\w'=w:=by
 have e1:eW.wrap (-(x:Int))=4294967296-(x:Int):=by
  simp only[eY,eK,dW];simp;omega
 have J:¬ (x:Int)=0:=by omega
 refine callsIn_of_wp Tryz.func73 rfl h ?_ E;simp only[Tryz.ntmps73,List.size_toArray,cV,List.length_nil,Nat.reduceAdd,Nat.reduceSub,Array.replicate_succ,Array.replicate_zero,List.push_toArray,List.append_toArray,eR,dL];have Q:w.cell? ⟨0,(bits BinOp.and eW x (4294967296-x)*125613361%4294967296/134217728).toNat,none⟩=some (.int .u8 (t:Int)):=hc;have hw:IntKind.i64.wrap (t:Int)=(t:Int):=by
  simp only[eY,eK,dW];simp;omega
 gi_wp2
 go_ret
 exact⟨by simp[],rfl⟩
end
end Go.Proofs.YtoiioigihocgbaaGreatDoor
namespace Go.Clo
theorem M100{P:Program}{f:FuncId}{args:List Value}{v:Value}(hE:Enters P f)(ha:args.all M4=true)(hv:X7 v=true)(h:∀ w,GlW w->Calls P f args.toArray w fun e w'=>e = .returned v/\w'=w)(H:Y0)(nx:Nat):
  Q2 P f args H nx fun r H' nx'=>v=r/\H=H'/\nx=nx':=by
 refine⟨v,H,nx,⟨hE,fun F E w hh hl => ?_⟩,rfl,rfl,rfl⟩;have e:=J19 hl ha;subst e;refine(h w hh.gl.1).mono fun e w' ⟨he,hw⟩ => ?_
 subst hw;exact⟨v,F,he,C6 F v hv,N2.refl hh⟩
theorem N43:∀ x,x<64->0<x->x.testBit (tz x)=true/\tz x<6:=by decide
theorem V33{x:Nat}(h:x<64)(h0:0<x):x.testBit (tz x)=true:=(N43 x h h0).1
theorem B54{x N:Nat}(h:x<64)(h0:0<x)(hN:x<2^N):tz x<N:=by
 refine aI fun hn => ?_
 have h1:=V33 h h0;rw[dV (aO hN (aK (n:=2) (by omega) (show N<=tz x by omega)))] at h1
 cases h1
def Z65(nb:List Nat)(gone v:Nat):Nat->Nat->Nat->Nat
 | 0,r,_=>r
 | f+1,r,b=>if b=0 then r else
  if tz b=v\/gone.testBit (tz b)=true then Z65 nb gone v f (r ||| 2^tz b) (Z2 b (2^tz b) ||| Z2 (nb.getD (tz b) 0) (r ||| 2^tz b))
  else Z65 nb gone v f (r ||| 2^tz b) (Z2 b (2^tz b))
def C78(nb:List Nat)(N v comp left:Nat):Nat:=Z2 (Z65 nb (Z2 comp left) v N 0 (2^v)) (Z2 comp left)
theorem N50{N r u:Nat}(hu:u<N)(hr:r.testBit u=false):(V5 N (r ||| 2^u)).length=(V5 N r).length+1:=by
 induction N with
 | zero=>omega
 | succ N ih=>
  rw[N37,N37,aV,aR]
  by_cases e:u=N
  .subst e
   have h1:V5 u (r ||| 2^u)=V5 u r:=by
    unfold V5;apply List.filter_congr;intro v hv;have:v<u:=cW.1 hv;rw[aV,aR];simp[show ¬ u=v by omega]
   simp[hr,h1]
  .have:=ih (by omega)
   cases hb:r.testBit N with
   | true=>simp[this]
   | false=>simp[show ¬ u=N from e,this]
theorem Q59{N r:Nat}(h:(V5 N r).length=N){v:Nat}(hv:v<N):r.testBit v=true:=by
 have h1:(V5 N r).length=(aY N).length:=by rw[h];simp
 have:=List.length_filter_eq_length_iff.1 h1;exact this v (cW.2 hv)
theorem Z26{a b N:Nat}(ha:a<2^N)(hb:b<2^N):a ||| b<2^N:=Nat.or_lt_two_pow ha hb
theorem R27{u N:Nat}(hu:u<N):2^u<2^N:=Nat.pow_lt_pow_right (by omega) hu
theorem X20 {N b r:Nat} (hb:b<2^N) (hd:∀ v,b.testBit v=true->r.testBit v=false) (hf:(V5 N r).length=N):b=0:=by
 apply Nat.eq_of_testBit_eq
 intro v
 rw[Nat.zero_testBit]
 cases hbv:b.testBit v with
 | false=>rfl
 | true=>
  have hv:v<N:=by
   refine Classical.byContradiction fun hn => ?_
   rw[Nat.testBit_lt_two_pow (Nat.lt_of_lt_of_le hb (Nat.pow_le_pow_right (n:=2) (by omega) (show N<=v by omega)))] at hbv
   cases hbv
  have:=hd v hbv
  rw[Q59 hf hv] at this
  cases this
end Go.Clo
namespace Go.Proofs.YtoiioigihocgbaaGreatDoor
open Go.Clo
theorem G58:∀ x,x<64->0<x->deB[tzi x]? = some (tz x):=by decide
theorem N65{w:World}(h:GlW w){i n:Nat}(hi:deB[i]? = some n):w.cell? ⟨0,i,none⟩=some (.int .u8 (n:Int)):=
 (h _ (dJ.2 rfl)).2 i _ (by simp[hi])
theorem D101:Go.Clo.Enters Tryz.prog 73:=⟨_,_,Tryz.func73,rfl,by kernel_rfl⟩
theorem C109{x:Nat}(h0:0<x)(E:x<64)(H:Y0)(nx:Nat):Q2 Tryz.prog 73 [.int .u32 (x:Int)] H nx fun r H' nx' => .int .i64 (tz x:Int)=r/\H=H'/\nx=nx':=by
 refine M100 D101 rfl rfl (fun w hg => ?_) H nx;exact callsIn_wide.1 (E70 h0 E _ 0 trivial rfl w (tz x) (N65 hg (G58 x E h0)) (by have:=(N43 x E h0).2;omega))
theorem V100 {H:Y0} {nx p rc rl N cap v comp left:Nat} {A:Option Addr} {es nb:List Nat} {L:Nat->Rat} (h:SV H nx p rc rl N A cap es nb L) (hN:N<=6) (hnb:∀ (u x:Nat),nb[u]? = some x->x<2^N) (hv:v<N) (hc:comp<2^N) (hl:left<2^N):
  Q2 Tryz.prog 81 [.pointer (some ⟨p,0,none⟩),.int .i64 (v:Int),.int .u32 (comp:Int),.int .u32 (left:Int)] H nx fun r H' nx'=>r = .int .u32 (C78 nb N v comp left:Int)/\D0 H nx H' nx':=by
 have hp64:2^N<=64:=Nat.pow_le_pow_right (n:=2) (by omega) hN
 have hg:Z2 comp left<2^N:=Z6 hc
 generalize hgone:Z2 comp left=gone at *
 have hc32:comp<4294967296:=by omega
 have M44:left<4294967296:=by omega
 have hg32:gone<4294967296:=by omega
 refine spec81 ?_
 unfold F81
 simp (disch:=first|omega|assumption|exact G0 (by assumption)|exact U10 (by assumption)|exact X0 (by omega)|fail) only[W0,hgone]
 refine B1 (m:=N) (fun f L H' nx'=>∃ r b:Nat,L=[.int .u32 (r:Int),.int .u32 (b:Int)]/\f+(V5 N r).length=N/\r<2^N/\b<2^N/\(∀ w,b.testBit w=true->r.testBit w=false)/\Z65 nb gone v f r b=Z65 nb gone v N 0 (2^v)/\D0 H nx H' nx') ?_
  ⟨0,2^v,rfl,by simp[V5],Nat.two_pow_pos _,R27 hv,fun w _=>by simp,rfl,D0.self (by omega)⟩
 rintro f ih L1 H1 nx1 ⟨r,b,rfl,hf,hr,hb,hd,hbs,hE⟩ hih
 by_cases hb0:b=0
 .subst hb0
  have hr32:r<4294967296:=by omega
  have hres:Z65 nb gone v N 0 (2^v)=r:=by
   rw[<- hbs]
   cases f with
   | zero=>rfl
   | succ f=>show (if 0=0 then r else _)=r;rw[if_pos rfl]
  simp (disch:=first|omega|assumption|exact G0 (by assumption)|exact U10 (by assumption)|exact X0 (by omega)|fail) only[W0,ne_eq,not_true_eq_false]
  refine⟨?_,hE⟩
  unfold C78
  rw[hgone,hres]
 have hb0':¬ (b:Int)=0:=by omega
 have hb64:b<64:=by omega
 have hu:=B54 hb64 (by omega) hb
 have hub:=V33 hb64 (by omega)
 have hru:=hd _ hub
 simp (disch:=first|omega|assumption|exact G0 (by assumption)|exact U10 (by assumption)|exact X0 (by omega)|fail) only[W0,ne_eq,hb0',not_false_eq_true]
 refine R0 (C109 (by omega) hb64 _ _) ?_
 rintro _ _ _ ⟨rfl,rfl,rfl⟩
 generalize hu':tz b=u at *
 have hf0:f≠0:=by
  rintro rfl
  exact hb0 (X20 hb hd (by omega))
 obtain⟨f',rfl⟩:∃ f',f=f'+1:=⟨f-1,by omega⟩
 have hlen:=N50 hu hru
 have hp32u:2^u<4294967296:=by have:=R27 hu;omega
 have hr32:r<4294967296:=by omega
 have hb32:b<4294967296:=by omega
 have hr2:r ||| 2^u<2^N:=Z26 hr (R27 hu)
 have hr232:r ||| 2^u<4294967296:=by omega
 have hbd:Z2 b (2^u)<2^N:=Z6 hb
 have hbd32:Z2 b (2^u)<4294967296:=by omega
 have hu32:u<32:=by omega
 obtain⟨x,hx⟩:∃ x,nb[u]? = some x:=⟨nb[u]'(by rw[h.nbl];exact hu32),List.getElem?_eq_getElem _⟩
 have hx2:=hnb u x hx
 have hxD:nb.getD u 0=x:=by simp[List.getD_eq_getElem?_getD,hx]
 have hx32:x<4294967296:=by omega
 have hnd32:Z2 x (r ||| 2^u)<4294967296:=U10 hx32
 have h1:=h.ext hE
 have hd2:∀ w,(Z2 b (2^u)).testBit w=true->(r ||| 2^u).testBit w=false:=fun w hw=>by
  rw[N1,Nat.testBit_two_pow] at hw
  rw[Nat.testBit_or,Nat.testBit_two_pow]
  simp at hw
  rw[hd w hw.1]
  simp[hw.2]
 have hd3:∀ w,(Z2 b (2^u) ||| Z2 x (r ||| 2^u)).testBit w=true->(r ||| 2^u).testBit w=false:=fun w hw=>by
  rw[Nat.testBit_or] at hw
  cases h1:(Z2 b (2^u)).testBit w with
  | true=>exact hd2 w h1
  | false=>
   rw[h1,N1] at hw
   simpa using (by simpa using hw:x.testBit w=true/\_).2
 have hstep:Z65 nb gone v (f'+1) r b=if u=v\/gone.testBit u=true then Z65 nb gone v f' (r ||| 2^u) (Z2 b (2^u) ||| Z2 x (r ||| 2^u)) else Z65 nb gone v f' (r ||| 2^u) (Z2 b (2^u)):=by
  show (if b=0 then r else _)=_
  rw[if_neg hb0,hu',hxD]
 rw[hstep] at hbs
 have hcell:=U108 (N:=N) (A:=A) (len:=es.length) (cap:=cap) (rc:=rc) (rl:=rl) hx
 by_cases hc1:u=v\/gone.testBit u=true
 .rw[if_pos hc1] at hbs
  have hb2:Z2 b (2^u) ||| Z2 x (r ||| 2^u)<2^N:=Z26 hbd (Z6 hx2)
  have hfin:=hih f' [.int .u32 ((r ||| 2^u:Nat):Int),.int .u32 ((Z2 b (2^u) ||| Z2 x (r ||| 2^u):Nat):Int)] H1 nx1 (by omega) ⟨_,_,rfl,by omega,hr2,hb2,hd3,hbs,hE⟩
  by_cases hc2:u=v
  .subst hc2
   simp (disch:=first|omega|assumption|exact G0 (by assumption)|exact U10 (by assumption)|exact X0 (by omega)|fail) only[W0,N13,h1.hp,hcell]
   exact hfin
  .have hg2:gone.testBit u=true:=hc1.resolve_left hc2
   have hc2':¬ (u:Int)=(v:Int):=by omega
   simp (disch:=first|omega|assumption|exact G0 (by assumption)|exact U10 (by assumption)|exact X0 (by omega)|fail) only[W0,N13,hc2',hg2,h1.hp,hcell]
   exact hfin
 .rw[if_neg hc1] at hbs
  have hfin:=hih f' [.int .u32 ((r ||| 2^u:Nat):Int),.int .u32 ((Z2 b (2^u):Nat):Int)] H1 nx1 (by omega) ⟨_,_,rfl,by omega,hr2,hbd,hd2,hbs,hE⟩
  have hc2':¬ (u:Int)=(v:Int):=by omega
  have hg2:gone.testBit u=false:=by simpa using fun hh=>hc1 (.inr hh)
  simp (disch:=first|omega|assumption|exact G0 (by assumption)|exact U10 (by assumption)|exact X0 (by omega)|fail) only[W0,N13,hc2',hg2]
  exact hfin
end Go.Proofs.YtoiioigihocgbaaGreatDoor
namespace Go.Clo
theorem Q41{x v:Nat}(h:x.testBit v=true):Z2 x (2^v)<x:=by
 have h1:Z2 x (2^v)<=x:=Nat.le_of_testBit fun i hi=>by
  rw[N1] at hi;simp at hi;exact hi.1
 have h2:Z2 x (2^v)≠x:=fun e=>by
  have:=N1 x (2^v) v;rw[e,h,aR] at this;simp at this
 omega
def Z75(w c:Rat)(acc:Option Rat):Option Rat:=match acc with
 | none=>some (gr w c)
 | some b=>if b<=w then some b else if gr w c<b then some (gr w c) else some b
def M45(N:Nat)(f:Nat->Nat->Rat)(left:Nat):Rat:=
 if left=0 then 0 else((aY N).foldl (fun acc v=>if h:left.testBit v=true then Z75 (M45 N f (Z2 left (2^v))) (f v left) acc else acc) none).getD 0
termination_by left
decreasing_by exact Q41 h
def M70(N:Nat)(f:Nat->Nat->Rat)(left i:Nat):Option Rat:=(aY i).foldl (fun acc v=>if left.testBit v=true then Z75 (M45 N f (Z2 left (2^v))) (f v left) acc else acc) none
theorem C77(N:Nat)(f:Nat->Nat->Rat)(left:Nat):M45 N f left=if left=0 then 0 else(M70 N f left N).getD 0:=by
 rw[M45]
 rfl
theorem M76(N:Nat)(f:Nat->Nat->Rat)(left i:Nat):M70 N f left (i+1)=if left.testBit i=true then Z75 (M45 N f (Z2 left (2^i))) (f i left) (M70 N f left i) else M70 N f left i:=by
 unfold M70;rw[List.range_succ,List.foldl_append]
 rfl
theorem U102 (w c : Rat) (acc : Option Rat) : ∃ b, Z75 w c acc = some b := by
  unfold Z75
  cases acc with
  | none => exact ⟨_, rfl⟩
  | some b => dsimp only; split; · exact ⟨_, rfl⟩
              split <;> exact ⟨_, rfl⟩
theorem Y84{N:Nat}{f:Nat->Nat->Rat}{left:Nat}:∀ {i:Nat},(∃ v,v<i/\left.testBit v=true)->∃ b,M70 N f left i=some b
 | 0,h=>by obtain⟨v,h,_⟩:=h;omega
 | i+1,h=>by
  rw[M76]
  by_cases hb:left.testBit i=true
  .rw[if_pos hb];exact U102 _ _ _
  .rw[if_neg hb]
   obtain⟨v,h1,h2⟩:=h;refine Y84 ⟨v,?_,h2⟩
   by_cases e:v=i
   .rw[e] at h2;exact absurd h2 hb
   .omega
theorem J99{w c:Rat}{acc:Option Rat}{L:Nat}(hw:U15 w L)(hc:U15 c L)(ha:∀ b,acc=some b->U15 b L):∀ b,Z75 w c acc=some b->U15 b L:=by
 intro b hb;unfold Z75 at hb
 cases acc with
 | none=>cases hb;exact E78 hw hc
 | some d=>
  dsimp only at hb
  split at hb
  .cases hb;exact ha _ rfl
  .split at hb
   .cases hb;exact E78 hw hc
   .cases hb;exact ha _ rfl
theorem K77{N:Nat}{f:Nat->Nat->Rat}{L:Nat}(h0:U15 0 L)(hf:∀ v l,U15 (f v l) L):∀(left:Nat),U15 (M45 N f left) L/\∀ i b,M70 N f left i=some b->U15 b L:=by
 intro left
 induction left using Nat.strongRecOn with
 | _ left ih=>
  have hS:∀ i b,M70 N f left i=some b->U15 b L:=by
   intro i
   induction i with
   | zero=>intro b hb;cases hb
   | succ i J=>
    intro b hb;rw[M76] at hb
    split at hb
    .rename_i E
     exact J99 (ih _ (Q41 E)).1 (hf _ _) J b hb
    .exact J b hb
  refine⟨?_,hS⟩;rw[C77]
  split
  .exact h0
  .cases hm:M70 N f left N with
   | none=>exact h0
   | some b=>exact hS N b hm
theorem R83(nb:List Nat)(gone v w:Nat):∀(f r b:Nat),r.testBit w=true->(Z65 nb gone v f r b).testBit w=true
 | 0,r,b,h=>h
 | f+1,r,b,h=>by
  show(if b=0 then r else _:Nat).testBit w=true
  split
  .exact h
  .have h2:(r ||| 2^tz b).testBit w=true:=by rw[aV,h];rfl
   split<;>exact R83 nb gone v w f _ _ h2
theorem N89{nb:List Nat}{N:Nat}(E:∀(u x:Nat),nb[u]? = some x->x<2^N)(J:2^N<=64)(gone v:Nat):∀(f r b:Nat),r<2^N->b<2^N->Z65 nb gone v f r b<2^N
 | 0,r,b,h,_=>h
 | f+1,r,b,h,hb=>by
  show(if b=0 then r else _:Nat)<2^N
  split
  .exact h
  .rename_i h0
   have hu:=R27 (B54 (show b<64 by omega) (by omega) hb);have h2:=Z26 h hu;have hx:nb.getD (tz b) 0<2^N:=by
    rw[aP]
    cases hg:nb[tz b]? with
    | none=>exact aQ _
    | some x=>exact E _ _ hg
   split
   .exact N89 E J gone v f _ _ h2 (Z26 (Z6 hb) (Z6 hx))
   .exact N89 E J gone v f _ _ h2 (Z6 hb)
theorem U101:∀ v,v<6->tz (2^v)=v:=by decide
theorem E92{nb:List Nat}{N v comp left:Nat}(hN:N<=6)(hv:v<N)(hl:left.testBit v=true):(C78 nb N v comp left).testBit v=true:=by
 unfold C78;rw[N1,N1,hl];obtain⟨n,rfl⟩:∃ n,N=n+1:=⟨N-1,by omega⟩
 have:(Z65 nb (Z2 comp left) v (n+1) 0 (2^v)).testBit v=true:=by
  show(if 2^v=0 then 0 else _:Nat).testBit v=true;rw[if_neg (by have:=aQ v;omega),U101 v (by omega),if_pos (.inl rfl)];refine R83 nb _ v v n _ _ ?_;rw[Nat.zero_or,aR];simp
 rw[this];simp
theorem R96{nb:List Nat}{N v comp left:Nat}(E:∀(u x:Nat),nb[u]? = some x->x<2^N)(hN:N<=6)(hv:v<N):C78 nb N v comp left<2^N:=
 Z6 (N89 E (aK (n:=2) (by omega) hN) _ v N 0 _ (aQ _) (R27 hv))
theorem U43{N s v:Nat}(hv:v<N)(h:s.testBit v=true):0<(V5 N s).length:=List.length_pos_of_mem (Q62.2 ⟨hv,h⟩)
theorem R106{x y:Rat}:0<=N70 x y<->y<=x:=by
 have:=@D77 x y
 constructor
 .intro h
  have:¬ x<y:=fun hh=>by have:=this.2 hh;omega
  grind
 .intro h
  refine aI fun hn => ?_
  have:=this.1 (by omega)
  grind
theorem J98{x y:Rat}:N70 x y<=0<->x<=y:=by
 unfold N70
 by_cases h:x<y
 .rw[if_pos h];simp;grind
 .rw[if_neg h]
  by_cases h2:y<x
  .rw[if_pos h2];simp;grind
  .rw[if_neg h2];simp;grind
end Go.Clo
namespace Go.Proofs.YtoiioigihocgbaaGreatDoor
open Go.Clo
theorem B65(es:List Nat)(N set:Nat)(h:es.length<=8):U15 (Y74 es N set) 100000:=by
 unfold Y74
 split
 .exact K84 _ (by omega)
 .exact Z100 es N set h
theorem Y75(L:Nat)(h:1<L):U15 0 L:=by
 have h1:(D11 1).length<=1:=E29 (by omega);have h0:(D11 0).length<=1:=E29 (by omega);exact⟨by show(D11 0).length<_;omega,by show(D11 1).length<_;omega⟩
def Y25(es nb:List Nat)(N comp v left:Nat):Rat:=Y74 es N (C78 nb N v comp left)
theorem Y85{l c x:Nat}(h:∀ w,l.testBit w=true->c.testBit w=true):∀ w,(Z2 l x).testBit w=true->c.testBit w=true:=fun w hw=>by
 rw[N1] at hw;simp at hw;exact h w hw.1
theorem SV.box{H:Y0}{nx p rc rl N:Nat}{A:Option Addr}{cap:Nat}{es nb:List Nat}{L:Nat->Rat}(h:SV H nx p rc rl N A cap es nb L){i:Nat}{l l':List Value}(hg:J0 H i=some (.cells l 0))(hr:noU l=true)(U:i≠p)(J:∀ B,Q5 H i=some B->noU B=true->∀ v ∈ K12 es,v ∉ B):SV (hs H i (some (.cells l' 0))) nx p rc rl N A cap es nb L:=by
 have O:i≠rc:=h.ic.ne (row:=l) (by rw[Q5,hg];rfl);have V:i≠rl:=h.il.ne (row:=l) (by rw[Q5,hg];rfl);refine⟨by rw[Z1 _ (eT U)];exact h.hp,h.pn,h.rcn,h.rln,h.nbl,fun j v hv => ?_,?_,?_,h.ne⟩
 .obtain⟨b,o,row,e1,e2,e3,e4⟩:=h.es' j v hv
  refine⟨b,o,row,e1,e2,?_,e4⟩;have Q:b≠i:=by
   rintro rfl;have E:row=l:=by rw[Q5,hg] at e3;exact(fA e3).symm
   subst E;exact J row e3 hr v (aH hv) (aH e4)
  rw[Q5,Z1 _ Q];exact e3
 .obtain⟨M,a,b⟩:=h.cm
  exact⟨M,a.same (Z1 _ (eT O)),fun n v hv=>(b n v hv).boxs hg (U47 hr) (.inl rfl)⟩
 .obtain⟨M,a,b⟩:=h.lm
  exact⟨M,a.same (Z1 _ (eT V)),fun n v hv=>(b n v hv).boxs hg (U47 hr) (.inl rfl)⟩
theorem SV.boxs{H:Y0}{nx p rc rl N:Nat}{A:Option Addr}{cap:Nat}{es nb:List Nat}{L:Nat->Rat}(h:SV H nx p rc rl N A cap es nb L){i:Nat}{l l':List Value}(hg:J0 H i=some (.cells l 0))(hr:noU l=true)(E:i≠p):SV (hs H i (some (.cells l' 0))) nx p rc rl N A cap es nb L:=by
 refine h.box hg hr E fun B hB O v hv J => ?_
 obtain⟨e,_,rfl⟩:=gN.1 hv;have:=bW.1 O _ J
 cases this
theorem V7.noU{c:List Value}(h:V7 c):noU c=true:=by obtain⟨s,A,l,k,C,l',k',rfl⟩:=h;rfl
end Go.Proofs.YtoiioigihocgbaaGreatDoor
namespace Go.Clo
def Q4(aL:List Nat)(b:Nat):Nat->Nat
 | 0=>0
 | v+1=>if b.testBit v=true then Q4 aL b v ||| aL.getD v 0 else Q4 aL b v
theorem Y7{aL:List Nat}{b w:Nat}:∀ {n:Nat},(Q4 aL b n).testBit w=true<->∃ u,u<n/\b.testBit u=true/\(aL.getD u 0).testBit w=true
 | 0=>by simp[Q4]
 | n+1=>by
  have ih:=@Y7 aL b w n;show(if b.testBit n=true then _ else _:Nat).testBit w=true<->_
  by_cases h:b.testBit n=true
  .rw[if_pos h,aV,cO,ih]
   constructor
   .rintro (⟨u,h1,h2,h3⟩ | h3)
    .exact⟨u,by omega,h2,h3⟩
    .exact⟨n,by omega,h,h3⟩
   .rintro⟨u,h1,h2,h3⟩
    by_cases e:u=n
    .subst e;exact .inr h3
    .exact .inl ⟨u,by omega,h2,h3⟩
  .rw[if_neg h,ih]
   constructor
   .rintro⟨u,h1,h2,h3⟩
    exact⟨u,by omega,h2,h3⟩
   .rintro⟨u,h1,h2,h3⟩
    refine⟨u,?_,h2,h3⟩
    by_cases e:u=n
    .subst e;exact absurd h2 h
    .omega
theorem Z14{aL:List Nat}{b N:Nat}(h:∀(u x:Nat),aL[u]? = some x->x<2^N):∀ n,Q4 aL b n<2^N
 | 0=>aQ _
 | n+1=>by
  show(if b.testBit n=true then _ else _:Nat)<2^N
  split
  .refine Z26 (Z14 h n) ?_
   rw[aP]
   cases hg:aL[n]? with
   | none=>exact aQ _
   | some x=>exact h _ _ hg
  .exact Z14 h n
def W7(aL:List Nat)(N:Nat):Nat->Nat->Nat->Nat
 | 0,c,_=>c
 | f+1,c,b=>if b=0 then c else W7 aL N f (c ||| b) (Z2 (Q4 aL b N) (c ||| b))
theorem K48(aL:List Nat)(N w:Nat):∀(f c b:Nat),c.testBit w=true->(W7 aL N f c b).testBit w=true
 | 0,c,b,h=>h
 | f+1,c,b,h=>by
  show(if b=0 then c else _:Nat).testBit w=true
  split
  .exact h
  .exact K48 aL N w f _ _ (by rw[aV,h];rfl)
theorem J50{aL:List Nat}{N:Nat}(h:∀(u x:Nat),aL[u]? = some x->x<2^N):∀(f c b:Nat),c<2^N->b<2^N->W7 aL N f c b<2^N
 | 0,c,b,hc,_=>hc
 | f+1,c,b,hc,hb=>by
  show(if b=0 then c else _:Nat)<2^N
  split
  .exact hc
  .exact J50 h f _ _ (Z26 hc hb) (Z6 (Z14 h N))
theorem R45{aL:List Nat}{N:Nat}(P:Nat->Prop)(hP:∀ u w,P u->(aL.getD u 0).testBit w=true->P w):∀(f c b:Nat),(∀ w,c.testBit w=true->P w)->(∀ w,b.testBit w=true->P w)->∀ w,(W7 aL N f c b).testBit w=true->P w
 | 0,c,b,hc,_=>hc
 | f+1,c,b,hc,hb=>by
  intro w hw;have E:(if b=0 then c else W7 aL N f (c ||| b) (Z2 (Q4 aL b N) (c ||| b)):Nat).testBit w=true:=hw
  split at E
  .exact hc w E
  .refine R45 P hP f _ _ (fun x hx => ?_) (fun x hx => ?_) w E
   .rw[aV,cO] at hx
    exact hx.elim (hc x) (hb x)
   .rw[N1,aG] at hx
    obtain⟨u,_,h2,h3⟩:=Y7.1 hx.1;exact hP u x (hb u h2) h3
theorem Z40{N a b:Nat}(h:∀ w,a.testBit w=true->b.testBit w=true):(V5 N a).length<=(V5 N b).length:=by
 unfold V5;rw[<- fS,<- fS];exact List.countP_mono_left fun x _ hx=>h x hx
theorem B14{b:Nat}(h:b≠0):∃ u,b.testBit u=true:=Nat.exists_testBit_of_ne_zero h
theorem R7{b N u:Nat}(hb:b<2^N)(h:b.testBit u=true):u<N:=by
 refine aI fun hn => ?_
 rw[dV (aO hb (aK (n:=2) (by omega) (show N<=u by omega)))] at h
 cases h
theorem R25{N c b:Nat}(hb:b<2^N)(h0:b≠0)(hd:∀ w,b.testBit w=true->c.testBit w=false):(V5 N c).length+1<=(V5 N (c ||| b)).length:=by
 obtain⟨u,hu⟩:=B14 h0;rw[<- N50 (R7 hb hu) (hd u hu)];refine Z40 fun w hw => ?_
 rw[aV,cO] at hw ⊢;rcases hw with h | h
 .exact .inl h
 .rw[aR] at h
  have:u=w:=by simpa using h
  subst this;exact .inr hu
theorem Q28{aL:List Nat}{N:Nat}(h:∀(u x:Nat),aL[u]? = some x->x<2^N):∀(f c b:Nat),N<=f+(V5 N c).length->b<2^N->(∀ w,b.testBit w=true->c.testBit w=false) ->
  (∀ u w,c.testBit u=true->(aL.getD u 0).testBit w=true->c.testBit w=true\/b.testBit w=true) ->
  ∀ u w,(W7 aL N f c b).testBit u=true->(aL.getD u 0).testBit w=true->(W7 aL N f c b).testBit w=true
 | 0,c,b,hf,hb,hd,hc=>by
  have h0:b=0:=X20 hb hd (by have:=Q15 N c;omega);subst h0;intro u w hu hw;have O:c.testBit u=true:=hu;rcases hc u w O hw with h | h
  .exact h
  .simp at h
 | f+1,c,b,hf,hb,hd,hc=>by
  intro u w hu hw
  by_cases h0:b=0
  .have e:W7 aL N (f+1) c b=c:=if_pos h0
   rw[e] at hu ⊢;rcases hc u w hu hw with h | h
   .exact h
   .rw[h0] at h;simp at h
  .have e:W7 aL N (f+1) c b=W7 aL N f (c ||| b) (Z2 (Q4 aL b N) (c ||| b)):=if_neg h0
   rw[e] at hu ⊢;have hg:=R25 hb h0 hd;refine Q28 h f _ _ (by omega) (Z6 (Z14 h N)) (fun x hx => ?_) (fun x y hx hy => ?_) u w hu hw
   .rw[N1,aG] at hx
    simpa using hx.2
   .rw[aV,cO] at hx
    by_cases J:(c ||| b).testBit y=true
    .exact .inl J
    .right
     rw[N1];have E:(c ||| b).testBit y=false:=by simpa using J
     rw[E];rcases hx with hx | hx
     .rcases hc x y hx hy with g | g
      .rw[aV,g] at E;simp at E
      .rw[aV,g] at E;simp at E
     .rw[Y7.2 ⟨x,R7 hb hx,hx,hy⟩];rfl
def R8(aL:List Nat)(N:Nat):Nat->Nat->List Nat
 | 0,_=>[]
 | f+1,l=>if l=0 then [] else W7 aL N N 0 (2^tz l) :: R8 aL N f (Z2 l (W7 aL N N 0 (2^tz l)))
theorem K52{aL:List Nat}{N v:Nat}(hN:0<N):(W7 aL N N 0 (2^v)).testBit v=true:=by
 obtain⟨n,rfl⟩:∃ n,N=n+1:=⟨N-1,by omega⟩
 show(if 2^v=0 then 0 else _:Nat).testBit v=true;rw[if_neg (by have:=aQ v;omega)];refine K48 aL _ v n _ _ ?_;rw[Nat.zero_or,aR];simp
structure V53 (aL:List Nat) (N v c:Nat):Prop where
 lt:c<2^N
 self:c.testBit v=true
 closed:∀ u w,c.testBit u=true->(aL.getD u 0).testBit w=true->c.testBit w=true
 least:∀ P:Nat->Prop,P v->(∀ u w,P u->(aL.getD u 0).testBit w=true->P w)->∀ w,c.testBit w=true->P w
theorem E65{aL:List Nat}{N v:Nat}(h:∀(u x:Nat),aL[u]? = some x->x<2^N)(hv:v<N):V53 aL N v (W7 aL N N 0 (2^v)):=
 ⟨J50 h N 0 _ (aQ _) (R27 hv),K52 (by omega),Q28 h N 0 _ (by omega) (R27 hv) (by simp) (by simp),fun P h0 hP=>R45 P hP N 0 _ (by simp) (fun w hw=>by
  rw[aR] at hw;have:v=w:=by simpa using hw
  subst this;exact h0)⟩
theorem X35{N l c v:Nat}(hv:v<N)(hl:l.testBit v=true)(hc:c.testBit v=true):(V5 N (Z2 l c)).length<(V5 N l).length:=by
 have h1:(Z2 l c).testBit v=false:=by rw[N1,hl,hc];rfl
 have h2:=N50 hv h1;have h3:(V5 N (Z2 l c ||| 2^v)).length<=(V5 N l).length:=Z40 fun w hw=>by
  rw[aV,cO] at hw;rcases hw with h | h
  .rw[N1,aG] at h;exact h.1
  .rw[aR] at h
   have:v=w:=by simpa using h
   subst this;exact hl
 omega
theorem C33{aL:List Nat}{N:Nat}(h:∀(u x:Nat),aL[u]? = some x->x<2^N)(W:2^N<=64)(O:∀ u w,(aL.getD u 0).testBit w=true->(aL.getD w 0).testBit u=true):
  ∀(f l:Nat),(V5 N l).length<=f->l<2^N->(∀ u w,l.testBit u=true->(aL.getD u 0).testBit w=true->l.testBit w=true) ->
  (∀ c ∈ R8 aL N f l,∃ v,v<N/\V53 aL N v c)/\(R8 aL N f l).Pairwise (fun c d=>∀ w,c.testBit w=true->d.testBit w=false) /\
  (∀ w,l.testBit w=true<->∃ c ∈ R8 aL N f l,c.testBit w=true)
 | 0,l,hf,hl,_=>by
  have h0:l=0:=by
   refine aI fun hn => ?_
   obtain⟨u,hu⟩:=B14 hn;have:=U43 (R7 hl hu) hu;omega
  subst h0;exact⟨by simp[R8],by simp[R8],by simp[R8]⟩
 | f+1,l,hf,hl,hcl=>by
  by_cases h0:l=0
  .have e:R8 aL N (f+1) l=[]:=if_pos h0
   rw[e,h0];exact⟨by simp,by simp,by simp⟩
  have e:R8 aL N (f+1) l=W7 aL N N 0 (2^tz l) :: R8 aL N f (Z2 l (W7 aL N N 0 (2^tz l))):=if_neg h0;rw[e];have hv:=B54 (N:=N) (by omega) (by omega) hl;have V:=V33 (x:=l) (by omega) (by omega);have hI:=E65 h hv;generalize tz l=v at *
  generalize W7 aL N N 0 (2^v)=c at *
  have hm:=X35 hv V hI.self;have Q:∀ u w,(Z2 l c).testBit u=true->(aL.getD u 0).testBit w=true->(Z2 l c).testBit w=true:=fun u w hu hw=>by
   rw[N1,aG] at hu;rw[N1,hcl u w hu.1 hw]
   cases J:c.testBit w with
   | false=>rfl
   | true=>
    have:=hI.closed w u J (O u w hw);rw[this] at hu;simp at hu
  obtain⟨h1,h2,h3⟩:=C33 h W O f (Z2 l c) (by omega) (Z6 hl) Q;have U:∀ w,c.testBit w=true->l.testBit w=true:=hI.least _ V hcl;refine⟨fun d hd => ?_,?_,fun w => ?_⟩
  .rcases aU.1 hd with rfl | hd
   .exact⟨v,hv,hI⟩
   .exact h1 d hd
  .refine List.Pairwise.cons (fun d hd w hw => ?_) h2
   cases E:d.testBit w with
   | false=>rfl
   | true=>
    have:=(h3 w).2 ⟨d,hd,E⟩;rw[N1,hw] at this;simp at this
  .constructor
   .intro hw
    cases J:c.testBit w with
    | true=>exact⟨c,by simp,J⟩
    | false=>
     obtain⟨d,hd,E⟩:=(h3 w).1 (by rw[N1,hw,J];rfl);exact⟨d,by simp[hd],E⟩
   .rintro⟨d,hd,E⟩
    rcases aU.1 hd with rfl | hd
    .exact U w E
    .have:=(h3 w).2 ⟨d,hd,E⟩
     rw[N1,aG] at this;exact this.1
def D14(es:List Nat)(s:Nat):List Nat:=es.filterMap fun e=>if e &&& s=0 then none else some (e &&& s)
theorem K46(es:List Nat)(s:Nat):(D14 es s).length<=es.length:=List.length_filterMap_le _ _
theorem U67 {es:List Nat} {s N:Nat} (h:∀ e ∈ es,e<2^N):∀ e ∈ D14 es s,e<2^N:=by
 intro e he
 obtain⟨x,hx,hy⟩:=List.mem_filterMap.1 he
 split at hy
 .cases hy
 .cases hy
  exact Nat.lt_of_le_of_lt Nat.and_le_left (h x hx)
end Go.Clo
namespace Go.Proofs.YtoiioigihocgbaaGreatDoor
open Go.Clo
theorem M58{es:List Nat}{i e:Nat}(s:Nat)(h:es[i]? = some e):D14 (es.take (i+1)) s=D14 (es.take i) s++(if e &&& s=0 then [] else [e &&& s]):=by
 unfold D14;rw[C7 h,List.filterMap_append];congr 1
 by_cases h0:e &&& s=0<;>simp[h0]
end Go.Proofs.YtoiioigihocgbaaGreatDoor
namespace Go.Clo
theorem Kp.cell{H:Y0}{nx p q:Nat}{H':Y0}{nx':Nat}(e:Kp H nx p q H' nx')(hp:X51 H p)(hq:X51 H q){i s:Nat}{c:List Value}(hi:i<nx)(hg:J0 H i=some (.cells c s)):J0 H' i=some (.cells c s):=
 (e.get i hi (hp.ne (row:=c) (by rw[Q5,hg];rfl)) (hq.ne (row:=c) (by rw[Q5,hg];rfl))).trans hg
end Go.Clo
namespace Go.Proofs.YtoiioigihocgbaaGreatDoor
open Go.Clo
theorem C89(N:Nat)(A:Option Addr)(len cap:Nat)(nb:List Nat)(rc rl:Nat):(E75 N A len cap nb rc rl)[0]? = some (.int .i64 (N:Int)):=rfl
structure V76 (H0:Y0) (nx p rc rl N:Nat) (A:Option Addr) (cap:Nat) (es nb:List Nat) (L:Nat->Rat) (acc:Option Rat) (H:Y0) (m:Nat):Prop where
 sv:SV H m p rc rl N A cap es nb L
 kp:Kp H0 nx rc rl H m
 b6:J0 H nx=some (.cells [.bool false,.slice none 0 0,.slice none 0 0] 0)
 b9:∃ c,V7 c/\J0 H (nx+1+1)=some (.cells c 0)/\∀ b,acc=some b->RR H m (.agg ⟨c⟩) b
 le:nx+1+1+1<=m
theorem V76.step{H0:Y0}{nx p rc rl N:Nat}{A:Option Addr}{cap:Nat}{es nb:List Nat}{L:Nat->Rat}{acc:Option Rat}{H:Y0}{m:Nat}{H':Y0}{m':Nat}(h:V76 H0 nx p rc rl N A cap es nb L acc H m)
  (e:Kp H m rc rl H' m')(s:SV H' m' p rc rl N A cap es nb L):V76 H0 nx p rc rl N A cap es nb L acc H' m':=by
 have J:=h.le;have E:=e.le;have hc:=h.sv.ic;have hl:=h.sv.il;obtain⟨c,h1,h2,h3⟩:=h.b9;refine⟨s,h.kp.trans e,?_,⟨c,h1,?_,fun b hb=>(h3 b hb).kp e hc hl⟩,by omega⟩
 .rw[e.get nx (by omega) (hc.ne (row:=[.bool false,.slice none 0 0,.slice none 0 0]) (by rw[Q5,h.b6];rfl)) (hl.ne (row:=[.bool false,.slice none 0 0,.slice none 0 0]) (by rw[Q5,h.b6];rfl))]
  exact h.b6
 .rw[e.get _ (by omega) (hc.ne (row:=c) (by rw[Q5,h2];rfl)) (hl.ne (row:=c) (by rw[Q5,h2];rfl))]
  exact h2
theorem V76.ext{H0:Y0}{nx p rc rl N:Nat}{A:Option Addr}{cap:Nat}{es nb:List Nat}{L:Nat->Rat}{acc:Option Rat}{H:Y0}{m:Nat}{H':Y0}{m':Nat}(h:V76 H0 nx p rc rl N A cap es nb L acc H m)
  (e:D0 H m H' m'):V76 H0 nx p rc rl N A cap es nb L acc H' m':=h.step e.kp (h.sv.ext e)
theorem V76.set{H0:Y0}{nx p rc rl N:Nat}{A:Option Addr}{cap:Nat}{es nb:List Nat}{L:Nat->Rat}{acc:Option Rat}{H:Y0}{m:Nat}(h:V76 H0 nx p rc rl N A cap es nb L acc H m)(hp:p<nx)
  {c:List Value}{x:Rat}(hc:V7 c)(hx:RR H m (.agg ⟨c⟩) x):V76 H0 nx p rc rl N A cap es nb L (some x) (hs H (nx+1+1) (some (.cells c 0))) m:=by
 obtain⟨d,h1,h2,h3⟩:=h.b9;refine⟨h.sv.boxs h2 (V7.noU h1) (by omega),h.kp.hs (.inl (by omega)),?_,⟨c,hc,Z11 _ _ _,?_⟩,h.le⟩
 .rw[Z1 _ (by omega)];exact h.b6
 .intro b hb
  cases hb
  exact hx.boxs h2 (W81 h1) (.inl rfl)
theorem V88 {p rc rl N cap comp:Nat} {A:Option Addr} {es nb:List Nat} {L:Nat->Rat} (hN:N<=6) (hsm:∀ e ∈ es,e<2^N) (hle:es.length<=8) (hnb:∀ (u x:Nat),nb[u]? = some x->x<2^N)
  (hcov:∀ w,w<N->∃ e ∈ es,e.testBit w=true) (hc:comp<2^N) (hL:∀ l,l≠0->(∀ w,l.testBit w=true->comp.testBit w=true)->L l=M45 N (Y25 es nb N comp) l):
  ∀ (left:Nat),left<2^N->(∀ w,left.testBit w=true->comp.testBit w=true)->∀ (H:Y0) (nx:Nat),SV H nx p rc rl N A cap es nb L ->
  Q2 Tryz.prog 48 [.pointer (some ⟨p,0,none⟩),.int .u32 (comp:Int),.int .u32 (left:Int)] H nx fun v H' nx'=>RR H' nx' v (M45 N (Y25 es nb N comp) left)/\SV H' nx' p rc rl N A cap es nb L/\Kp H nx rc rl H' nx':=by
 intro left
 induction left using Nat.strongRecOn with
 | _ left ih=>
 intro hl hlc H nx h
 have hp64:2^N<=64:=Nat.pow_le_pow_right (n:=2) (by omega) hN
 have hc32:comp<4294967296:=by omega
 have M44:left<4294967296:=by omega
 have hpn:=h.pn
 have hshort:∀ l,U15 (M45 N (Y25 es nb N comp) l) 100000:=fun l=>(K77 (Y75 _ (by omega)) (fun v l=>B65 es N _ hle) l).1
 have hshortS:∀ i b,M70 N (Y25 es nb N comp) left i=some b->U15 b 100000:=(K77 (Y75 _ (by omega)) (fun v l=>B65 es N _ hle) left).2
 refine spec48 ?_
 unfold F48
 have hE1:D0 H nx (hs H nx (some (.cells [.bool false,.slice none 0 0,.slice none 0 0] 0))) (nx+1):=(D0.refl _ _).new _ (Nat.le_refl _) (by omega)
 have g1:J0 (hs H nx (some (.cells [.bool false,.slice none 0 0,.slice none 0 0] 0))) nx=some (.cells [.bool false,.slice none 0 0,.slice none 0 0] 0):=Z11 _ _ _
 have h1:=h.ext hE1
 simp only[W1]
 rw[Q37]
 by_cases h0:left=0
 .subst h0
  simp (disch:=first|omega|assumption|exact G0 (by assumption)|exact U10 (by assumption)|exact X0 (by omega)|fail) only[W0,Q0.val]
  generalize hs H nx (some (.cells [.bool false,.slice none 0 0,.slice none 0 0] 0))=H1 at *
  refine R0 (R73 (n:=0) (by omega) (by omega) _ _) ?_
  rintro r H3 nx3 ⟨hr,hE3⟩
  obtain⟨c,rfl,hcc⟩:=hr.num
  have g3:=(hE3.get nx (by omega)).trans g1
  simp (disch:=first|omega|assumption|exact G0 (by assumption)|exact U10 (by assumption)|exact X0 (by omega)|fail) only[W0,Nat.reduceAdd,hcc.three,hcc.one,g3,G24 (show c.length=[Value.bool false,.slice none 0 0,.slice none 0 0].length from hcc.three),X15 hcc]
  have hE:=(hE1.trans hE3).hs (i:=nx) (b:=some (.cells c 0)) (Nat.le_refl _)
  refine⟨?_,h.ext hE,hE.kp⟩
  rw[C77,if_pos rfl]
  exact hr.boxs g3 (U47 rfl) (.inl rfl)
 have h0':¬ (left:Int)=0:=by omega
 obtain⟨M,hM,hMv⟩:=h1.lm
 have hl35:=Z97 (N:=N) (A:=A) (len:=es.length) (cap:=cap) (rc:=rc) (rl:=rl) h1.nbl
 cases hk:M left with
 | some v=>
  have hv:=hMv left v hk
  rw[hL left h0 hlc] at hv
  obtain⟨c,rfl,hcc⟩:=hv.num
  simp (disch:=first|omega|assumption|exact G0 (by assumption)|exact U10 (by assumption)|exact X0 (by omega)|fail) only[W0,Q0.val,Nat.reduceAdd,h0',h1.hp,hl35,hM.lkS hk,hcc.three,hcc.one,G24 (show c.length=[Value.bool false,.slice none 0 0,.slice none 0 0].length from hcc.three),X15 hcc,g1]
  generalize hs H nx (some (.cells [.bool false,.slice none 0 0,.slice none 0 0] 0))=H1 at *
  have hE6:D0 H1 (nx+1) (hs (hs H1 (nx+1) (some (.cells [.bool false,.slice none 0 0,.slice none 0 0] 0))) (nx+1) (some (.cells c 0))) (nx+1+1):=((D0.refl _ _).new _ (Nat.le_refl _) (m:=nx+1+1) (by omega)).new _ (by omega) (by omega)
  have g6:=(hE6.get nx (by omega)).trans g1
  have hE:=(hE1.trans hE6).hs (i:=nx) (b:=some (.cells c 0)) (Nat.le_refl _)
  refine⟨?_,h.ext hE,hE.kp⟩
  exact (hv.ext hE6).boxs g6 (U47 rfl) (.inl rfl)
 | none=>
  simp (disch:=first|omega|assumption|exact G0 (by assumption)|exact U10 (by assumption)|exact X0 (by omega)|fail) only[W0,Z0,Q0.val,Nat.reduceAdd,h0',h1.hp,hl35,hM.lkN hk,D7]
  generalize hs H nx (some (.cells [.bool false,.slice none 0 0,.slice none 0 0] 0))=H1 at *
  have hE7:D0 H1 (nx+1) (hs (hs (hs H1 (nx+1) (some (.cells [.bool false,.slice none 0 0,.slice none 0 0] 0))) (nx+1) (some (.cells [.bool false,.slice none 0 0,.slice none 0 0] 0))) (nx+1+1) (some (.cells [.bool false,.slice none 0 0,.slice none 0 0] 0))) (nx+1+1+1):=
   (((D0.refl _ _).new _ (Nat.le_refl _) (m:=nx+1+1) (by omega)).new _ (by omega) (m:=nx+1+1) (by omega)).new _ (by omega) (by omega)
  have g7:J0 (hs (hs (hs H1 (nx+1) (some (.cells [.bool false,.slice none 0 0,.slice none 0 0] 0))) (nx+1) (some (.cells [.bool false,.slice none 0 0,.slice none 0 0] 0))) (nx+1+1) (some (.cells [.bool false,.slice none 0 0,.slice none 0 0] 0))) (nx+1+1)=some (.cells [.bool false,.slice none 0 0,.slice none 0 0] 0):=Z11 _ _ _
  have g76:=(hE7.get nx (by omega)).trans g1
  have h7:=h1.ext hE7
  simp (disch:=first|omega|assumption|exact G0 (by assumption)|exact U10 (by assumption)|exact X0 (by omega)|fail) only[W0,C89]
  generalize hs (hs (hs H1 (nx+1) (some (.cells [.bool false,.slice none 0 0,.slice none 0 0] 0))) (nx+1) (some (.cells [.bool false,.slice none 0 0,.slice none 0 0] 0))) (nx+1+1) (some (.cells [.bool false,.slice none 0 0,.slice none 0 0] 0))=H7 at *
  have hst:V76 H nx p rc rl N A cap es nb L none H7 (nx+1+1+1):=
   ⟨h7,(hE1.trans hE7).kp,g76,⟨_,⟨_,_,_,_,_,_,_,rfl⟩,g7,fun b hb=>by cases hb⟩,Nat.le_refl _⟩
  have hs0:([.bool false,.int .i64 0]:List Value)=[.bool (M70 N (Y25 es nb N comp) left 0).isSome,.int .i64 ((0:Nat):Int)]:=rfl
  have hm0:V76 H nx p rc rl N A cap es nb L (M70 N (Y25 es nb N comp) left 0) H7 (nx+1+1+1):=hst
  rw[hs0]
  clear hs0 hst
  refine B1 (m:=N) (fun f L1 H' nx'=>∃ i,f+i=N/\L1=[.bool (M70 N (Y25 es nb N comp) left i).isSome,.int .i64 (i:Int)]/\V76 H nx p rc rl N A cap es nb L (M70 N (Y25 es nb N comp) left i) H' nx') ?_ ⟨0,by omega,rfl,hm0⟩
  rintro f ih1 L1 H2 nx2 ⟨i,hf,rfl,hI⟩ hih
  have hnoc:∀ {c:List Value} (k:VP),V7 c->B10 c 0 (some 3) k=k (.agg ⟨c⟩):=fun k hc=>X15 hc k
  by_cases hi:i<N
  case neg=>
   obtain rfl:i=N:=by omega
   have hi':¬ (i:Int)<(i:Int):=by omega
   obtain⟨u,hu⟩:=Nat.exists_testBit_of_ne_zero h0
   have hu2:u<i:=by
    refine Classical.byContradiction fun hn => ?_
    rw[Nat.testBit_lt_two_pow (Nat.lt_of_lt_of_le hl (Nat.pow_le_pow_right (n:=2) (by omega) (show i<=u by omega)))] at hu
    cases hu
   obtain⟨b,hb⟩:=Y84 (N:=i) (f:=Y25 es nb i comp) (left:=left) ⟨u,hu2,hu⟩
   have hres:M45 i (Y25 es nb i comp) left=b:=by rw[C77,if_neg h0,hb];rfl
   rw[hb] at hI
   clear hih
   have hI':=hI.ext (D0.self (m:=nx2+7) (by omega))
   obtain⟨c9,hc9,g9,hb9⟩:=hI'.b9
   have hbR:=hb9 b rfl
   have g6:=hI'.b6
   have hsv:=hI'.sv
   have hkp:=hI'.kp
   have hle2:=hI.le
   obtain⟨ML,hML,hMLv⟩:=hsv.lm
   obtain⟨MC,hMC,hMCv⟩:=hsv.cm
   have hl35':=Z97 (N:=i) (A:=A) (len:=es.length) (cap:=cap) (rc:=rc) (rl:=rl) hsv.nbl
   have hrl0:=h.rln
   have hrc0:=h.rcn
   simp (disch:=first|omega|assumption|exact G0 (by assumption)|exact U10 (by assumption)|exact X0 (by omega)|fail) only[W0,hi',hsv.hp,hl35',g9,X15 hc9]
   refine hML.put left _ fun mes mc hput => ?_
   obtain⟨mes0,mc0,hgm,_⟩:=hML
   have g9':J0 (hs H2 rl (some (.map mes mc))) (nx+1+1)=_:=(Z1 _ (by omega)).trans g9
   have g6':J0 (hs H2 rl (some (.map mes mc))) nx=_:=(Z1 _ (by omega)).trans g6
   simp (disch:=first|omega|assumption|exact G0 (by assumption)|exact U10 (by assumption)|exact X0 (by omega)|fail) only[W0,Nat.reduceAdd,g9',X15 hc9,hc9.three,hc9.one,g6',G24 (show c9.length=[Value.bool false,.slice none 0 0,.slice none 0 0].length from hc9.three)]
   have hbox:∀ {v:Value} {x:Rat},RR H2 (nx2+7) v x->RR (hs (hs H2 rl (some (.map mes mc))) nx (some (.cells c9 0))) (nx2+7) v x:=fun hv=>
    (hv.boxm hgm).boxs g6' (U47 rfl) (.inl rfl)
   have hk2:Kp H nx rc rl (hs (hs H2 rl (some (.map mes mc))) nx (some (.cells c9 0))) (nx2+7):=(hkp.hs (.inr (.inr rfl))).hs (.inl (Nat.le_refl _))
   have hpl:=h.pl
   rw[hres]
   refine⟨hbox hbR,⟨?_,by omega,by omega,by omega,h.nbl,h.es'.kp hk2 h.ic h.il,⟨MC,hMC.same ?_,fun n v hv=>hbox (hMCv n v hv)⟩,⟨_,hput.same (Z1 _ (by omega)),fun n v hv => ?_⟩,h.ne⟩,hk2⟩
   .rw[Z1 _ (by omega),Z1 _ hpl];exact hsv.hp
   .rw[Z1 _ (by omega),Z1 _ h.ne]
   .by_cases hns:n=left
    .subst hns
     simp only[if_true] at hv
     cases hv
     rw[hL n h0 hlc,hres]
     exact hbox hbR
    .simp only[hns,if_false] at hv
     exact hbox (hMLv n v hv)
  have hi':(i:Int)<(N:Int):=by omega
  have hi32:i<32:=by omega
  simp (disch:=first|omega|assumption|exact G0 (by assumption)|exact U10 (by assumption)|exact X0 (by omega)|fail) only[W0,hi']
  refine N5 (fun L' H' nx'=>L'=[.bool (M70 N (Y25 es nb N comp) left (i+1)).isSome]/\V76 H nx p rc rl N A cap es nb L (M70 N (Y25 es nb N comp) left (i+1)) H' nx') (fun j hj => ?_) ?_
  case refine_2=>
   rintro _ H3 nx3 ⟨rfl,hI3⟩
   simp (disch:=first|omega|assumption|exact G0 (by assumption)|exact U10 (by assumption)|exact X0 (by omega)|fail) only[W0]
   exact hih (f-1) _ _ _ (by omega) ⟨i+1,by omega,by simp,hI3⟩
  clear hih ih1
  cases hb:left.testBit i with
  | false=>
   have hsame:M70 N (Y25 es nb N comp) left (i+1)=M70 N (Y25 es nb N comp) left i:=by rw[M76,if_neg (by simp[hb])]
   rw[hsame] at hj
   simp (disch:=first|omega|assumption|exact G0 (by assumption)|exact U10 (by assumption)|exact X0 (by omega)|fail) only[W0]
   exact hj _ _ _ ⟨rfl,hI⟩
  | true=>
   have hp32:2^i<4294967296:=by have:=R27 hi;omega
   have hnd32:Z2 left (2^i)<4294967296:=U10 M44
   have hnext:M70 N (Y25 es nb N comp) left (i+1)=Z75 (M45 N (Y25 es nb N comp) (Z2 left (2^i))) (Y25 es nb N comp i left) (M70 N (Y25 es nb N comp) left i):=by rw[M76,if_pos hb]
   rw[hnext] at hj
   have hacS:=hshortS i
   generalize M70 N (Y25 es nb N comp) left i=acc at *
   have hwS:=hshort (Z2 left (2^i))
   simp (disch:=first|omega|assumption|exact G0 (by assumption)|exact U10 (by assumption)|exact X0 (by omega)|fail) only[W0]
   refine R0 (ih _ (Q41 hb) (Z6 hl) (Y85 hlc) H2 nx2 hI.sv) ?_
   generalize M45 N (Y25 es nb N comp) (Z2 left (2^i))=w at *
   rintro v3 H3 nx3 ⟨hv3,hs3,hk3⟩
   have hI3:=hI.step hk3 hs3
   have hle3:=hI3.le
   obtain⟨c3,rfl,hc3⟩:=hv3.num
   simp (disch:=first|omega|assumption|exact G0 (by assumption)|exact U10 (by assumption)|exact X0 (by omega)|fail) only[W0,Nat.reduceAdd,hc3.three,hc3.one,G24 (show c3.length=[Value.bool false,.slice none 0 0,.slice none 0 0].length from hc3.three)]
   have hE4:D0 H3 nx3 (hs (hs H3 nx3 (some (.cells [.bool false,.slice none 0 0,.slice none 0 0] 0))) nx3 (some (.cells c3 0))) (nx3+1):=((D0.refl _ _).new _ (Nat.le_refl _) (m:=nx3+1) (by omega)).hs (Nat.le_refl _)
   have g4:J0 (hs (hs H3 nx3 (some (.cells [.bool false,.slice none 0 0,.slice none 0 0] 0))) nx3 (some (.cells c3 0))) nx3=some (.cells c3 0):=Z11 _ _ _
   generalize hs (hs H3 nx3 (some (.cells [.bool false,.slice none 0 0,.slice none 0 0] 0))) nx3 (some (.cells c3 0))=H4 at *
   have hI4:=hI3.ext hE4
   have hv4:=hv3.ext hE4
   refine N5 (fun L' H' nx'=>(∃ q,L'=[.bool q]/\(q=true<->∃ b,acc=some b/\b<=w))/\D0 H4 (nx3+1) H' nx') (fun j5 hj5 => ?_) ?_
   case refine_1=>
    cases acc with
    | none=>
     simp (disch:=first|omega|assumption|exact G0 (by assumption)|exact U10 (by assumption)|exact X0 (by omega)|fail) only[W0,Option.isSome]
     exact hj5 _ _ _ ⟨⟨false,rfl,by simp⟩,D0.refl _ _⟩
    | some b=>
     obtain⟨c9,hc9,g9,hb9⟩:=hI3.b9
     have hbR:=(hb9 b rfl).ext hE4
     simp (disch:=first|omega|assumption|exact G0 (by assumption)|exact U10 (by assumption)|exact X0 (by omega)|fail) only[W0,Option.isSome,g9,X15 hc3,X15 hc9]
     refine R0 (X81 hv4 hbR hwS (hacS _ rfl)) ?_
     rintro _ H5 nx5 ⟨rfl,hE5⟩
     simp (disch:=first|omega|assumption|exact G0 (by assumption)|exact U10 (by assumption)|exact X0 (by omega)|fail) only[W0]
     exact hj5 _ _ _ ⟨⟨_,rfl,by simp[R106]⟩,hE5⟩
   rintro _ H5 nx5 ⟨⟨q,rfl,hq⟩,hE5⟩
   have hI5:=hI4.ext hE5
   have g5:=(hE5.get nx3 (by omega)).trans g4
   have hle5:=hE5.le
   cases q with
   | true=>
    obtain⟨b,rfl,hbw⟩:=hq.1 rfl
    simp (disch:=first|omega|assumption|exact G0 (by assumption)|exact U10 (by assumption)|exact X0 (by omega)|fail) only[W0]
    refine hj _ _ _ ⟨?_,?_⟩
    .simp[Z75,hbw]
    .rw[show Z75 w (Y25 es nb N comp i left) (some b)=some b from if_pos hbw]
     exact hI5
   | false=>
    have hnq:∀ b,acc=some b->¬ b<=w:=fun b hb hbw=>by have:=hq.2 ⟨b,hb,hbw⟩;cases this
    have hE5':D0 H4 (nx3+1) H5 (nx5+10):=hE5.more (by omega)
    have h5':=(hI4.ext hE5').sv
    simp (disch:=first|omega|assumption|exact G0 (by assumption)|exact U10 (by assumption)|exact X0 (by omega)|fail) only[W0,g5,X15 hc3]
    refine R0 (V100 h5' hN hnb hi hc hl) ?_
    rintro _ H6 nx6 ⟨rfl,hE6⟩
    have h6:=h5'.ext hE6
    have g6:=(hE6.get nx3 (by omega)).trans g5
    have hle6:=hE6.le
    have hbl:=R96 (nb:=nb) (v:=i) (comp:=comp) (left:=left) hnb hN hi
    have hbs:=E92 (nb:=nb) (comp:=comp) hN hi hb
    refine R0 (Y87 h6 (by omega) hsm hle hbl (U43 hi hbs) fun v hv=>hcov v ?_) ?_
    .refine Classical.byContradiction fun hn => ?_
     rw[Nat.testBit_lt_two_pow (Nat.lt_of_lt_of_le hbl (Nat.pow_le_pow_right (n:=2) (by omega) (show N<=v by omega)))] at hv
     cases hv
    rintro v7 H7 nx7 ⟨hv7,hs7,hk7⟩
    have hv47:=((hv4.ext hE5').ext hE6).kp hk7 h6.ic h6.il
    have g7:=hk7.cell h6.ic h6.il (by omega) g6
    have hle7:=hk7.le
    refine R0 (G82 hv47 hv7 hwS (B65 _ _ _ hle)) ?_
    rw[show Y74 es N (C78 nb N i comp left)=Y25 es nb N comp i left from rfl]
    have hcS:U15 (Y25 es nb N comp i left) 100000:=B65 _ _ _ hle
    generalize Y25 es nb N comp i left=cv at *
    rintro v8 H8 nx8 ⟨hv8,hE8⟩
    obtain⟨c8,rfl,hc8⟩:=hv8.num
    have g8:=(hE8.get nx3 (by omega)).trans g7
    have hs8:=hs7.ext hE8
    have hle8:=hE8.le
    simp (disch:=first|omega|assumption|exact G0 (by assumption)|exact U10 (by assumption)|exact X0 (by omega)|fail) only[W0,hc8.three,hc8.one,g8,G24 (show c8.length=c3.length by rw[hc8.three,hc3.three]),g7,g6,X15 hc3]
    have hI8:=hI3.step ((((hE4.kp.trans hE5'.kp).trans hE6.kp).trans hk7).trans hE8.kp) hs8
    have hk9:Kp H3 nx3 rc rl (hs H8 nx3 (some (.cells c8 0))) nx8:=((((hE4.kp.trans hE5'.kp).trans hE6.kp).trans hk7).trans hE8.kp).hs (.inl (Nat.le_refl _))
    have hs9:=hs8.boxs (l':=c8) g8 (V7.noU hc3) (by have:=hs3.pn;omega)
    have hv9:=hv8.boxs (row':=c8) g8 (W81 hc3) (.inl rfl) (s':=0)
    have hI9:=hI3.step hk9 hs9
    have hb89:∀ v x,RR H8 nx8 v x->RR (hs H8 nx3 (some (.cells c8 0))) nx8 v x:=fun v x hh=>hh.boxs g8 (W81 hc3) (.inl rfl)
    have g9':J0 (hs H8 nx3 (some (.cells c8 0))) nx3=some (.cells c8 0):=Z11 _ _ _
    generalize hs H8 nx3 (some (.cells c8 0))=H9 at *
    have hgS:=E78 hwS hcS
    refine⟨by rw[hc3.three];omega,?_⟩
    refine N5 (fun L' H' nx'=>(∃ q,L'=[.bool q]/\(q=true<->∀ b,acc=some b->gr w cv<b))/\D0 H9 nx8 H' nx') (fun j10 hj10 => ?_) ?_
    case refine_1=>
     cases acc with
     | none=>
      simp (disch:=first|omega|assumption|exact G0 (by assumption)|exact U10 (by assumption)|exact X0 (by omega)|fail) only[W0,Option.isSome]
      exact hj10 _ _ _ ⟨⟨true,rfl,by simp⟩,D0.refl _ _⟩
     | some b=>
      obtain⟨c9,hc9,g9,hb9⟩:=hI8.b9
      have hbR:=hb89 _ _ (hb9 b rfl)
      simp (disch:=first|omega|assumption|exact G0 (by assumption)|exact U10 (by assumption)|exact X0 (by omega)|fail) only[W0,Option.isSome,g9,X15 hc8,X15 hc9]
      refine R0 (X81 hv9 hbR hgS (hacS _ rfl)) ?_
      rintro _ H10 nx10 ⟨rfl,hE10⟩
      simp (disch:=first|omega|assumption|exact G0 (by assumption)|exact U10 (by assumption)|exact X0 (by omega)|fail) only[W0]
      exact hj10 _ _ _ ⟨⟨_,rfl,by simp[D77]⟩,hE10⟩
    rintro _ H10 nx10 ⟨⟨q,rfl,hq2⟩,hE10⟩
    have hI10:=hI9.ext hE10
    have g10:=(hE10.get nx3 (by omega)).trans g9'
    cases q with
    | true=>
     have hst:Z75 w cv acc=some (gr w cv):=by
      cases acc with
      | none=>rfl
      | some b=>
       show (if b<=w then _ else _)=_
       rw[if_neg (hnq b rfl),if_pos (hq2.1 rfl b rfl)]
     obtain⟨c9,hc9,g9,hb9⟩:=hI10.b9
     simp (disch:=first|omega|assumption|exact G0 (by assumption)|exact U10 (by assumption)|exact X0 (by omega)|fail) only[W0,g10,X15 hc8,hc8.three,hc8.one,g9,G24 (show c8.length=c9.length by rw[hc8.three,hc9.three])]
     refine⟨by rw[hc9.three];omega,hj _ _ _ ?_⟩
     rw[hst]
     exact⟨rfl,hI10.set hpn hc8 (hv9.ext hE10)⟩
    | false=>
     have hst:Z75 w cv acc=acc:=by
      cases acc with
      | none=>have:=hq2.2 (by simp);cases this
      | some b=>
       show (if b<=w then _ else _)=_
       have:¬ gr w cv<b:=fun hh=>by have:=hq2.2 (fun b' e=>by cases e;exact hh);cases this
       rw[if_neg (hnq b rfl),if_neg this]
     simp (disch:=first|omega|assumption|exact G0 (by assumption)|exact U10 (by assumption)|exact X0 (by omega)|fail) only[W0]
     refine hj _ _ _ ?_
     rw[hst]
     exact⟨rfl,hI10⟩
end Go.Proofs.YtoiioigihocgbaaGreatDoor
