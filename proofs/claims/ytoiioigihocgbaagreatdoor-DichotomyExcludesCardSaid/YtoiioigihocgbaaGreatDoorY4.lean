/-
Contract: simplex.pivot.
-/
import Derived.Test.YtoiioigihocgbaaGreatDoorY3
import Derived.Test.YtoiioigihocgbaaGreatDoorY2
import Derived.MapKept
import Derived.KernelRfl
import GoSem.Claim
import Derived.Laws.BitsAllLaws
import Derived.Shelf.Abstract
import Derived.WalkKit
import Derived.OwnWalkIn
import Derived.TacticsInMore
import Derived.LoopNIn
import Derived.LoopIn
import Derived.Test.YtoiioigihocgbaaGreatDoorProg
import Derived.Test.YtoiioigihocgbaaGreatDoorY1
set_option maxHeartbeats 8000000
set_option maxRecDepth 100000
set_option linter.all false
noncomputable section
open Bool renaming and_eq_true->aG,eq_false_iff->bN,eq_iff_iff->eX,or_eq_true->cO
open Classical renaming byContradiction->aI
open Go.Instr renaming findNow->dP
open Go.IntKind renaming bits->dW,signed->eK,u32->eW,wrap->eY
open Go.Proofs.Tryz renaming prog->gQ
open Go.Value renaming bool->dU,int->cD
open Int renaming eq_ofNat_of_zero_le->fI
open List renaming all_eq_true->iE,any_eq_true->dY,cons_append->dL,countP_eq_length_filter->fS,ext_getElem?->dH,foldl_cons->dF,getD_cons_succ->gD,getD_cons_zero->fZ,getD_eq_getElem?_getD->aP,getElem?_append_left->bQ,getElem?_append_right->bS,getElem?_cons_succ->dK,getElem?_eq_getElem->aE,getElem?_eq_none->aT,getElem?_eq_some_iff->aJ,getElem?_map->cP,getElem?_of_mem->cH,getElem?_set->cQ,getElem_of_mem->gL,length_append->bH,length_cons->cV,length_replicate->iC,length_set->dO,length_take->cK,mem_append->dN,mem_append_left->dX,mem_cons->aU,mem_cons_of_mem->eJ,mem_map->gN,mem_of_getElem?->aH,mem_of_mem_drop->fO,mem_range->cW,mem_singleton->dJ,nil_append->eR,nodup_append->gT,pairwise_iff_getElem->fD,range->aY,replicate->aF,take_of_length_le->gJ
open Nat renaming add_mul->dM,blt->dE,eq_of_testBit_eq->bZ,eq_zero_or_pos->cI,le_refl->aD,le_trans->bK,lt_of_le_of_lt->iF,lt_of_lt_of_le->aO,lt_or_ge->aW,mod_two_eq_zero_or_one->dZ,mul_comm->cG,mul_le_mul_left->bG,mul_one->eQ,pow_le_pow_right->aK,pow_succ->dR,testBit_and->bI,testBit_lt_two_pow->dV,testBit_or->aV,testBit_two_pow->aR,testBit_two_pow_sub_one->dC,two_pow_pos->aQ,zero_add->cF,zero_testBit->jQ
open Ne renaming symm->eT
open Option renaming elim_some->aN
open Option.some renaming inj->fA
open Rat renaming mul_nonneg->fY
namespace Go.Proofs.YtoiioigihocgbaaGreatDoor
open Go.Clo
theorem E104{H:Y0}{nx lo p n m br cr gb bb cb sr sb r c M:Nat}{bs:List Nat}{T:Lp.Tab}(h:TV H nx lo p n m br cr gb bb cb sr sb bs T)(hn:n<=20)(hm:m<=20)(hr:r<m)(hc:c<n+m+2)(dd:T.a r c≠0)(hM:1<=M)(hS:∀ x,Lp.Sz (M*(M*M)) x->U15 x 100000)(hT:Lp.TSz m (n+m+2) M T)(d0:lo<=nx):
  Q2 gQ 137 [.pointer (some ⟨p,0,none⟩),O8 (r:Int),O8 (c:Int)] H nx fun v H' nx'=>v = .tuple ⟨[]⟩/\nx<=nx'/\D0 H lo H' nx' /\
   ∃ d1 O,TV H' nx' lo p n m br cr d1 bb cb sr sb O (Lp.pivot T r c):=by
 have bg:M<=M*(M*M):=by
  have:M*1<=M*(M*M):=bG M (Nat.mul_pos hM hM);omega
 have an:M*M<=M*(M*M):=bG M (by have:M*1<=M*M:=bG M hM;omega);have sA:∀ i q,i<m->q<n+m+2->U15 (T.a i q) 100000:=fun i q hi hq=>hS _ ((hT.1 i q hi hq).mono bg)
 have zY:∀ q,q<n+m+2->Lp.Sz (M*M) (T.a r q/T.a r c):=fun q hq=>(hT.1 r q hr hq).div hM (hT.1 r c hr hc)
 have sG:∀ q,q<n+m+2->U15 (T.g q) 100000:=fun q hq=>hS _ ((hT.2 q hq).mono bg)
 obtain⟨b,c8,c7⟩:=h.row hr;obtain⟨css,hg,dn,hl,hx⟩:=id c7;have ck:css.flatten.length=3*(n+m+2):=by rw[W26 hx.three,hl]
 have d3:(aF (n+m+2) Z29).flatten.length=3*(n+m+2):=by
  rw[W26 (fun d hd=>by rw[(List.mem_replicate.1 hd).2];rfl),iC]
 have b3:=h.hp;unfold Q60 at b3;have dp:=h.pn;have dq:=h.rn;obtain⟨cc,cd⟩:∃ cc,css[c]? = some cc:=⟨css[c]'O0,aE _⟩
 have aj:=hx c cc cd;have a7:=aj.tri;refine spec137 ?_;unfold F137;simp(disch:=omega)only[W0,Q0.val,b3,h.hr,G71 c8];rw[M27 O0,show [dU false,O6,O6]=Z29 from rfl,Z83];have d8:J0 (hs H nx (some (.cells (aF (n+m+2) Z29).flatten 0))) p=_:=(gN _).trans b3;have cp:J0 (hs H nx (some (.cells (aF (n+m+2) Z29).flatten 0))) br=_:=(gN _).trans h.hr;have cv:J0 (hs H nx (some (.cells (aF (n+m+2) Z29).flatten 0))) b=_:=(gN _).trans hg;simp(disch:=omega)only[W0];rw[J79 (sl:=0) (row:=(aF (n+m+2) Z29).flatten) (Z11 _ _ _) (J9 (m:=n+m+2) cv (by rw[ck];omega) O0) (aD _) (Y82 hx.tri) O0,
  G24 (by rw[ck,d3])]
 have aw:D0 H nx (hs (hs H nx (some (.cells (aF (n+m+2) Z29).flatten 0))) nx (O7 css.flatten)) (nx+1):=((D0.refl H nx).nw _ (m:=nx+1)).nw _;have g2:J0 (hs (hs H nx (some (.cells (aF (n+m+2) Z29).flatten 0))) nx (O7 css.flatten)) nx=O7 css.flatten:=Z11 _ _ _;generalize hs (hs H nx (some (.cells (aF (n+m+2) Z29).flatten 0))) nx (O7 css.flatten)=H2 at *
 have ct:Z29.length=3:=rfl;simp only[W0,g2,J22 hx.three cd,a7.three,a7.one,G24 (show cc.length=Z29.length from a7.three),ct];have bu:D0 H nx (hs (hs H2 (nx+1) (O7 Z29)) (nx+1) (O7 cc)) (nx+1+1):=(aw.nw _ (m:=nx+1+1)).nw _;have g3:J0 (hs (hs H2 (nx+1) (O7 Z29)) (nx+1) (O7 cc)) nx=O7 css.flatten:=by rw[gN _,gN _];exact g2
 have d4:J0 (hs (hs H2 (nx+1) (O7 Z29)) (nx+1) (O7 cc)) (nx+1)=O7 cc:=Z11 _ _ _;generalize hs (hs H2 (nx+1) (O7 Z29)) (nx+1) (O7 cc)=H3 at *
 refine B1 (m:=n+m+2) (fun k L H' nx'=>∃(j:Nat) (ds:List (List Value)),k+j=n+m+2/\L=[O8 (j:Int)]/\ds.length=n+m+2/\RX H' nx' ds (fun q=>if q<j then T.a r q/T.a r c else T.a r q) /\
  J0 H' nx=O7 ds.flatten/\J0 H' (nx+1)=O7 cc/\D0 H nx H' nx'/\nx+2<=nx') ?_ ⟨0,css,O0,rfl,hl,fun q c hc=>by simpa using (hx q c hc).ext bu,g3,d4,bu,O0⟩
 rintro k ih L H5 ay ⟨j,ds,hk,rfl,aa,a8,g5,c6,ab,cx⟩ c4
 by_cases hj:j<n+m+2
 .have av:(j:Int)<((n+m+2:Nat):Int):=O0
  have ag:ds[j]? = some ds[j]:=aE O0;have ae:=a8 j _ ag;dsimp only at ae;rw[if_neg O0] at ae;simp(disch:=omega)only[W0,N13,av,g5,J22 a8.three ag];refine R0 (E74 ae ⟨by have:=(sA r j hr hj).1;omega,by have:=(sA r j hr hj).2;omega⟩) ?_;rintro _ H7 ca ⟨rfl,a0⟩;have dk:=a0.le;have g7:=(a0.gt nx).trans g5;have bo:=(a0.gt (nx+1)).trans c6;have au:=a8.ext a0
  by_cases hz:T.a r j=0
  .have e:=sign_zero.2 hz
   simp only[W0,e];refine c4 (k-1) _ _ _ O0 ⟨j+1,ds,O0,O2,aa,fun q d hd => ?_,g7,bo,ab.trans a0,O0⟩;have:=au q d hd;dsimp only at this ⊢
   by_cases h1:q<j
   .rw[if_pos O0];rw[if_pos h1] at this;exact this
   .rw[if_neg h1] at this
    by_cases h2:q=j
    .subst h2
     rw[if_pos O0,hz,Lp.zdiv];rw[hz] at this;exact this
    .rw[if_neg O0];exact this
  have e:¬ (T.a r j).num.sign=0:=fun h=>hz (sign_zero.1 h)
  simp only[W0,e,ne_eq,not_false_eq_true,g7,bo,X15 a7,J22 au.three ag];have ac:D0 H7 ca H7 (ca+13):=D0.sf;refine R0 (M101 (ae.ext (a0.trans ac)) (aj.ext ((ab.trans a0).trans ac)) (sA r j hr hj) (sA r c hr hc) (fun e=>dd (C87.1 e))) ?_;rintro _ H9 cq ⟨⟨u,rfl,hu⟩,bz⟩;have dm:=bz.le;have a6:D0 H5 ay H9 cq:=(a0.trans ac).trans bz;have g9:=(a6.gt nx).trans g5;have d7:=(a6.gt (nx+1)).trans c6;have ax:=a8.ext a6;obtain⟨uc,rfl,b4⟩:=hu.num;have e3:j*3=3*j:=O0;have ep:B12 ds.flatten (j*3) uc=(ds.set j uc).flatten:=by rw[e3];exact M78 ax.three b4.three O0
  have el:j*3+3<=3*ds.length:=O0;simp only[W0,b4.three,b4.one,g9,W26 ax.three,ep,el];refine c4 (k-1) _ _ _ O0 ⟨j+1,ds.set j uc,O0,O2,by simp[aa],ax.put g9 hu O0 (by rw[if_pos O0]) (fun q hq => ?_),Z11 _ _ _,?_,(ab.trans a6).h0,O0⟩
  .by_cases h1:q<j
   .rw[if_pos h1,if_pos O0]
   .rw[if_neg h1,if_neg O0]
  .rw[gN _];exact d7
 obtain rfl:j=n+m+2:=O0;have av:¬ ((n+m+2:Nat):Int)<((n+m+2:Nat):Int):=O0;have h5:=h.ext ab;have d5:RO H5 ay nx (n+m+2) (fun q=>T.a r q/T.a r c):=⟨ds,g5,O0,aa,fun q d hd=>by
  have:=a8 q d hd;dsimp only at this;rwa [if_pos (by have:=(aJ.1 hd).1;omega)] at this⟩
 have bv:=h5.hp;unfold Q60 at bv;have bh:D0 H lo H5 ay:=ab.less d0;simp only[W0,av,bv];refine B1 (m:=m) (fun k L H' nx'=>∃(i:Nat) (O:List Nat),k+i=m/\L=[O8 (i:Int)]/\nx+2<=nx'/\D0 H lo H' nx'/\RO H' nx' nx (n+m+2) (fun q=>T.a r q/T.a r c) /\
  TV H' nx' lo p n m br cr gb bb cb sr sb O ⟨fun k=>if k<i/\k≠r then(Lp.pivot T r c).a k else T.a k,T.g,T.B⟩) ?_
  ⟨0,bs,O0,rfl,cx,bh,d5,h5.congr (fun i q hi hq=>O2) (fun q hq=>rfl) (fun i hi=>rfl)⟩
 rintro k1 du L1 a9 U ⟨i,O,dy,rfl,bw,a5,a1,Q⟩ ah;have a4:=Q.hp;unfold Q60 at a4
 by_cases hi:i<m
 .have ad:(i:Int)<(m:Int):=O0
  by_cases az:i=r
  .subst az
   simp(disch:=omega)only[W0,N13,ad,ne_eq,not_true_eq_false];refine ah (k1-1) _ _ _ O0 ⟨i+1,O,O0,O2,bw,a5,a1,Q.congr (fun q t hq ht => ?_) (fun q hq=>rfl) (fun i hi=>rfl)⟩;show(if q<i+1/\q≠i then(Lp.pivot T i c).a q else T.a q) t=(if q<i/\q≠i then(Lp.pivot T i c).a q else T.a q) t
   by_cases h1:q<i/\q≠i
   .rw[if_pos h1,if_pos ⟨O0,h1.2⟩]
   .rw[if_neg h1,if_neg O0]
  have c3:¬ (i:Int)=(r:Int):=O0;obtain⟨bi,bd,W⟩:=Q.row hi;have W:RO a9 U bi (n+m+2) (T.a i):=W.congr fun q hq=>O2
  obtain⟨cf,cj,dh,dv,ap⟩:=id W;obtain⟨ci,aq⟩:∃ ci,cf[c]? = some ci:=⟨cf[c]'O0,aE _⟩
  have c9:=ap c ci aq;simp(disch:=omega)only[W0,N13,ad,c3,ne_eq,not_false_eq_true,a4,Q.hr,G71 bd,cj,J22 ap.three aq];have E:D0 a9 U a9 (U+26):=D0.sf;refine R0 (X86 (W.ext E) (a1.ext E) (c9.ext E) O0 O0 (fun q hq=>sA i q hi hq) (fun q hq=>hS _ ((zY q hq).mono an)) (sA i c hi hc) (fun q hq=>hS _ ((hT.1 i c hi hc).mul (zY q hq)))) ?_;rintro _ dx di ⟨b',rfl,cn,a3,b8⟩;have V:=E.trans b8;have a2:=Q.ext V;have da:=V.le;have al:=a2.hp;unfold Q60 at al;have ak:=a1.ext V;have b5:=a2.len;simp only[W0,al,a2.hr,Q87 (show i<(slR (n+m+2) O).length by rw[G75];omega),M97,G75,show i+1<=O.length by omega];have db:=a2.setRow hi a3;refine ah (k1-1) _ _ _ O0 ⟨i+1,O.set i b',O0,O2,O0,(a5.both (V.less (by have:=a5.le;omega))).hs Q.lor,ak.boxs (ak.ne O0 a2.hr (E85 _ _)) a2.hr (D88 _ _) a2.sr1,db.congr (fun q t hq ht => ?_) (fun q hq=>rfl) (fun i hi=>rfl)⟩;show(if q<i+1/\q≠r then(Lp.pivot T r c).a q else T.a q) t=(if q=i then(fun q=>T.a i q-T.a i c*(T.a r q/T.a r c)) else if q<i/\q≠r then(Lp.pivot T r c).a q else T.a q) t
  by_cases h1:q=i
  .subst h1
   rw[if_pos ⟨O0,az⟩,if_pos rfl];show(if q=r then _ else _)=_;rw[if_neg az]
  .rw[if_neg h1]
   by_cases h2:q<i/\q≠r
   .rw[if_pos h2,if_pos ⟨O0,h2.2⟩]
   .rw[if_neg h2,if_neg O0]
 obtain rfl:i=m:=O0;have ad:¬ (i:Int)<(i:Int):=O0;obtain⟨ce,d2,dg,dr,bx⟩:=id Q.goal;obtain⟨cg,bf⟩:∃ cg,ce[c]? = some cg:=⟨ce[c]'O0,aE _⟩
 have ba:=bx c cg bf;simp(disch:=omega)only[W0,ad,a4,d2,J22 bx.three bf];have E:D0 a9 U a9 (U+17):=D0.sf;refine R0 (X86 (Q.goal.ext E) (a1.ext E) (ba.ext E) O0 O0 (fun q hq=>sG q hq) (fun q hq=>hS _ ((zY q hq).mono an)) (sG c hc) (fun q hq=>hS _ ((hT.2 c hc).mul (zY q hq)))) ?_;rintro _ d9 dj ⟨b',rfl,cn,a3,bc⟩;have Z:=E.trans bc;have J:=Q.ext Z;have co:=Z.le;have ai:=J.hp;unfold Q60 at ai;have ao:=a1.ext Z;have b5:=J.len;have cu:=J.setGoal O0 a3;have bk:=ao.boxs (s':=0) (l':=Q60 n i br cr b' bb cb) (ao.ne O0 J.hp (E87 _ _ _ _ _ _ _)) J.hp (U90 _ _ _ _ _ _ _) (.inl rfl);have d6:=cu.setRow hr bk;have cy:=d6.setBas (B:=fun k=>if k=r then c else T.B k) O0;have df:=J.pr O0;have dc:=J.pb;have de:=J.rb O0;have dt:=eT df;have dw:=eT dc;have dl:=eT de;have bt:∀(v:Value),B12 [cD .i64 (n:Int),O8 (i:Int),.slice (some ⟨br,0,none⟩) i cr,.slice (some ⟨gb,0,none⟩) (n+i+2) (n+i+2),.slice (some ⟨bb,0,none⟩) i cb] 3 [v] =
   [cD .i64 (n:Int),O8 (i:Int),.slice (some ⟨br,0,none⟩) i cr,v,.slice (some ⟨bb,0,none⟩) i cb]:=fun v=>rfl
 have cz:J0 d9 bb=some (.cells (Z57 i T.B) sb):=J.hb;simp(disch:=omega)only[W0,Nat.reduceAdd,ai,bt,J.hr,cz,Q87 (show r<(slR (n+i+2) O).length by rw[G75];omega),M97,G75,show r+1<=O.length by omega,Q87 (show r<(Z57 i T.B).length by rw[B78];omega),G104,B78,show r+1<=i by omega,show 3+1<=5 by omega];have aw:=a5.both (Z.less (show lo<=U by omega));refine⟨O0,((aw.hs J.lop).hs J.lor).hs J.lob,_,_,cy.congr (fun q t hq ht => ?_) (fun q hq=>rfl) (fun i hi=>rfl)⟩;show(if q=r then T.a r t/T.a r c else T.a q t-T.a q c*(T.a r t/T.a r c))=(if q=r then(fun q=>T.a r q/T.a r c) else if q<i/\q≠r then(Lp.pivot T r c).a q else T.a q) t
 by_cases h1:q=r
 .rw[if_pos h1,if_pos h1]
 .rw[if_neg h1,if_neg h1,if_pos ⟨hq,h1⟩]
  show _=(if q=r then _ else _)
  rw[if_neg h1]
end Go.Proofs.YtoiioigihocgbaaGreatDoor
namespace Go.Clo
section
variable {H H':Y0} {P:Program} {Q k:EP} {args:List Value} {f:FuncId} {nx nx' p q:Nat} {v:Value}
def Top(H:Y0)(nx:Nat):Prop:=∀ i,nx<=i->J0 H i=none
theorem M90(f:Nat->Option V3)(n:Nat):∃ H',(∀ i,i<n->J0 H' i=f i)/\Top H' n:=by
 induction n with
 | zero=>exact⟨.leaf,fun i hi=>O0,fun i _=>C40 i⟩
 | succ n ih=>
  obtain⟨H',h1,h2⟩:=ih;refine⟨hs H' n (f n),fun i hi => ?_,fun i hi => ?_⟩
  .rw[N7]
   by_cases e:i=n
   .rw[if_pos e,e]
   .rw[if_neg e];exact h1 i O0
  .rw[N7,if_neg O0];exact h2 i O0
theorem CS.cut(h:CS P f args H nx v H' nx'){H2:Y0}(e:∀ i,i<nx'->J0 H2 i=J0 H' i)(ht:Top H2 nx'):CS P f args H nx v H2 nx':=by
 refine⟨h.1,fun F E w hr hv=>(h.2 F E w hr hv).mono fun ex w' => ?_⟩;rintro⟨v',F',h1,h2,h3⟩;refine⟨v',F',h1,h2,h3.congr fun i => ?_⟩;rcases aW i nx' with g | g
 .exact e i g
 .rw[ht i g,h3.hr.top i g]
theorem CS.beside{P:Program}{f:FuncId}{args:List Value}{E H:Y0}{nx:Nat}{v:Value}{H0:Y0}{nx':Nat}(h:CS P f args E nx v H0 nx')(J:∀ i b,J0 E i=some b->J0 H i=some b)(U:nx<=nx'){H2:Y0}(e:∀ i,i<nx'->J0 H2 i=if i<nx/\J0 E i=none/\(J0 H i).isSome=true then J0 H i else J0 H0 i)(ht:Top H2 nx'):CS P f args H nx v H2 nx':=by
 refine⟨h.1,fun F O w hr hv=>(h.2 F O w (hr.sub J) hv).mono fun ex w' => ?_⟩;rintro⟨v',F',h1,h2,h3⟩;refine⟨v',F',h1,h2,h3.beside hr (fun i b _=>J i b) fun i => ?_⟩;rcases aW i nx' with g | g
 .exact e i g
 .rw[ht i g,if_neg O0,h3.hr.top i g]
theorem Q103(h:Q2 P f args H nx Q)(hk:∀ v H' nx' H0,Q v H0 nx'->D0 H0 nx' H' nx'->Top H' nx'->k v H' nx'):Y2 P f args H nx k:=by
 obtain⟨v,H0,nx',hc,hq⟩:=h;obtain⟨H',h1,h2⟩:=M90 (J0 H0) nx';exact .inr ⟨v,H',nx',hc.cut h1 h2,hk v H' nx' H0 hq ⟨aD _,h1⟩ h2⟩
def Sub(E:Y0)(nx:Nat)(H:Y0):Prop:=∀ i b,i<nx->J0 E i=some b->J0 H i=some b
theorem G84{E:Y0}(J:∀ i b,J0 E i=some b->J0 H i=some b)(h:Q2 P f args E nx Q)(hQ:∀ v H0 nx',Q v H0 nx'->D0 E nx H0 nx')(hk:∀ v H' nx' H0,Q v H0 nx'->D0 H nx H' nx'->Sub H0 nx' H'->Top H' nx'->k v H' nx'):Y2 P f args H nx k:=by
 obtain⟨v,H0,nx',hc,hq⟩:=h;have hE:=hQ _ _ _ hq;obtain⟨H',h1,h2⟩:=M90 (fun i=>if i<nx/\J0 E i=none/\(J0 H i).isSome=true then J0 H i else J0 H0 i) nx';refine .inr ⟨v,H',nx',hc.beside J hE.le h1 h2,hk v H' nx' H0 hq ⟨hE.le,fun i hi => ?_⟩ (fun i b hi hb => ?_) h2⟩
 .rw[h1 i (aO hi hE.le)]
  split
  .rfl
  .rename_i hn
   rw[hE.get i hi]
   cases hg:J0 E i with
   | some b=>rw[J i b hg]
   | none=>
    cases O:J0 H i with
    | none=>rfl
    | some b=>exact absurd ⟨hi,hg,by rw[O];rfl⟩ hn
 .rw[h1 i hi,if_neg]
  .exact hb
  .rintro⟨g1,g2,_⟩
   rw[hE.get i g1,g2] at hb
   cases hb
def er2(H:Y0)(p q:Nat):Y0:=hs (hs H p none) q none
theorem U48{i:Nat}(hp:i≠p)(hq:i≠q):J0 (er2 H p q) i=J0 H i:=by unfold er2;rw[Z1 _ hq,Z1 _ hp]
theorem V79:J0 (er2 H p q) p=none:=by
 unfold er2;rw[N7]
 split
 .rfl
 .exact Z11 _ _ _
theorem X80:J0 (er2 H p q) q=none:=Z11 _ _ _
theorem V97:∀ i b,J0 (er2 H p q) i=some b->J0 H i=some b:=by
 intro i b h
 by_cases hp:i=p
 .rw[hp,V79] at h;cases h
 .by_cases hq:i=q
  .rw[hq,X80] at h;cases h
  .rwa [U48 hp hq] at h
theorem G85(e:D0 H nx H' nx'):D0 (er2 H p q) nx (er2 H' p q) nx':=by
 refine⟨e.le,fun i hi => ?_⟩
 by_cases hp:i=p
 .rw[hp,V79,V79]
 .by_cases hq:i=q
  .rw[hq,X80,X80]
  .rw[U48 hp hq,U48 hp hq];exact e.get i hi
theorem R76(hp:p<nx)(hq:q<nx)(h:Q2 P f args (er2 H p q) nx Q)(hQ:∀ v H0 nx',Q v H0 nx'->D0 (er2 H p q) nx H0 nx')(hk:∀ v H' nx' H0,Q v H0 nx'->D0 H nx H' nx'->Sub H0 nx' (er2 H' p q)->Top H' nx'->k v H' nx'):Y2 P f args H nx k:=by
 refine G84 V97 h hQ fun v H' nx' H0 E hE hS hT=>hk v H' nx' H0 E hE (fun i b hi hb => ?_) hT
 have J:=hQ _ _ _ E;have h1:i≠p:=by rintro rfl;rw[J.get i hp,V79] at hb;cases hb
 have h2:i≠q:=by rintro rfl;rw[J.get i hq,X80] at hb;cases hb
 rw[U48 h1 h2];exact hS i b hi hb
def R5(d:Nat):Value->Nat
 | .slice (some A) _ _=>A.block
 | _=>d
theorem E72{lo:Nat}{size bytes d:Nat}{n:Nat}{c:List Value}{x:Value}{m:Nat}{l:List Value}(Z:0<size)(hA:Acc lo H nx size v n c)(hx:Src H size x m l)(hm:0<m)(ho:Z0 l=true)(J:(2*(n+m)+1000)*bytes<=281474976710656)(O:n+m<=1000000000)(hk:∀ H',J0 H' nx=some (.cells (c++l) size)->(∀ i,i≠nx->i≠R5 d v->J0 H' i=J0 H i)->k (.slice (some ⟨nx,0,none⟩) (n+m) (n+m)) H' (nx+1)):B5 v x size bytes H nx k:=by
 obtain⟨hl,hA⟩:=hA;have E:(c++l).length=(n+m)*size:=by rw[bH,hl,hx.size,dM]
 unfold B5 Z22;rcases hA with ⟨rfl,rfl⟩ | ⟨b,h1,h2,rfl,h4⟩
 .have hc:c=[]:=by simp at hl;exact hl
  subst hc;rw[hx.len];dsimp only;rw[G1,V6 J,V6 O];simp only[Bool.and_self,cond_true];rw[hx.first,ho,E27 (show 0<0+m by omega)];simp only[cond_true,cond_false];show spine ([]++l) _;rw[V14];have e:([]++l).length=(0+m)*size:=E;rw[e,D13];simp only[cond_true,D22,K11];rw[G1,G1,G4];exact hk _ (Z11 _ _ _) fun i hi _=>Z1 _ hi
 .rw[hx.len]
  dsimp only;rw[G1,V6 J,V6 O];simp only[Bool.and_self,cond_true];rw[hx.first,ho,E27 (show n<n+m by omega)];simp only[cond_true,cond_false];have U:∀ k:List Value->Prop,Z5 H size n (.slice (some ⟨b,0,none⟩) n n) False k=k c:=by
   intro k;rcases cI n with h0 | h0
   .subst h0
    simp at hl;subst hl;unfold Z5 B19;dsimp only;rw[Y4,h4];simp only[aN,Nat.zero_mul,G5];exact V14 _ _
   .exact(J9 h4 hl (Nat.mul_pos h0 Z)).first k
  rw[U,V14,E,D13];simp only[cond_true,D22];rw[Y4,h4];simp only[aN];have W:N8 (.cells c size) 0 n size=some true:=by
   simp only[N8];rw[K43 (show size≠0 by omega),D13];simp only[cond_false,cond_true];rw[hl,cF,D13]
  rw[W];dsimp only;rw[G4];simp only[K11];rw[G1,G1,G4];exact hk _ (Z11 _ _ _) fun i hi V=>by rw[Z1 _ hi,Z1 _ (show i≠b from V)]
end
end Go.Clo
namespace Go.Lp
section
variable {T:Tab} {c j k r:Nat}
variable {m C R:Nat}
theorem Enters.unique{c':Nat}(h:Enters C T c)(h':Enters C T c'):c=c':=by
 rcases Nat.lt_trichotomy c c' with g | g | g
 .have:=h'.2.2 c g;have:=h.2.1;grind
 .exact g
 .have:=h.2.2 c' g;have:=h'.2.1;grind
theorem Leaves.unique(hT:J44 m C R T){r':Nat}(h:Leaves m R T c r)(h':Leaves m R T c r'):r=r':=by
 have h1:=h.2.2 r' h'.1 h'.2.1;have h2:=h'.2.2 r h.1 h.2.1;refine hT.inj h.1 h'.1 ?_;rcases h1 with a | ⟨a,a'⟩
 .rcases h2 with b | ⟨b,b'⟩
  .grind
  .rw[b] at a;grind
 .rcases h2 with b | ⟨b,b'⟩
  .rw[a] at b;grind
  .omega
open Classical in
def nxt(m C R:Nat)(T:Tab):Tab:=if h:∃ T',U95 m C R T T' then h.choose else T
theorem J89(hT:J44 m C R T)(hc:Enters C T c)(hr:Leaves m R T c r):nxt m C R T=pivot T r c:=by
 have h:∃ T',U95 m C R T T':=⟨_,c,r,hc,hr,rfl⟩
 unfold nxt;rw[dif_pos h];obtain⟨c',r',E,J,e⟩:=h.choose_spec;rw[e];obtain rfl:=E.unique hc;obtain rfl:=J.unique hT hr
 rfl
def W72(m C R:Nat)(T:Tab)(k:Nat):Tab:=k.rec T fun _ s=>nxt m C R s
theorem C83:W72 m C R T (k+1)=nxt m C R (W72 m C R T k):=rfl
def G76(m C R:Nat)(T:Tab):Prop:=¬ ∃ T',U95 m C R T T'
theorem ends(hT:J44 m C R T):∃ K,G76 m C R (W72 m C R T K)/\∀ k,k<K->¬ G76 m C R (W72 m C R T k):=by
 have Q:∃ k,G76 m C R (W72 m C R T k):=by
  refine aI fun J => ?_
  have J:∀ k,∃ T',U95 m C R (W72 m C R T k) T':=fun k=>aI fun h=>J ⟨k,h⟩
  have O:∀ k,J44 m C R (W72 m C R T k):=by
   intro k
   induction k with
   | zero=>exact hT
   | succ k ih=>
    obtain⟨T',c,r,hc,hr,e⟩:=J k;rw[C83,J89 ih hc hr];exact ih.pivot hc hr
  have h1:∀ k,∃ q:Nat × Nat,Enters C (W72 m C R T k) q.1/\Leaves m R (W72 m C R T k) q.1 q.2:=fun k=>by
   obtain⟨T',c,r,hc,hr,e⟩:=J k;exact⟨(c,r),hc,hr⟩
  exact Run.false (m:=m) (C:=C) (R:=R) (T:=fun k=>W72 m C R T k) (e:=fun k=>(h1 k).choose.1) (l:=fun k=>(h1 k).choose.2)
   ⟨hT,fun k=>(h1 k).choose_spec.1,fun k=>(h1 k).choose_spec.2,fun k=>by rw[C83,J89 (O k) (h1 k).choose_spec.1 (h1 k).choose_spec.2]⟩
 have:∀ n,(∃ k,k<=n/\G76 m C R (W72 m C R T k))->∃ K,G76 m C R (W72 m C R T K)/\∀ k,k<K->¬ G76 m C R (W72 m C R T k):=by
  intro n
  induction n with
  | zero=>rintro⟨k,hk,h⟩;obtain rfl:k=0:=O0;exact⟨0,h,fun k hk=>O0⟩
  | succ n ih=>
   rintro⟨k,hk,h⟩
   by_cases E:∃ k,k<=n/\G76 m C R (W72 m C R T k)
   .exact ih E
   .obtain rfl:k=n+1:=by
     rcases aW n k with g | g
     .omega
     .exact absurd ⟨k,g,h⟩ E
    exact⟨n+1,h,fun q hq hs=>E ⟨q,O0,hs⟩⟩
 obtain⟨k,h⟩:=Q;exact this k ⟨k,aD _,h⟩
def U58(n m:Nat)(s:Nat->Nat->Bool):Tab where
 a r j:=if j<n then(if s r j then 1 else 0) else if j<n+m then(if j=n+r then 1 else 0) else if j=n+m then -1 else 1
 g j:=if j<n then -1 else 0
 B r:=n+r
section
variable {n m:Nat} {s:Nat->Nat->Bool}
theorem G73:J44 m (n+m) (n+m+1) (U58 n m s):=by
 refine⟨fun i hi=>by show n+i<n+m;omega,fun i k hi hk => ?_,fun k hk => ?_,fun i hi => ?_⟩
 .show(if n+k<n then _ else if n+k<n+m then(if n+k=n+i then(1:Rat) else 0) else _)=_
  rw[if_neg O0,if_pos O0]
  by_cases e:i=k
  .rw[if_pos O0,if_pos e]
  .rw[if_neg O0,if_neg e]
 .show(if n+k<n then(-1:Rat) else 0)=0
  rw[if_neg O0]
 .show(0:Rat)<=(if n+m+1<n then(if s i (n+m+1) then(1:Rat) else 0) else if n+m+1<n+m then(if n+m+1=n+i then(1:Rat) else 0) else if n+m+1=n+m then -1 else 1)
  rw[if_neg O0,if_neg O0,if_neg O0]
  decide
theorem sz0:Sz 1 0:=⟨by decide,by decide⟩
theorem sz1:Sz 1 1:=⟨by decide,by decide⟩
theorem U75:Sz 1 (-1):=⟨by decide,by decide⟩
theorem X108(N:Nat):TSz m N 1 (U58 n m s):=by
 refine⟨fun i j _ _ => ?_,fun j _ => ?_⟩
 .show Sz 1 (if j<n then(if s i j then 1 else 0) else if j<n+m then(if j=n+i then 1 else 0) else if j=n+m then -1 else 1)
  repeat' split
  all_goals first | exact sz0 | exact sz1 | exact U75
 .show Sz 1 (if j<n then -1 else 0)
  split
  .exact U75
  .exact sz0
theorem C80{i:Nat}(hj:j<n+m):0<=(U58 n m s).a i j:=by
 show(0:Rat)<=(if j<n then(if s i j then(1:Rat) else 0) else if j<n+m then(if j=n+i then(1:Rat) else 0) else if j=n+m then -1 else 1)
 by_cases h:j<n
 .rw[if_pos h]
  split
  .decide
  .decide
 .rw[if_neg h,if_pos hj]
  split
  .decide
  .decide
theorem Y104(E:∀ v,v<n->∃ r,r<m/\s r v=true)(hj:j<n+m):∃ r,r<m/\(U58 n m s).a r j=1:=by
 by_cases h:j<n
 .obtain⟨r,hr,hs⟩:=E j h
  exact⟨r,hr,by show(if j<n then(if s r j then(1:Rat) else 0) else _)=1;rw[if_pos h,hs];rfl⟩
 .exact⟨j-n,O0,by show(if j<n then _ else if j<n+m then(if j=n+(j-n) then(1:Rat) else 0) else _)=1;rw[if_neg h,if_pos hj,if_pos O0]⟩
theorem bounded(J:∀ v,v<n->∃ r,r<m/\s r v=true)(hT:J44 m (n+m) (n+m+1) T)(he:Eqv m (U58 n m s) T)(hc:c<n+m):∃ i,i<m/\0<T.a i c:=by
 refine aI fun E => ?_
 have E:∀ i,i<m->T.a i c<=0:=fun i hi=>aI fun h=>E ⟨i,hi,by grind⟩
 obtain⟨r,hr,h1⟩:=Y104 (m:=m) (s:=s) J hc;have h2:=X94 hT (s:=c) (he.back r hr);unfold dir at h2;rw[h1] at h2;have h3:0<=Z25 m fun k=>(-1:Rat)*((U58 n m s).a r (T.B k)*T.a k c):=Q80 fun k hk=>by
  have a1:=C80 (m:=m) (s:=s) (n:=n) (i:=r) (hT.lt k hk);have a2:=E k hk;have:=fY a1 (b := -T.a k c) (by grind)
  grind
 rw[W74] at h3
 grind
theorem J87{T:Tab}(hT:J44 m C R T){K:Nat}(hK:∀ k,k<K->¬ G76 m C R (W72 m C R T k)):∀ {k:Nat},k<=K->J44 m C R (W72 m C R T k)/\Eqv m T (W72 m C R T k)
 | 0,_=>⟨hT,Eqv.refl T⟩
 | k+1,hk=>by
  obtain⟨h1,h2⟩:=J87 hT hK (k:=k) O0;have h3:=hK k O0;have h3:∃ T',U95 m C R (W72 m C R T k) T':=aI h3;obtain⟨T',c,r,hc,hr,e⟩:=h3;have E:(W72 m C R T k).a r c≠0:=by have:=hr.2.1;grind
  rw[C83,J89 h1 hc hr];exact⟨h1.pivot hc hr,h2.trans (Eqv.pivot hr.1 E)⟩
def steps(n m:Nat)(s:Nat->Nat->Bool):Nat:=(ends (G73 (n:=n) (m:=m) (s:=s))).choose
def tabK(n m:Nat)(s:Nat->Nat->Bool)(k:Nat):Tab:=W72 m (n+m) (n+m+1) (U58 n m s) k
theorem U89:G76 m (n+m) (n+m+1) (tabK n m s (steps n m s)):=(ends (G73 (n:=n) (m:=m) (s:=s))).choose_spec.1
theorem U87(h:k<steps n m s):¬ G76 m (n+m) (n+m+1) (tabK n m s k):=(ends (G73 (n:=n) (m:=m) (s:=s))).choose_spec.2 k h
theorem tabK_can(h:k<=steps n m s):J44 m (n+m) (n+m+1) (tabK n m s k):=(J87 G73 (fun _ h=>U87 h) h).1
theorem tabK_eqv(h:k<=steps n m s):Eqv m (U58 n m s) (tabK n m s k):=(J87 G73 (fun _ h=>U87 h) h).2
theorem tabK_sz(hm:m<=8)(h:k<=steps n m s):TSz m (n+m+2) (2^expN 8) (tabK n m s k):=
 (U100 O0 (aD 1) G73.uni (tabK_can h).uni (tabK_eqv h) (X108 _)).mono (X111 hm)
theorem tabK_next(h:k<=steps n m s)(hc:Enters (n+m) (tabK n m s k) c)(hr:Leaves m (n+m+1) (tabK n m s k) c r):k<steps n m s/\tabK n m s (k+1)=pivot (tabK n m s k) r c:=by
 refine⟨?_,J89 (tabK_can h) hc hr⟩;rcases aW k (steps n m s) with g | g
 .exact g
 .obtain rfl:k=steps n m s:=O0
  exact absurd ⟨_,c,r,hc,hr,rfl⟩ U89
theorem tabK_last(h:k<=steps n m s)(hn:∀ j,j<n+m->0<=(tabK n m s k).g j):k=steps n m s:=by
 rcases aW k (steps n m s) with g | g
 .refine absurd ?_ (U87 g)
  rintro⟨T',c,r,hc,hr,e⟩;have:=hn c hc.1;have:=hc.2.1
  grind
 .omega
end
end
end Go.Lp
namespace Go.Clo
theorem NN.boxn{H:Y0}{nx i n s':Nat}{v:Value}{row':List Value}(h:NN H nx v n)(hg:J0 H i=none):NN (hs H i (some (.cells row' s'))) nx v n:=by
 obtain⟨A,c,rfl,hD⟩:=h;refine⟨A,c,rfl,?_,?_,hD.small,hD.le⟩
 .intro j x hx
  obtain⟨b,o,E,e1,e2,e3,e4⟩:=hD.sl j x hx;have hb:b≠i:=by
   rintro rfl;rw[Q5,hg] at e3;cases e3
  exact⟨b,o,E,e1,e2,by rw[Q5,Z1 _ hb];exact e3,e4⟩
 .rcases hD.sk with e | ⟨b,o,E,e1,e2,e3⟩
  .exact .inl e
  .have hb:b≠i:=by
    rintro rfl;rw[hg] at e3;rcases e3 with e3 | ⟨_,_,e3⟩<;>cases e3
   exact .inr ⟨b,o,E,e1,e2,by rw[Z1 _ hb];exact e3⟩
theorem RR.boxn{H:Y0}{nx i s':Nat}{v:Value}{x:Rat}{row':List Value}(h:RR H nx v x)(hg:J0 H i=none):RR (hs H i (some (.cells row' s'))) nx v x:=
 let ⟨a,b,h1,h2,h3⟩:=h;⟨a,b,h1,NN.boxn h2 hg,NN.boxn h3 hg⟩
theorem X98{x:Rat}:x.num.sign<=0<->x<=0:=by
 rw[Int.sign_nonpos_iff];have h1:=@Rat.num_nonneg x;have h2:=@Rat.num_eq_zero x
 constructor
 .intro h
  by_cases h0:x.num=0
  .rw[h2.1 h0];exact Rat.le_refl
  .have:¬ 0<=x:=fun hh=>by have:=h1.2 hh;omega
   grind
 .intro h
  by_cases h0:0<=x
  .have:x=0:=by grind
   rw[h2.2 this];omega
  .have:¬ 0<=x.num:=fun hh=>h0 (h1.1 hh)
   omega
theorem D77{x y:Rat}:N70 x y<0<->x<y:=by
 unfold N70
 split
 .simp[*]
 .split<;>simp[*]
theorem D97{x y:Rat}:N70 x y=0<->x=y:=by
 unfold N70
 split
 .rename_i h
  simp only[Int.reduceNeg,Int.neg_eq_zero,Int.reduceEq,false_iff];intro e;rw[e] at h;exact absurd h (Rat.lt_irrefl)
 .split
  .rename_i h
   simp only[Int.reduceEq,false_iff];intro e;rw[e] at h;exact absurd h (Rat.lt_irrefl)
  .simp only[true_iff]
   grind
end Go.Clo
namespace Go.Proofs.YtoiioigihocgbaaGreatDoor
open Go.Clo
theorem C99{H:Y0}{nx lo p n m br cr gb bb cb sr sb c M:Nat}{bs:List Nat}{T:Lp.Tab}(h:TV H nx lo p n m br cr gb bb cb sr sb bs T)(hn:n<=20)(hm:m<=20)(hc:c<n+m+2)(hM:1<=M)(hS:∀ x,Lp.Sz (M*(M*M)) x->U15 x 100000)(hT:Lp.TSz m (n+m+2) M T):
  Q2 gQ 140 [.pointer (some ⟨p,0,none⟩),O8 (c:Int)] H nx fun v H' nx'=>D0 H nx H' nx' /\
   ((v=O8 (-1)/\∀ i,i<m->T.a i c<=0)\/∃ r:Nat,v=O8 (r:Int)/\Lp.Leaves m (n+m+1) T c r):=by
 have bg:M<=M*(M*M):=by
  have:M*1<=M*(M*M):=bG M (Nat.mul_pos hM hM);omega
 have az:M*M<=M*(M*M):=bG M (by have:M*1<=M*M:=bG M hM;omega);have sA:∀ i q,i<m->q<n+m+2->U15 (T.a i q) 100000:=fun i q hi hq=>hS _ ((hT.1 i q hi hq).mono bg)
 have sR:∀ i,i<m->U15 (T.a i (n+m+1)/T.a i c) 100000:=fun i hi=>hS _ (((hT.1 i _ hi O0).div hM (hT.1 i c hi hc)).mono az)
 have aj:=h.hp;unfold Q60 at aj;have bh:=h.pn;have bk:=h.rn;have b8:=h.bn;refine spec140 ?_;unfold F140;have cd:J0 (hs H nx (O7 [.bool false,O6,O6])) p=_:=(gN _).trans aj;simp only[W0,Q0.val,cd];have c6:D0 H nx (hs H nx (O7 [.bool false,O6,O6])) (nx+1):=(D0.refl H nx).nw _;refine B1 (m:=m) (fun k L H' nx'=>∃(i:Nat) (best:Int) (bc:List Value),k+i=m/\L=[O8 best,O8 (i:Int)]/\J0 H' nx=O7 bc/\V7 bc/\nx<nx'/\D0 H nx H' nx' /\
  ((best = -1/\∀ k,k<i->T.a k c<=0)\/∃ r:Nat,best=(r:Int)/\r<i/\0<T.a r c/\RR H' nx' (.agg ⟨bc⟩) (T.a r (n+m+1)/T.a r c) /\
   ∀ k,k<i->0<T.a k c->T.a r (n+m+1)/T.a r c<T.a k (n+m+1)/T.a k c\/(T.a r (n+m+1)/T.a r c=T.a k (n+m+1)/T.a k c/\T.B r<=T.B k))) ?_
  ⟨0,-1,_,O0,rfl,Z11 _ _ _,⟨_,_,_,_,_,_,_,rfl⟩,O0,c6,.inl ⟨rfl,fun k hk=>O0⟩⟩
 rintro k ih L H2 nx2 ⟨i,best,bc,hk,rfl,g2,a2,c7,hE,U⟩ ah
 by_cases hi:i<m
 case neg=>
  have ad:¬ (i:Int)<(m:Int):=O0;obtain rfl:i=m:=O0;simp only[W0,ad];refine⟨hE,?_⟩;rcases U with ⟨rfl,h1⟩ | ⟨r,rfl,h1,h2,h3,h4⟩
  .exact .inl ⟨rfl,h1⟩
  .exact .inr ⟨r,rfl,h1,h2,h4⟩
 have ad:(i:Int)<(m:Int):=O0;obtain⟨b,bd,ax⟩:=h.row hi;obtain⟨css,hg,bx,hl,hx⟩:=id (ax.ext hE);have c3:=(hE.get br bk).trans h.hr;have bo:=(hE.get p bh).trans aj;have bu:=(hE.get bb b8).trans h.hb;obtain⟨cc,aa⟩:∃ cc,css[c]? = some cc:=⟨css[c]'O0,aE _⟩
 obtain⟨cR,ae⟩:∃ cR,css[n+m+1]? = some cR:=⟨css[n+m+1]'O0,aE _⟩
 have ac:=hx c cc aa;have ao:=hx _ cR ae;rw[N13];simp(disch:=omega)only[W0,ad,c3,G71 bd,hg,J22 hx.three aa];refine Q103 (E74 ac ⟨by have:=(sA i c hi hc).1;omega,by have:=(sA i c hi hc).2;omega⟩) ?_;rintro _ H4 E H0 ⟨rfl,c4⟩ al b5;have Q:=c4.trans al;have cg:=Q.le;have cf:=hE.le;have g4:=(Q.get nx c7).trans g2;have ak:=(Q.gt p).trans bo;have an:=(Q.get b bx).trans hg;have c9:=(Q.gt bb).trans bu
 by_cases a1:(T.a i c).num.sign<=0
 .have bw:=X98.1 a1
  simp only[W0,a1];refine ah (k-1) _ _ _ O0 ⟨i+1,best,bc,O0,O2,g4,a2,O0,hE.trans Q,?_⟩;rcases U with ⟨rfl,h1⟩ | ⟨r,rfl,h1,h2,h3,h4⟩
  .refine .inl ⟨rfl,fun q hq => ?_⟩
   by_cases e:q=i
   .rw[e];exact bw
   .exact h1 q O0
  .refine .inr ⟨r,rfl,O0,h2,h3.ext Q,fun q hq a3 => ?_⟩
   by_cases e:q=i
   .rw[e] at a3;grind
   .exact h4 q O0 a3
 have bv:0<T.a i c:=by
  have:¬ T.a i c<=0:=fun hh=>a1 (X98.2 hh)
  grind
 simp only[W0,a1];refine R0 (Y76 (r:=[.slice (some ⟨br,0,none⟩) m cr,.slice (some ⟨gb,0,none⟩) (n+m+2) (n+m+2),.slice (some ⟨bb,0,none⟩) m cb]) ak O0 O0) ?_;rintro _ H4 ap ⟨rfl,rfl,ck⟩;simp(disch:=omega)only[W0,an,J22 hx.three aa,J22 hx.three ae];have ab:D0 H4 E H4 ap:=D0.sf;have av:(T.a i c).num≠0:=fun e=>by
  have:=C87.1 e;grind
 refine R0 (M101 ((ao.ext Q).ext ab) ((ac.ext Q).ext ab) (sA i _ hi O0) (sA i c hi hc) av) ?_;rintro _ H7 ai ⟨⟨u,rfl,hu⟩,a8⟩;have ci:=a8.le;obtain⟨uc,rfl,V⟩:=hu.num;have c8:J0 H7 (E+13)=none:=(a8.gt _).trans (b5 _ O0);have bt:=(a8.gt nx).trans g4;simp(disch:=omega)only[W0,Nat.reduceAdd,V.three,V.one,G24 (show uc.length=[dU false,O6,O6].length from V.three),bt,X15 a2,X15 V];have ag:D0 H4 E (hs (hs H7 (E+13) (O7 [.bool false,O6,O6])) (E+13) (O7 uc)) ai:=((a8.less (show E<=ap by omega)).h0).h0;have ca:J0 (hs (hs H7 (E+13) (O7 [.bool false,O6,O6])) (E+13) (O7 uc)) (E+13)=O7 uc:=Z11 _ _ _;have aw:RR (hs (hs H7 (E+13) (O7 [.bool false,O6,O6])) (E+13) (O7 uc)) ai (.agg ⟨uc⟩) (T.a i (n+m+1)/T.a i c):=
  (hu.boxn c8).boxs (Z11 _ _ _) (E46 _ _ _ _ _ _ _) (.inl rfl)
 generalize hs (hs H7 (E+13) (O7 [.bool false,O6,O6])) (E+13) (O7 uc)=H9 at *
 have cj:=ag.le;refine N5 (fun L a0 O=>∃ o:Int,L=[O8 o]/\D0 H9 ai a0 O/\((best = -1/\o = -1)\/∃ r:Nat,best=(r:Int)/\o=N70 (T.a i (n+m+1)/T.a i c) (T.a r (n+m+1)/T.a r c))) ?_ ?_
 .intro tj a4
  rcases U with ⟨rfl,h1⟩ | ⟨r,rfl,h1,h2,h3,h4⟩
  .have hb:¬ (0:Int) <= -1:=O0
   simp only[W0,hb];exact a4 _ _ _ ⟨-1,rfl,D0.refl _ _,.inl ⟨rfl,rfl⟩⟩
  .have hb:(0:Int)<=(r:Int):=O0
   simp only[W0,hb];refine R0 (X81 aw ((h3.ext Q).ext ag) (sR i hi) (sR r O0)) ?_;rintro _ a0 O ⟨rfl,Z⟩;exact a4 _ _ _ ⟨_,rfl,Z,.inr ⟨r,rfl,rfl⟩⟩
 rintro L a0 O ⟨o,rfl,Z,ho⟩;have J:=ag.trans Z;have bf:=J.le;have a6:=(J.gt nx).trans g4;have aq:=(Z.gt (E+13)).trans ca;have b4:=(J.gt p).trans ak;have b3:=(J.gt bb).trans c9;have a5:=hE.trans (Q.trans J);refine N5 (fun L bz au=>∃ t:Bool,L=[.bool t]/\a0=bz/\O+23=au/\(t=true<->o<0\/o=0/\∀ r:Nat,best=(r:Int)->T.B i<T.B r)) ?_ ?_
 .intro tj a4
  by_cases a7:o<0
  .simp only[W0,a7]
   exact a4 _ _ _ ⟨true,rfl,rfl,rfl,by simp[a7]⟩
  by_cases a9:o=0
  .rcases U with ⟨rfl,h1⟩ | ⟨r,rfl,h1,h2,h3,h4⟩
   .rcases ho with ⟨_,rfl⟩ | ⟨r,h5,_⟩
    .omega
    .omega
   .have cn:(r:Int)<(m:Int):=O0
    simp(disch:=omega)only[W0,a9,b4,b3,K73 hi,K73 (show r<m by omega)];refine a4 _ _ _ ⟨_,rfl,rfl,rfl,?_⟩
    constructor
    .intro h
     refine .inr ⟨a9,fun r' ce => ?_⟩;have:r=r':=O0;subst this;have:=of_decide_eq_true h;omega
    .rintro (h | ⟨_,h⟩)
     .omega
     .have:=h r rfl
      exact decide_eq_true O0
  .simp only[W0,a7,a9]
   exact a4 _ _ _ ⟨false,rfl,rfl,rfl,by simp[a7,a9]⟩
 rintro L _ _ ⟨t,rfl,rfl,rfl,ht⟩
 cases t with
 | true=>
  simp only[W0,aq,X15 V,V.three,V.one,a6,G24 (show uc.length=bc.length by rw[V.three,a2.three]),a2.three];have W:D0 a0 O a0 (O+23+4):=D0.sf;refine ah (k-1) _ _ _ O0 ⟨i+1,(i:Int),uc,O0,O2,Z11 _ _ _,V,O0,(a5.trans W).h0,.inr ⟨i,rfl,O0,bv,((aw.ext Z).ext W).boxs a6 (W81 a2) (.inl rfl),fun q hq a3 => ?_⟩⟩
  by_cases e:q=i
  .subst e;exact .inr ⟨rfl,aD _⟩
  have ht:=ht.1 rfl;have ba:q<i:=by clear ho U ht;omega
  rcases U with ⟨rfl,h1⟩ | ⟨r,rfl,h1,h2,h3,h4⟩
  .have:=h1 q ba
   clear ho ht
   grind
  .rcases ho with ⟨h5,_⟩ | ⟨r',h5,rfl⟩
   .omega
   have:r=r':=O0;subst this;have h6:=h4 q O0 a3;rcases ht with ht | ⟨ht,ht2⟩
   .have:=D77.1 ht
    left;rcases h6 with h6 | ⟨h6,_⟩
    .grind
    .rw[<- h6];exact this
   .have h7:=D97.1 ht
    have h8:=ht2 r rfl;rw[h7];rcases h6 with h6 | ⟨h6,h9⟩
    .exact .inl h6
    .exact .inr ⟨h6,O0⟩
 | false=>
  simp only[W0];have W:D0 a0 O a0 (O+23):=D0.sf;rcases U with ⟨rfl,h1⟩ | ⟨r,rfl,h1,h2,h3,h4⟩
  .rcases ho with ⟨_,rfl⟩ | ⟨r,h5,_⟩
   .simp at ht
   .omega
  rcases ho with ⟨h5,_⟩ | ⟨r',h5,rfl⟩
  .omega
  have:r=r':=O0;subst this;refine ah (k-1) _ _ _ O0 ⟨i+1,(r:Int),bc,O0,O2,a6,a2,O0,a5.trans W,.inr ⟨r,rfl,O0,h2,((h3.ext Q).ext J).ext W,fun q hq a3 => ?_⟩⟩
  by_cases e:q=i
  .subst e
   have ay:¬ (N70 (T.a q (n+m+1)/T.a q c) (T.a r (n+m+1)/T.a r c)<0\/N70 (T.a q (n+m+1)/T.a q c) (T.a r (n+m+1)/T.a r c)=0/\∀ r':Nat,(r:Int)=(r':Int)->T.B q<T.B r'):=fun hh=>absurd (ht.2 hh) (by decide)
   by_cases h6:T.a q (n+m+1)/T.a q c=T.a r (n+m+1)/T.a r c
   .refine .inr ⟨h6.symm,?_⟩
    refine aI fun h7=>ay (.inr ⟨D97.2 h6,fun r' ce => ?_⟩)
    have:r=r':=O0;subst this;omega
   .left
    have h7:¬ T.a q (n+m+1)/T.a q c<T.a r (n+m+1)/T.a r c:=fun hh=>ay (.inl (D77.2 hh))
    grind
  .exact h4 q O0 a3
end Go.Proofs.YtoiioigihocgbaaGreatDoor
namespace Go.Clo
theorem W108{k K:Nat}(hk:k<32*K):2^k<4294967296^K:=by
 rw[show(4294967296:Nat)=2^32 from rfl,<- Nat.pow_mul];exact Nat.pow_lt_pow_right O0 hk
theorem R87{x:Rat}{k:Nat}(h:Lp.Sz (2^k) x)(hk:k<32*99998):U15 x 100000:=by
 have E:=W108 hk;exact⟨by have:=E29 (iF h.1 E);omega,by have:=E29 (iF h.2 E);omega⟩
theorem X97{x:Rat}(h:Lp.Sz (2^Lp.expN 8*(2^Lp.expN 8*2^Lp.expN 8)) x):U15 x 100000:=by
 rw[<- Nat.pow_add,<- Nat.pow_add] at h;have h8:Lp.expN 8=21845:=rfl;exact R87 h O0
theorem W97{x:Rat}:0<=x.num.sign<->0<=x:=by
 rw[<- Rat.num_nonneg,Int.sign_nonneg_iff]
end Go.Clo
namespace Go.Proofs.YtoiioigihocgbaaGreatDoor
open Go.Clo
theorem G96{H:Y0}{nx lo p n m br cr gb bb cb sr sb:Nat}{bs:List Nat}{s:Nat->Nat->Bool}(h:TV H nx lo p n m br cr gb bb cb sr sb bs (Lp.tabK n m s 0))(hn:n<=20)(hm:m<=8)(ab:∀ v,v<n->∃ r,r<m/\s r v=true)(al:lo<=nx):
  Q2 gQ 124 [.pointer (some ⟨p,0,none⟩),O8 ((n+m:Nat):Int)] H nx fun v H' nx'=>v = .tuple ⟨[O8 0,.bool true]⟩/\nx<=nx'/\D0 H lo H' nx' /\
   ∃ a0 U,TV H' nx' lo p n m br cr a0 bb cb sr sb U (Lp.tabK n m s (Lp.steps n m s)):=by
 have hM:1<=2^Lp.expN 8:=aQ _;refine spec124 ?_;unfold F124;refine B1 (m:=Lp.steps n m s) (fun M L H' nx'=>∃(k a0:Nat) (U:List Nat),M+k=Lp.steps n m s/\nx<=nx'/\D0 H lo H' nx'/\TV H' nx' lo p n m br cr a0 bb cb sr sb U (Lp.tabK n m s k)) ?_
  ⟨0,gb,bs,O0,aD _,D0.self al,h⟩
 rintro M bh L1 H1 au ⟨k,ao,ap,bd,b4,a8,h1⟩ a4;have hk:k<=Lp.steps n m s:=O0;have a5:=Lp.tabK_can hk;have a3:=Lp.tabK_sz hm hk;have ak:=Lp.tabK_eqv hk;refine B1 (m:=n+m) (fun q L H' nx'=>∃ j:Nat,q+j=n+m/\L=[O8 (j:Int)]/\D0 H1 au H' nx'/\∀ i,i<j->0<=(Lp.tabK n m s k).g i) ?_ ⟨0,O0,rfl,D0.refl _ _,fun i hi=>O0⟩;rintro q bf L2 H2 nx2 ⟨j,hq,rfl,O,hj⟩ a9;have h2:=h1.ext O;have b8:=O.le;have E:D0 H lo H2 nx2:=a8.trans (O.less (by have:=a8.le;omega))
 by_cases ae:j<n+m
 case neg=>
  have Z:¬ (j:Int)<((n+m:Nat):Int):=O0;obtain rfl:j=n+m:=O0;have V:=Lp.tabK_last hk hj;simp only[W0,Z];refine⟨O0,E,ao,ap,?_⟩;rw[<- V];exact h2
 have Z:(j:Int)<((n+m:Nat):Int):=O0;have ag:=h2.hp;unfold Q60 at ag;obtain⟨css,hg,bg,hl,hx⟩:=id h2.goal;obtain⟨cc,aa⟩:∃ cc,css[j]? = some cc:=⟨css[j]'O0,aE _⟩
 have a7:=hx j cc aa;have a6:=R87 (a3.2 j O0) (show Lp.expN 8<32*99998 by decide);simp(disch:=omega)only[W0,Z,ag,hg,J22 hx.three aa];refine R0 (E74 a7 ⟨by have:=a6.1;omega,by have:=a6.2;omega⟩) ?_;rintro _ H3 bc ⟨rfl,J⟩;have h3:=h2.ext J;have ay:=J.le
 by_cases hs:0<=((Lp.tabK n m s k).g j).num.sign
 .have aj:=W97.1 hs
  simp only[W0,hs];refine a9 (q-1) _ _ _ O0 ⟨j+1,O0,O2,O.trans J,fun i hi => ?_⟩
  by_cases e:i=j
  .rw[e];exact aj
  .exact hj i O0
 have an:(Lp.tabK n m s k).g j<0:=by
  have:¬ 0<=(Lp.tabK n m s k).g j:=fun hh=>hs (W97.2 hh)
  grind
 have ac:Lp.Enters (n+m) (Lp.tabK n m s k) j:=⟨ae,an,hj⟩
 simp only[W0,hs];refine R0 (C99 h3 hn O0 (show j<n+m+2 by omega) hM (fun _=>X97) a3) ?_;rintro _ H4 aw ⟨W,⟨rfl,ad⟩ | ⟨r,rfl,a1⟩⟩
 .obtain⟨i,hi,ba⟩:=Lp.bounded ab a5 ak ae
  have:=ad i hi
  grind
 have h4:=h3.ext W;have b5:=W.le;have ah:¬ (r:Int)<0:=O0;simp only[W0,ah];have ax:(Lp.tabK n m s k).a r j≠0:=by have:=a1.2.1;grind
 have Q:D0 H lo H4 aw:=(E.trans (J.less (by have:=E.le;omega))).trans (W.less (by have:=E.le;omega));obtain⟨az,a2⟩:=Lp.tabK_next hk ac a1;refine R0 (E104 h4 hn O0 a1.1 (show j<n+m+2 by omega) ax hM (fun _=>X97) a3 (by have:=Q.le;omega)) ?_;rintro _ H5 bk ⟨rfl,b3,aq,ai,av,h5⟩;refine a4 (M-1) _ _ _ O0 ⟨k+1,ai,av,O0,O0,Q.both aq,?_⟩;rw[a2];exact h5
end Go.Proofs.YtoiioigihocgbaaGreatDoor
namespace Go.Clo
section
variable {H H':Y0} {nx p q:Nat}
theorem NN.sub{n:Nat}{v:Value}(h:NN H nx v n)(e:Sub H nx H'):NN H' nx v n:=by
 obtain⟨A,c,rfl,hD⟩:=h;refine⟨A,c,rfl,fun j x hx => ?_,?_,hD.small,hD.le⟩
 .obtain⟨b,o,E,e1,e2,e3,e4⟩:=hD.sl j x hx
  refine⟨b,o,E,e1,e2,?_,e4⟩;unfold Q5 at e3 ⊢
  cases hg:J0 H b with
  | none=>rw[hg] at e3;cases e3
  | some k=>rw[hg] at e3;rw[e b k e2 hg];exact e3
 .rcases hD.sk with e0 | ⟨b,o,row,e1,e2,e3⟩
  .exact .inl e0
  .refine .inr ⟨b,o,row,e1,e2,e3.imp (e b _ e2) ?_⟩
   rintro⟨sl,h1,h2⟩;exact⟨sl,h1,e b _ e2 h2⟩
theorem RR.sub{H:Y0}{nx:Nat}{v:Value}{x:Rat}{H':Y0}(h:RR H nx v x)(e:Sub H nx H'):RR H' nx v x:=
 let ⟨a,b,h1,h2,h3⟩:=h;⟨a,b,h1,h2.sub e,h3.sub e⟩
theorem RX.sub{H:Y0}{nx:Nat}{css:List (List Value)}{X:Nat->Rat}{H':Y0}(h:RX H nx css X)(e:Sub H nx H'):RX H' nx css X:=fun q c hc=>(h q c hc).sub e
theorem RO.sub{H:Y0}{nx b n:Nat}{X:Nat->Rat}{H':Y0}(h:RO H nx b n X)(e:Sub H nx H'):RO H' nx b n X:=by
 obtain⟨css,hg,hb,hl,hx⟩:=h;exact⟨css,e b _ hb hg,hb,hl,hx.sub e⟩
theorem Sub.of(h:∀ i,J0 H' i=J0 H i):Sub H nx H':=fun i b _ hb=>by rw[h];exact hb
theorem R100{nx':Nat}(e:D0 H nx H' nx')(hp:nx<=p)(hq:nx<=q):D0 H nx (er2 H' p q) nx':=
 ⟨e.le,fun i hi=>by rw[U48 O0 O0];exact e.get i hi⟩
theorem J94{b p q:Nat}{x:Option V3}(hp:b≠p)(hq:b≠q)(i:Nat):J0 (er2 (hs H b x) p q) i=J0 (hs (er2 H p q) b x) i:=by
 rw[N7]
 by_cases h1:i=p
 .subst h1;rw[V79,if_neg (eT hp),V79]
 .by_cases h2:i=q
  .subst h2;rw[X80,if_neg (eT hq),X80]
  .rw[U48 h1 h2,U48 h1 h2,N7]
def RSl(H:Y0)(nx:Nat)(A:Option Addr)(n:Nat)(X:Nat->Rat):Prop:=∃ css,Sl H nx A css.flatten/\css.length=n/\RX H nx css X
theorem RSl.ext{H:Y0}{nx:Nat}{A:Option Addr}{n:Nat}{X:Nat->Rat}{H':Y0}{nx':Nat}(h:RSl H nx A n X)(e:D0 H nx H' nx'):RSl H' nx' A n X:=let ⟨css,h1,h2,h3⟩:=h;⟨css,h1.ext e,h2,h3.ext e⟩
theorem RSl.open{H:Y0}{nx:Nat}{A:Option Addr}{n:Nat}{X:Nat->Rat}(h:RSl H nx A n X)(hn:0<n):∃ b o row,A=some ⟨b,o,none⟩/\b<nx/\Q5 H b=some row /\
  ∀ j,j<n->∃ c,V7 c/\RR H nx (.agg ⟨c⟩) (X j)/\∀ k:VP,B10 row (o+j*3) (some 3) k=k (.agg ⟨c⟩):=by
 obtain⟨css,hS,hl,hx⟩:=h;have O:=W26 hx.three;obtain⟨b,o,row,rfl,hb,J,E⟩:=hS.open (i:=0) O0;refine⟨b,o,row,rfl,hb,J,fun j hj => ?_⟩;have hc:css[j]? = some css[j]:=aE O0;refine⟨css[j],hx.tri _ (aH hc),hx j _ hc,fun k => ?_⟩;refine M51 (hx.three _ (aH hc)) (fun i v hv => ?_) k O0;have hi:i<3:=by
  have:=(aJ.1 hv).1;rw[hx.three _ (aH hc)] at this;exact this
 have:=E (3*j+i) v (by rw[G72 hx.three hc hi];exact hv);rw[show o+j*3+i=o+(3*j+i) by omega];exact this
structure RW (H:Y0) (nx b p q N:Nat) (css:List (List Value)) (X:Nat->Rat):Prop where
 get:J0 H b=some (.cells css.flatten 0)
 lt:b<nx
 len:css.length=N
 rx:RX (er2 H p q) nx css X
 bp:b≠p
 bq:b≠q
theorem RW.ext{H:Y0}{nx b p q N:Nat}{css:List (List Value)}{X:Nat->Rat}{H':Y0}{nx':Nat}(h:RW H nx b p q N css X)(e:D0 H nx H' nx'):RW H' nx' b p q N css X:=
 ⟨(e.get b h.lt).trans h.get,aO h.lt e.le,h.len,h.rx.ext (G85 e),h.bp,h.bq⟩
theorem RW.put{H:Y0}{nx b p q N i:Nat}{css:List (List Value)}{X Y:Nat->Rat}{c:List Value}{y:Rat}(h:RW H nx b p q N css X)(hc:RR (er2 H p q) nx (.agg ⟨c⟩) y)(hi:i<N)(hY:Y i=y)(hX:∀ k,k<N->k≠i->Y k=X k):
  RW (hs H b (some (.cells (css.set i c).flatten 0))) nx b p q N (css.set i c) Y:=by
 refine⟨Z11 _ _ _,h.lt,by rw[dO];exact h.len,?_,h.bp,h.bq⟩;have:=RX.put (Y:=fun k=>if k=i then y else X k) h.rx (b:=b) (sl:=0) (i:=i) (by rw[U48 h.bp h.bq];exact h.get) hc (by rw[h.len];exact hi) O2 (fun k hk=>by simp[hk]);have h2:=this.sub (Sub.of (J94 (x:=some (.cells (css.set i c).flatten 0)) h.bp h.bq));intro k d hd;have:=h2 k d hd;have hk:k<N:=by have:=(aJ.1 hd).1;rw[dO,h.len] at this;exact this
 by_cases e:k=i
 .subst e;rw[hY];simpa using this
 .rw[hX k hk e];simpa [e] using this
theorem RW.ro{b N:Nat}{css:List (List Value)}{X:Nat->Rat}(h:RW H nx b p q N css X):RO (er2 H p q) nx b N X:=⟨css,by rw[U48 h.bp h.bq];exact h.get,h.lt,h.len,h.rx⟩
def V63(n m:Nat)(X:Nat->Nat->Rat)(r j:Nat):Rat:=if j<n then X r j else if j<n+m then(if j=n+r then 1 else 0) else if j=n+m then -1 else 1
structure TQ (H:Y0) (nx lo p n m br cr bb cb sr sb:Nat) (bs:List Nat) (a:Nat->Nat->Rat) (B:Nat->Nat):Prop where
 hp:J0 H p=some (.cells [.int .i64 (n:Int),.int .i64 (m:Int),.slice (some ⟨br,0,none⟩) m cr,.slice none 0 0,.slice (some ⟨bb,0,none⟩) m cb] 0)
 hr:J0 H br=some (.cells (slR (n+m+2) bs) sr)
 hb:J0 H bb=some (.cells (Z57 m B) sb)
 len:bs.length=m
 rows:∀ i b,bs[i]? = some b->RO H nx b (n+m+2) (a i)
 lop:lo<=p
 lor:lo<=br
 lob:lo<=bb
 pn:p<nx
 rn:br<nx
 bn:bb<nx
 sr1:sr=0\/sr=1
 sb1:sb=0\/sb=1
theorem TQ.ext{H:Y0}{nx lo p n m br cr bb cb sr sb:Nat}{bs:List Nat}{a:Nat->Nat->Rat}{B:Nat->Nat}{H':Y0}{nx':Nat}(h:TQ H nx lo p n m br cr bb cb sr sb bs a B)(e:D0 H nx H' nx'):TQ H' nx' lo p n m br cr bb cb sr sb bs a B:=by
 have:=e.le;have:=h.pn;have:=h.rn;have:=h.bn;exact⟨(e.get p h.pn).trans h.hp,(e.get br h.rn).trans h.hr,(e.get bb h.bn).trans h.hb,h.len,fun i b hb=>(h.rows i b hb).ext e,h.lop,h.lor,h.lob,O0,O0,O0,h.sr1,h.sb1⟩
theorem V93(x y:Int)(A C D:Option Addr)(l1 c1 l2 c2 l3 c3:Nat):∀(q:Nat) (z:Int),[cD .i64 x,O8 y,.slice A l1 c1,.slice C l2 c2,.slice D l3 c3][q]? ≠ some (cD .u32 z):=by
 intro q z h
 match q,h with
 | 0,h=>simp at h
 | 1,h=>simp at h
 | 2,h=>simp at h
 | 3,h=>simp at h
 | 4,h=>simp at h
end
theorem N29{lo:Nat}{H:Y0}{nx size:Nat}{v:Value}{n:Nat}{c:List Value}(h:Acc lo H nx size v n c){d:Nat}:(v=O6/\n=0/\R5 d v=d)\/(∃ b,v = .slice (some ⟨b,0,none⟩) n n/\R5 d v=b/\lo<=b/\b<nx/\J0 H b=some (.cells c size)):=by
 rcases h.2 with ⟨h1,h2⟩ | ⟨b,h1,h2,h3,h4⟩
 .subst h2;exact .inl ⟨rfl,h1,rfl⟩
 .subst h3;exact .inr ⟨b,rfl,rfl,h1,h2,h4⟩
theorem Acc.same{lo:Nat}{H:Y0}{nx size:Nat}{v:Value}{n:Nat}{c:List Value}(h:Acc lo H nx size v n c){H':Y0}{nx':Nat}(E:nx<=nx')(e:∀ b,lo<=b->b<nx->(∀ d,R5 d v=b)->J0 H' b=J0 H b):Acc lo H' nx' size v n c:=by
 refine⟨h.1,h.2.imp id ?_⟩;rintro⟨b,h1,h2,h3,h4⟩;exact⟨b,h1,O0,h3,by rw[e b h1 h2 fun d=>by rw[h3];rfl];exact h4⟩
theorem J97(N:Nat)(bs:List Nat)(b:Nat):slR N (bs++[b])=slR N bs++[.slice (some ⟨b,0,none⟩) N N]:=by simp[slR]
theorem B104(i:Nat)(B:Nat->Nat):Z57 (i+1) B=Z57 i B++[O8 (B i:Int)]:=by simp[Z57,List.range_succ]
theorem D80(z:Int)(h:z=0\/z=1\/z = -1):U15 (z:Rat) 400000:=by
 have h1:(D11 1).length<=1:=E29 O0;have h0:(D11 0).length<=1:=E29 O0;rcases h with rfl | rfl | rfl
 .exact⟨by show(D11 0).length<_;omega,by show(D11 1).length<_;omega⟩
 .exact⟨by show(D11 1).length<_;omega,by show(D11 1).length<_;omega⟩
 .exact⟨by show(D11 1).length<_;omega,by show(D11 1).length<_;omega⟩
end Go.Clo
namespace Go.Proofs.YtoiioigihocgbaaGreatDoor
open Go.Clo
theorem X93{H:Y0}{nx n m cC cA cB:Nat}{AC AA AB:Option Addr}{X:Nat->Nat->Rat}{ac:List Value}(hn:1<=n)(fy:n<=20)(gd:1<=m)(hm:m<=20)(hA:Sl H nx AA ac)(gc:ac.length=m)(dd:∀ i,i<m->∃ Ai ci,ac[i]? = some (.slice Ai n ci)/\RSl H nx Ai n (X i))(hB:RSl H nx AB m (fun _=>1))(sX:∀ i q,i<m->q<n->U15 (X i q) 400000):
  Q2 gQ 120 [.agg ⟨[.slice AC n cC,.slice AA m cA,.slice AB m cB]⟩] H nx fun v H' nx'=>v = .pointer (some ⟨nx+1,0,none⟩)/\D0 H nx H' nx' /\
   ∃ br cr bb cb sr sb bs,TQ H' nx' nx (nx+1) n m br cr bb cb sr sb bs (V63 n m X) (fun r=>n+r):=by
 obtain⟨bA,oA,fg,rfl,ff,dz,ck⟩:=hA.open (i:=0) O0;obtain⟨bB,oB,da,rfl,e0,bu,c7⟩:=hB.open O0;refine spec120 ?_;unfold F120;have ec:∀(x y:Int) (k:VP),U11 [O8 0,O8 0,O6,O6,O6] [(0,1),(1,1),(2,1),(3,1),(4,1)] [(0,O8 x),(1,O8 y)] k=k (.agg ⟨[O8 x,O8 y,O6,O6,O6]⟩):=fun x y k=>V14 _ _
 simp(disch:=omega)only[W0,Z0,Q0.val,ec];have f8:D0 H nx (hs (hs H nx (O7 [.slice AC n cC,.slice (some ⟨bA,oA,none⟩) m cA,.slice (some ⟨bB,oB,none⟩) m cB])) (nx+1) (O7 [O8 (n:Int),O8 (m:Int),O6,O6,O6])) (nx+1+1):=
  ((D0.refl H nx).nw _ (m:=nx+1)).nw _
 refine B1 (m:=m) (fun k L H' nx'=>∃(i:Nat) (vr vb:Value) (bs:List Nat),k+i=m/\L=[O8 (i:Int)]/\D0 H nx H' nx'/\nx+2<=nx' /\
   J0 H' nx=O7 [.slice AC n cC,.slice (some ⟨bA,oA,none⟩) m cA,.slice (some ⟨bB,oB,none⟩) m cB]/\J0 H' (nx+1)=O7 [O8 (n:Int),O8 (m:Int),vr,O6,vb] /\
   Acc (nx+2) H' nx' 1 vr i (slR (n+m+2) bs)/\bs.length=i/\Acc (nx+2) H' nx' 1 vb i (Z57 i fun r=>n+r) /\
   (∀ k b,bs[k]? = some b->RO (er2 H' (R5 nx vr) (R5 nx vb)) nx' b (n+m+2) (V63 n m X k))/\((vr=O6/\vb=O6)\/R5 nx vr≠R5 nx vb)) ?_
  ⟨0,O6,O6,[],O0,rfl,f8,O0,by rw[gN _,Z11],Z11 _ _ _,Acc.nil _ _ _ _,rfl,Acc.nil _ _ _ _,fun k b hb=>by simp at hb,.inl ⟨rfl,rfl⟩⟩
 rintro k ih L H1 b5 ⟨i,vr,vb,bs,hk,rfl,ap,fu,g0,g1,aq,an,ak,ai,e4⟩ em
 by_cases hi:i<m
 case neg=>
  have bw:¬ (i:Int)<(m:Int):=O0;obtain rfl:i=m:=O0;simp only[W0,bw];refine⟨ap,?_⟩;rcases N29 aq (d:=nx) with ⟨_,h0,_⟩ | ⟨br,rfl,_,h3,h4,h5⟩
  .omega
  rcases N29 ak (d:=nx) with ⟨_,h0,_⟩ | ⟨bb,rfl,_,gh,f5,ek⟩
  .omega
  exact⟨br,i,bb,i,1,1,bs,g1,h5,ek,an,fun q b hb=>(ai q b hb).sub (fun j v _ hv=>V97 j v hv),O0,O0,O0,O0,h4,f5,.inr rfl,.inr rfl⟩
 have bw:(i:Int)<(m:Int):=O0;obtain⟨Ai,ci,fe,ew⟩:=dd i hi;obtain⟨bX,oX,ed,rfl,eg,d9,c9⟩:=ew.open O0;have fj:=ck i _ fe;have cy:Q5 H1 bA=some fg:=(ap.row ff).trans dz;obtain⟨Ar,lr,cr,cv⟩:∃ A l c,vr = .slice A l c:=by
  rcases N29 aq (d:=nx) with ⟨hv,_⟩ | ⟨b,hv,_⟩<;>exact⟨_,_,_,hv⟩
 obtain⟨Ab,lb,cb,dk⟩:∃ A l c,vb = .slice A l c:=by
  rcases N29 ak (d:=nx) with ⟨hv,_⟩ | ⟨b,hv,_⟩<;>exact⟨_,_,_,hv⟩
 generalize hp:R5 nx vr=p at *
 generalize hq:R5 nx vb=q at *
 have e1:nx<=p/\p<b5/\p≠nx+1:=by
  rcases N29 aq (d:=nx) with ⟨_,h0,h1⟩ | ⟨br,_,h1,h3,h4,h5⟩
  .omega
  .omega
 have d8:nx<=q/\q<b5/\q≠nx+1:=by
  rcases N29 ak (d:=nx) with ⟨_,h0,h1⟩ | ⟨br,_,h1,h3,h4,h5⟩
  .omega
  .omega
 simp(disch:=omega)only[W0,bw,X3 cy,fj];refine R0 (Y76 (r:=[vr,O6,vb]) g1 O0 O0) ?_;rintro _ H1 J ⟨rfl,rfl,ae⟩;simp(disch:=omega)only[W0];rw[show((n+m+1:Nat):Int)+1=((n+m+2:Nat):Int) by omega];refine R76 (p:=p) (q:=q) O0 O0 (W82 (n:=n+m+2) O0 _ _) (fun _ _ _ h=>h.2.2) ?_;rintro _ H5 ce H0 ⟨rfl,fi,db⟩ dt ef _;have dj:J≠p:=O0;have bv:J≠q:=O0;obtain⟨cx,d6⟩:∃ css,RW H5 ce J p q (n+m+2) css (fun _=>0):=by
  obtain⟨css,a1,a2,a3,a4⟩:=fi.ro.sub ef;rw[iC] at a3;refine⟨css,by rw[<- U48 dj bv];exact a1,a2,a3,fun j c hc => ?_,dj,bv⟩;have:=a4 j c hc;simp only[aP,List.getElem?_replicate] at this;have hj:=(aJ.1 hc).1;rw[if_pos O0] at this;exact this
 have fq:=dt.le;have fl:J<ce:=d6.lt;refine B1 (m:=n) (fun k2 L H' nx'=>∃(j:Nat) (css:List (List Value)),k2+j=n/\L=[O8 (j:Int)]/\D0 H1 J H' nx'/\ce<=nx'/\RW H' nx' J p q (n+m+2) css (fun t=>if t<j then X i t else 0)) ?_ ⟨0,cx,O0,rfl,dt,aD _,by simpa using d6⟩;rintro k2 g9 L2 H6 ag ⟨j,css,gi,rfl,au,ft,hW⟩ dh;have bh:=ap.trans (au.less ae);have dn:Q5 H6 bX=some ed:=(bh.row eg).trans d9
 by_cases hj:j<n
 .have bz:(j:Int)<(n:Int):=O0
  obtain⟨cc,ad,dc,ez⟩:=c9 j hj;simp(disch:=omega)only[W0,Nat.reduceAdd,bz,X3 dn,ez,ad.three,ad.one,G24 (show cc.length=[dU false,O6,O6].length from ad.three),X15 ad];have ca:D0 H6 ag (hs (hs H6 ag (O7 [.bool false,O6,O6])) ag (O7 cc)) (ag+1):=((D0.refl _ _).nw _ (m:=ag+1)).nw _;refine R76 (p:=p) (q:=q) O0 O0 (E71 (dc.ext (R100 (bh.trans ca) e1.1 d8.1)) (sX i j hi hj)) (fun _ _ _ h=>h.2) ?_;rintro r H9 g5 H0 ⟨hr,db⟩ c6 ea _;obtain⟨rc,rfl,f4⟩:=hr.num;have fb:=hr.sub ea;have b4:=(hW.ext ca).ext c6;have g3:=c6.le;rw[cG j 3,R74 b4.get b4.rx.tri f4 (by rw[b4.len];omega)];refine dh (k2-1) _ _ _ O0 ⟨j+1,css.set j rc,O0,O2,((au.trans ca).trans c6).h0,O0,b4.put (i:=j) fb O0 O2 (fun t _ ht => ?_)⟩
  by_cases h1:t<j
  .rw[if_pos h1,if_pos O0]
  .rw[if_neg h1,if_neg O0]
 obtain rfl:j=n:=O0;have bz:¬ (j:Int)<(j:Int):=O0;have g6:=(au.gt (nx+1)).trans g1;have fk:=(au.gt nx).trans g0;simp(disch:=omega)only[W0,bz,g6];rw[show((j:Int)+(i:Int)).toNat=j+i by omega];refine R76 (p:=p) (q:=q) O0 O0 (R73 (n:=1) O0 O0 _ _) (fun _ _ _ h=>h.2) ?_;rintro r1 al bg H0 ⟨cp,db⟩ e5 d2 _;obtain⟨c1,rfl,eb⟩:=cp.num;have de:=cp.sub d2;have Q:D0 H6 ag al bg:=(D0.sf).trans e5;have ab:=hW.ext Q;have f3:=Q.le;have g12:=(Q.gt (nx+1)).trans g6;have dx:=(Q.gt nx).trans fk;rw[cG (j+i) 3,R74 ab.get ab.rx.tri eb (by rw[ab.len];omega)];have dq:=ab.put (i:=j+i) (Y:=fun t=>if t<j then X i t else if t=j+i then 1 else 0) de O0 (by rw[if_neg O0,if_pos rfl];rfl) (fun t _ ht=>by
  by_cases h1:t<j
  .rw[if_pos h1,if_pos h1]
  .rw[if_neg h1,if_neg h1,if_neg ht])
 have dl:J0 (hs al J (some (.cells (css.set (j+i) c1).flatten 0))) (nx+1)=_:=(gN _).trans g12;have cu:J0 (hs al J (some (.cells (css.set (j+i) c1).flatten 0))) nx=_:=(gN _).trans dx;have d3:D0 H1 J (hs al J (some (.cells (css.set (j+i) c1).flatten 0))) bg:=(au.trans Q).h0;generalize hs al J (some (.cells (css.set (j+i) c1).flatten 0))=ey at *
 generalize css.set (j+i) c1=cssB at *
 simp only[W0,g12];refine R0 (R93 (r:=[vr,O6,vb]) dl O0 O0) ?_;rintro _ ey fw ⟨rfl,rfl,av⟩;simp(disch:=omega)only[W0];have dp:=dq.ext (D0.self av);refine R76 (p:=p) (q:=q) O0 O0 (R73 (n := -1) O0 O0 _ _) (fun _ _ _ h=>h.2) ?_;rintro r2 b3 bf gj ⟨dw,fv⟩ a0 e3 _;obtain⟨c2,rfl,fc⟩:=dw.num;have d5:=dw.sub e3;have a8:=dp.ext a0;have fa:=a0.le;have ee:=(a0.gt (nx+1)).trans dl;have dv:=(a0.gt nx).trans cu;rw[cG (j+m) 3,R74 a8.get a8.rx.tri fc (by rw[a8.len];omega)];have d7:=a8.put (i:=j+m) (Y:=fun t=>if t<j then X i t else if t=j+i then 1 else if t=j+m then -1 else 0) d5 O0 (by rw[if_neg O0,if_neg O0,if_pos rfl];rfl) (fun t _ ht=>by
  by_cases h1:t<j
  .rw[if_pos h1,if_pos h1]
  .rw[if_neg h1,if_neg h1]
   by_cases h2:t=j+i
   .rw[if_pos h2,if_pos h2]
   .rw[if_neg h2,if_neg h2,if_neg ht])
 have e2:J0 (hs b3 J (some (.cells (cssB.set (j+m) c2).flatten 0))) (nx+1)=_:=(gN _).trans ee;have ah:J0 (hs b3 J (some (.cells (cssB.set (j+m) c2).flatten 0))) nx=_:=(gN _).trans dv;have aj:D0 H1 J (hs b3 J (some (.cells (cssB.set (j+m) c2).flatten 0))) bf:=((d3.more av).trans a0).h0;generalize hs b3 J (some (.cells (cssB.set (j+m) c2).flatten 0))=b8 at *
 generalize cssB.set (j+m) c2=cssC at *
 refine R0 (Y76 (r:=[vr,O6,vb]) e2 O0 O0) ?_;rintro _ b8 ct ⟨rfl,rfl,ep⟩;have a6:=ap.trans (aj.less ae);have bk:Q5 b8 bB=some da:=(a6.row e0).trans bu;obtain⟨gf,fz,e8,bt⟩:=c7 i hi;simp(disch:=omega)only[W0,ah,X3 bk,bt];have O:D0 b8 bf b8 ct:=D0.sf;have dm:=d7.ext O;refine R76 (p:=p) (q:=q) O0 O0 (E71 (e8.ext (R100 (a6.trans O) e1.1 d8.1)) (D80 1 O2)) (fun _ _ _ h=>h.2) ?_;rintro r3 ay E fp ⟨co,ei⟩ U d4 _;obtain⟨c3,rfl,fh⟩:=co.num;have du:=co.sub d4;have a9:=dm.ext U;have eu:=U.le;have f0:=(U.gt (nx+1)).trans e2;have bc:=(U.gt nx).trans ah;have cg:Q5 ay bB=some da:=((a6.trans (O.trans U)).row e0).trans bu;rw[cG (j+m+1) 3,R74 a9.get a9.rx.tri fh (by rw[a9.len];omega)];have df:=a9.put (i:=j+m+1) (Y:=V63 j m X i) du (show j+m+1<j+m+2 by omega) (by unfold V63;rw[if_neg O0,if_neg O0,if_neg O0]) (fun t ht gg=>by
  unfold V63
  by_cases h1:t<j
  .rw[if_pos h1,if_pos h1]
  .rw[if_neg h1,if_neg h1]
   by_cases h2:t<j+m
   .rw[if_pos h2]
    by_cases h3:t=j+i
    .rw[if_pos h3,if_pos h3]
    .rw[if_neg h3,if_neg h3,if_neg O0]
   .by_cases h3:t=j+m
    .rw[if_neg h2,if_pos h3,if_neg (show ¬ t=j+i by omega),if_pos h3]
    .omega)
 have di:J0 (hs ay J (some (.cells (cssC.set (j+m+1) c3).flatten 0))) (nx+1)=_:=(gN _).trans f0;have cz:J0 (hs ay J (some (.cells (cssC.set (j+m+1) c3).flatten 0))) nx=_:=(gN _).trans bc;have ba:D0 H1 J (hs ay J (some (.cells (cssC.set (j+m+1) c3).flatten 0))) E:=((aj.trans O).trans U).h0;generalize hs ay J (some (.cells (cssC.set (j+m+1) c3).flatten 0))=H20 at *
 generalize cssC.set (j+m+1) c3=cssD at *
 have f7:∀(A:Option Addr) (l c:Nat) (k:List Value->Prop),K6 1 1 [O6] [(0,.slice A l c)] k=k [.slice A l c]:=fun A l c k=>rfl
 simp only[W0,di,f7];have e7:∀(x:Int) (k:List Value->Prop),K6 1 1 [O8 0] [(0,O8 x)] k=k [O8 x]:=fun x k=>rfl
 have hP:nx+2<=R5 (E+1) vr/\(R5 (E+1) vr=p\/R5 (E+1) vr=E+1):=by
  rcases N29 aq (d:=E+1) with ⟨hv,_,h1⟩ | ⟨b,hv,h1,h3,h4,h5⟩
  .exact⟨O0,.inr h1⟩
  .refine⟨O0,.inl ?_⟩
   rw[<- hp,hv];rfl
 have hQ:nx+2<=R5 (E+1+1+16) vb/\(R5 (E+1+1+16) vb=q\/R5 (E+1+1+16) vb=E+1+1+16):=by
  rcases N29 ak (d:=E+1+1+16) with ⟨hv,_,h1⟩ | ⟨b,hv,h1,h3,h4,h5⟩
  .exact⟨O0,.inr h1⟩
  .refine⟨O0,.inl ?_⟩
   rw[<- hq,hv];rfl
 have aa:D0 H1 b5 (hs H20 E (O7 [.slice (some ⟨J,0,none⟩) (j+m+2) (j+m+2)])) (E+1):=(ba.less ae).nw _;have W:D0 H20 E (hs H20 E (O7 [.slice (some ⟨J,0,none⟩) (j+m+2) (j+m+2)])) (E+1):=(D0.refl _ _).nw _;have f9:J0 (hs H20 E (O7 [.slice (some ⟨J,0,none⟩) (j+m+2) (j+m+2)])) E=O7 [.slice (some ⟨J,0,none⟩) (j+m+2) (j+m+2)]:=Z11 _ _ _;generalize hs H20 E (O7 [.slice (some ⟨J,0,none⟩) (j+m+2) (j+m+2)])=H21 at *
 have dr:Src H21 1 (.slice (some ⟨E,0,none⟩) 1 1) 1 [.slice (some ⟨J,0,none⟩) (j+m+2) (j+m+2)]:=J9 f9 rfl O0;have d0:Z0 [Value.slice (some ⟨J,0,none⟩) (j+m+2) (j+m+2)]=true:=rfl;have cj:=aq.ext aa;refine E72 (d:=E+1) O0 cj dr O0 d0 O0 O0 ?_;intro a7 ej V;have bd:=(V (nx+1) O0 O0).trans ((W.gt (nx+1)).trans di);have fx:=(V nx O0 O0).trans ((W.gt nx).trans cz);have cd:∀(x y:Int) (a c d v:Value),B12 [O8 x,O8 y,a,c,d] 2 [v]=[O8 x,O8 y,v,c,d]:=fun _ _ _ _ _ _=>rfl
 have bx:∀(x y:Int) (a c d v:Value),B12 [O8 x,O8 y,a,c,d] 4 [v]=[O8 x,O8 y,a,c,v]:=fun _ _ _ _ _ _=>rfl
 simp(disch:=omega)only[W0,Nat.reduceAdd,bd,cd,show 2+1<=5 by omega,e7];rw[show((j:Int)+(i:Int))=((j+i:Nat):Int) by omega];have d1:J0 (hs a7 (nx+1) (O7 [O8 (j:Int),O8 (m:Int),.slice (some ⟨E+1,0,none⟩) (i+1) (i+1),O6,vb])) (nx+1)=O7 [O8 (j:Int),O8 (m:Int),.slice (some ⟨E+1,0,none⟩) (i+1) (i+1),O6,vb]:=Z11 _ _ _;have az:∀ x,x≠nx+1->J0 (hs a7 (nx+1) (O7 [O8 (j:Int),O8 (m:Int),.slice (some ⟨E+1,0,none⟩) (i+1) (i+1),O6,vb])) x=J0 a7 x:=fun x hx=>Z1 _ hx
 have cq:∀ b Y,RO (er2 H20 p q) E b (j+m+2) Y->RO (er2 (hs a7 (nx+1) (O7 [O8 (j:Int),O8 (m:Int),.slice (some ⟨E+1,0,none⟩) (i+1) (i+1),O6,vb])) (E+1) q) (E+1) b (j+m+2) Y:=by
  intro b Y h;have f6:=h.ext (G85 (p:=p) (q:=q) W);have dg:RO (er2 a7 (E+1) q) (E+1) b (j+m+2) Y:=f6.sub (fun x v hx hv=>by
   have h1:x≠p:=by rintro rfl;rw[V79] at hv;cases hv
   have h2:x≠q:=by rintro rfl;rw[X80] at hv;cases hv
   rw[U48 h1 h2] at hv;rw[U48 O0 h2,V x O0 O0];exact hv)
  have ax:J0 (er2 a7 (E+1) q) (nx+1)=_:=(U48 O0 O0).trans bd;subst cv dk;exact(dg.boxs (dg.ne O0 ax (fun s h=>by simp at h)) ax (V93 _ _ _ _ _ _ _ _ _ _ _) (.inl rfl)).sub (Sub.of (J94 O0 O0))
 generalize hs a7 (nx+1) (O7 [O8 (j:Int),O8 (m:Int),.slice (some ⟨E+1,0,none⟩) (i+1) (i+1),O6,vb])=H23 at *
 have eo:J0 (hs H23 (E+1+1+11) (O7 [O8 ((j+i:Nat):Int)])) (E+1+1+11)=O7 [O8 ((j+i:Nat):Int)]:=Z11 _ _ _;have Z:∀ x,x≠E+1+1+11->J0 (hs H23 (E+1+1+11) (O7 [O8 ((j+i:Nat):Int)])) x=J0 H23 x:=fun x hx=>Z1 _ hx
 have e9:D0 H23 (E+1) (hs H23 (E+1+1+11) (O7 [O8 ((j+i:Nat):Int)])) (E+1+1+16):=(D0.refl _ _).nw _;generalize hs H23 (E+1+1+11) (O7 [O8 ((j+i:Nat):Int)])=H25 at *
 have c8:Acc (nx+2) H25 (E+1+1+16) 1 vb i (Z57 i fun r=>j+r):=ak.same O0 fun b gk en cn=>by
  have ge:b=q:=(cn nx).symm.trans hq;rw[Z b O0,az b O0,V b O0 ?_,aa.get b en];rcases e4 with ⟨h1,h2⟩ | e4
  .rw[h2] at cn
   have:b+1=b:=cn (b+1);omega
  .omega
 have cf:Src H25 1 (.slice (some ⟨E+1+1+11,0,none⟩) 1 1) 1 [O8 ((j+i:Nat):Int)]:=J9 eo rfl O0;have c4:Z0 [cD .i64 ((j+i:Nat):Int)]=true:=rfl;refine E72 (d:=E+1+1+16) O0 c8 cf O0 c4 O0 O0 ?_;intro aw fd a5;have bo:=(a5 (nx+1) O0 O0).trans ((Z (nx+1) O0).trans d1);have fm:∀ x,x<b5->x≠p->x≠q->x≠nx+1->J0 aw x=J0 H1 x:=fun x h1 h2 h3 h4=>by
  rw[a5 x O0 O0,Z x O0,az x h4,V x O0 O0,aa.get x h1]
 have ao:∀ x,x<=nx->J0 aw x=J0 H1 x:=fun x h1=>by
  rw[a5 x O0 O0,Z x O0,az x O0,V x O0 O0,aa.gt x]
 have e6:J0 aw (E+1)=some (.cells (slR (j+m+2) (bs++[J])) 1):=by
  rw[a5 _ O0 O0,Z _ O0,az _ O0,ej,J97]
 simp only[W0,Nat.reduceAdd,bo,bx];refine em (k-1) _ _ _ O0 ⟨i+1,.slice (some ⟨E+1,0,none⟩) (i+1) (i+1),.slice (some ⟨E+1+1+16,0,none⟩) (i+1) (i+1),bs++[J],O0,O2,⟨O0,fun x hx => ?_⟩,O0,?_,Z11 _ _ _,⟨?_,.inr ⟨E+1,O0,O0,rfl,?_⟩⟩,by simp[an],⟨?_,.inr ⟨E+1+1+16,O0,O0,rfl,?_⟩⟩,fun x b hb => ?_,.inr ?_⟩
 .rw[gN _,ao x O0];exact ap.get x hx
 .rw[gN _,ao nx O0];exact g0
 .rw[G75];simp[an]
 .rw[gN _];exact e6
 .rw[B78];omega
 .rw[gN _,fd,B104]
 .show RO (er2 _ (E+1) (E+1+1+16)) _ _ _ _
  have eh:RO (er2 H20 p q) E b (j+m+2) (V63 j m X x):=by
   rw[List.getElem?_append] at hb
   split at hb
   .exact(ai x b hb).ext (G85 (ba.less ae))
   .rename_i hx
    have et:x-bs.length=0:=by
     have:=(aJ.1 hb).1;simp at this;omega
    rw[et] at hb;simp at hb;subst hb;have:x=i:=O0;rw[this];exact df.ro
  have el:=(cq b _ eh).ext (G85 (p:=E+1) (q:=q) e9);have dy:RO (er2 aw (E+1) (E+1+1+16)) (E+1+1+16) b (j+m+2) (V63 j m X x):=el.sub (fun y v hy hv=>by
   have h1:y≠E+1:=by rintro rfl;rw[V79] at hv;cases hv
   have h2:y≠q:=by rintro rfl;rw[X80] at hv;cases hv
   rw[U48 h1 h2] at hv;rw[U48 h1 O0,a5 y O0 O0];exact hv)
  have ax:J0 (er2 aw (E+1) (E+1+1+16)) (nx+1)=_:=(U48 O0 O0).trans bo;subst cv dk;exact((dy.boxs (dy.ne O0 ax (fun s h=>by simp at h)) ax (V93 _ _ _ _ _ _ _ _ _ _ _) (.inl rfl)).sub (Sub.of (J94 O0 O0))).more O0
 .show E+1≠E+1+1+16
  omega
end Go.Proofs.YtoiioigihocgbaaGreatDoor
namespace Go.Clo
def TC(H:Y0)(b n:Nat):Prop:=∃ css:List (List Value),J0 H b=some (.cells css.flatten 0)/\css.length=n/\∀ c ∈ css,V7 c
theorem TC.ext{H:Y0}{nx b n:Nat}{H':Y0}{nx':Nat}(h:TC H b n)(e:D0 H nx H' nx')(hb:b<nx):TC H' b n:=let ⟨css,h1,h2,h3⟩:=h;⟨css,(e.get b hb).trans h1,h2,h3⟩
structure TG (H:Y0) (nx lo p n m br cr:Nat) (gv:Value) (bb cb sr sb:Nat) (bs:List Nat) (a:Nat->Nat->Rat) (B:Nat->Nat):Prop where
 hp:J0 H p=some (.cells [.int .i64 (n:Int),.int .i64 (m:Int),.slice (some ⟨br,0,none⟩) m cr,gv,.slice (some ⟨bb,0,none⟩) m cb] 0)
 hr:J0 H br=some (.cells (slR (n+m+2) bs) sr)
 hb:J0 H bb=some (.cells (Z57 m B) sb)
 len:bs.length=m
 rows:∀ i b,bs[i]? = some b->RO H nx b (n+m+2) (a i)
 lop:lo<=p
 lor:lo<=br
 lob:lo<=bb
 pn:p<nx
 rn:br<nx
 bn:bb<nx
 sr1:sr=0\/sr=1
 sb1:sb=0\/sb=1
theorem TG.ext{H:Y0}{nx lo p n m br cr:Nat}{gv:Value}{bb cb sr sb:Nat}{bs:List Nat}{a:Nat->Nat->Rat}{B:Nat->Nat}{H':Y0}{nx':Nat}(h:TG H nx lo p n m br cr gv bb cb sr sb bs a B)(e:D0 H nx H' nx'):TG H' nx' lo p n m br cr gv bb cb sr sb bs a B:=by
 have:=e.le;have:=h.pn;have:=h.rn;have:=h.bn;exact⟨(e.get p h.pn).trans h.hp,(e.get br h.rn).trans h.hr,(e.get bb h.bn).trans h.hb,h.len,fun i b hb=>(h.rows i b hb).ext e,h.lop,h.lor,h.lob,O0,O0,O0,h.sr1,h.sb1⟩
theorem TG.tv{H:Y0}{nx lo p n m br cr gb:Nat}{bb cb sr sb:Nat}{bs:List Nat}{a:Nat->Nat->Rat}{B:Nat->Nat}{X:Nat->Rat}(h:TG H nx lo p n m br cr (.slice (some ⟨gb,0,none⟩) (n+m+2) (n+m+2)) bb cb sr sb bs a B)(hX:RO H nx gb (n+m+2) X):
  TV H nx lo p n m br cr gb bb cb sr sb bs ⟨a,X,B⟩:=⟨h.hp,h.hr,h.hb,h.len,h.rows,hX,h.lop,h.lor,h.lob,h.pn,h.rn,h.bn,h.sr1,h.sb1⟩
theorem TQ.tg{H:Y0}{nx lo p n m br cr bb cb sr sb:Nat}{bs:List Nat}{a:Nat->Nat->Rat}{B:Nat->Nat}{A:Option Addr}{l c:Nat}(h:TQ H nx lo p n m br cr bb cb sr sb bs a B)(hm:0<m):
  TG (hs H p (O7 [O8 (n:Int),O8 (m:Int),.slice (some ⟨br,0,none⟩) m cr,.slice A l c,.slice (some ⟨bb,0,none⟩) m cb])) nx lo p n m br cr (.slice A l c) bb cb sr sb bs a B:=by
 have h0:∀ s,[cD .i64 (n:Int),O8 (m:Int),.slice (some ⟨br,0,none⟩) m cr,O6,.slice (some ⟨bb,0,none⟩) m cb][0]? ≠ some (.bool s):=by intro s h;simp at h
 have J:p≠br:=by
  refine G78 h.hp h.hr 0 ?_;obtain⟨b,hb⟩:∃ b,bs[0]? = some b:=⟨bs[0]'(by have:=h.len;omega),aE _⟩
  rw[G71 hb];simp
 have E:p≠bb:=by
  refine G78 h.hp h.hb 2 ?_
  by_cases h2:2<m
  .rw[K73 h2];simp
  .rw[aT (l:=Z57 m B) (by rw[B78];omega)];simp
 refine⟨Z11 _ _ _,by rw[Z1 _ (eT J)];exact h.hr,by rw[Z1 _ (eT E)];exact h.hb,h.len,fun k d hk => ?_,h.lop,h.lor,h.lob,h.pn,h.rn,h.bn,h.sr1,h.sb1⟩;have:=h.rows k d hk;exact this.boxs (this.ne O0 h.hp h0) h.hp (V93 _ _ _ _ _ _ _ _ _ _ _) (.inl rfl)
theorem X107{H:Y0}{b n l h size:Nat}{c:List Value}(hg:J0 H b=O7 c)(hl:l<=h)(hh:h<=n)(E:l<n)(k:VP):wSl (.slice (some ⟨b,0,none⟩) n n) size (some (O8 (l:Int))) (some (O8 (h:Int))) none H k=k (.slice (some ⟨b,l*size,none⟩) (h-l) (n-l)):=by
 have e:B26 (some ⟨b,0,none⟩) n n size (some (O8 (l:Int))) (some (O8 (h:Int))) none false=some (.slice (some ⟨b,l*size,none⟩) (h-l) (n-l)):=by
  simp only[B26,hiA,loA];simp[Y13,V6 hh,V6 hl,V6 (show l<=n by omega),K43 (show n≠l by omega)]
 unfold wSl;dsimp only;rw[Y4,hg];simp only[aN,slB,N8,D13,cond_true];rw[e];exact E7 _ _
theorem V110{H:Y0}{nx b l h:Nat}{css:List (List Value)}(hg:J0 H b=O7 css.flatten)(hb:b<nx)(h3:∀ c ∈ css,c.length=3)(hl:l+h<=css.length):Sl H nx (some ⟨b,l*3,none⟩) ((css.drop l).take h).flatten:=by
 intro i v hv;refine⟨b,l*3,css.flatten,rfl,hb,by rw[Q5,hg];rfl,?_⟩;have e:css=css.take l++(((css.drop l).take h)++(css.drop l).drop h):=by rw[List.take_append_drop,List.take_append_drop]
 have el:(css.take l).flatten.length=l*3:=by
  rw[W26 (fun c hc=>h3 c (List.mem_of_mem_take hc)),cK];omega
 have e2:css.flatten=(css.take l).flatten++(((css.drop l).take h).flatten++((css.drop l).drop h).flatten):=by
  rw[<- List.flatten_append,<- List.flatten_append,<- e]
 rw[e2,bS O0,el,show l*3+i-l*3=i by omega,bQ (aJ.1 hv).1];exact hv
end Go.Clo
namespace Go.Proofs.YtoiioigihocgbaaGreatDoor
open Go.Clo
theorem N104:((1:Rat).num).sign=1:=rfl
theorem K84(L:Nat)(h:1<L):U15 1 L:=by
 have h1:(D11 1).length<=1:=E29 O0;exact⟨by show(D11 1).length<_;omega,by show(D11 1).length<_;omega⟩
theorem D96{H:Y0}{nx lo p n m br cr bb cb sr sb:Nat}{bs:List Nat}{a:Nat->Nat->Rat}{B:Nat->Nat}(h:TQ H nx lo p n m br cr bb cb sr sb bs a B)(hn:n<=20)(hm:m<=20)(ha:∀ i,i<m->a i (n+m+1)=1):
  Q2 gQ 121 [.pointer (some ⟨p,0,none⟩)] H nx fun v H' nx'=>v = .bool true/\D0 H nx H' nx':=by
 refine spec121 ?_;unfold F121;have a3:=h.hp;simp only[W0,Q0.val,a3];refine B1 (m:=m) (fun k L H' nx'=>∃ i:Nat,k+i=m/\L=[O8 (-1),O8 (i:Int)]/\D0 H nx H' nx') ?_ ⟨0,O0,rfl,D0.refl _ _⟩;rintro k ih L H1 a1 ⟨i,hk,rfl,U⟩ a2;have h1:=h.ext U
 by_cases hi:i<m
 case neg=>
  have Q:¬ (i:Int)<(m:Int):=O0;simp only[W0,Q,show(-1:Int)<0 by omega];exact U
 have Q:(i:Int)<(m:Int):=O0;obtain⟨b,W⟩:∃ b,bs[i]? = some b:=⟨bs[i]'(by have:=h.len;omega),aE _⟩
 obtain⟨css,hg,a5,hl,hx⟩:=h1.rows i b W;obtain⟨cc,V⟩:∃ cc,css[n+m+1]? = some cc:=⟨css[n+m+1]'O0,aE _⟩
 have O:=hx _ cc V;have E:=O.tri;rw[ha i hi] at O;rw[N13];simp(disch:=omega)only[W0,Q,h1.hr,G71 W];refine R0 (Y76 h1.hp O0 O0) ?_;rintro _ H1 J ⟨rfl,rfl,a4⟩;simp(disch:=omega)only[W0,Nat.reduceAdd,hg,J22 hx.three V,E.three,E.one,G24 (show cc.length=[dU false,O6,O6].length from E.three),X15 E];rw[N13];have a0:D0 H1 a1 (hs (hs H1 J (O7 [.bool false,O6,O6])) J (O7 cc)) (J+1+23):=((D0.self (show a1<=J+1+23 by omega)).h0).h0;refine R0 (E74 (O.ext a0) (K84 _ O0)) ?_;rintro _ H8 a6 ⟨rfl,Z⟩;have g8:=Z.gt J;rw[Z11] at g8;simp only[W0,N104,show ¬ (1:Int)<0 by omega,g8,X15 E];exact a2 (k-1) _ _ _ O0 ⟨i+1,O0,O2,(U.trans a0).trans Z⟩
section
variable {H:Y0} {T:Lp.Tab} {bb br cb cr gb lo m n nx p sb sr:Nat} {bs:List Nat}
theorem B93{Hc:Y0}{cC:Nat}{a:Nat->Nat->Rat}{AC:Option Addr}(h:TQ H nx lo p n m br cr bb cb sr sb bs a (fun r=>n+r))(hn:1<=n)(bd:n<=20)(bo:1<=m)(hm:m<=20)(hC:RSl Hc lo AC n (fun _=>1))(ah:D0 Hc lo H nx):
  Q2 gQ 123 [.pointer (some ⟨p,0,none⟩),.slice AC n cC] H nx fun v H' nx'=>v = .tuple ⟨[]⟩/\nx<=nx'/\D0 H lo H' nx' /\
   ∃ gb,TV H' nx' lo p n m br cr gb bb cb sr sb bs ⟨a,fun t=>if t<n then -1 else 0,fun r=>n+r⟩:=by
 obtain⟨bC,oC,aq,rfl,ax,aa,a5⟩:=hC.open O0;have bk:=h.pn;have bc:=ah.le;have b4:=h.lop;refine spec123 ?_;unfold F123;refine R0 (Y76 h.hp O0 O0) ?_;rintro _ H E ⟨rfl,rfl,W⟩;simp(disch:=omega)only[W0];rw[show((n+m+1:Nat):Int)+1=((n+m+2:Nat):Int) by omega];refine R0 (W82 (n:=n+m+2) O0 _ _) ?_;rintro _ H2 nx2 ⟨rfl,az,a3⟩;have ai:=a3.le;have a6:=(a3.gt p).trans h.hp;have a2:∀(x y:Int) (A C D v:Value),B12 [O8 x,O8 y,A,C,D] 3 [v]=[O8 x,O8 y,A,v,D]:=fun _ _ _ _ _ _=>rfl
 have O:=az.ro;rw[iC] at O;have b8:E<nx2:=O.choose_spec.2.1;simp only[W0,Nat.reduceAdd,Nat.reduceLeDiff,a6,a2];have ao:TG (hs H p (O7 [O8 (n:Int),O8 (m:Int),.slice (some ⟨br,0,none⟩) m cr,.slice (some ⟨E,0,none⟩) (n+m+2) (n+m+2),.slice (some ⟨bb,0,none⟩) m cb])) nx lo p n m br cr (.slice (some ⟨E,0,none⟩) (n+m+2) (n+m+2)) bb cb sr sb bs a (fun r=>n+r):=h.tg O0;have a9:=ao.ext (D0.self W);have ae:D0 Hc lo (hs H p (O7 [O8 (n:Int),O8 (m:Int),.slice (some ⟨br,0,none⟩) m cr,.slice (some ⟨E,0,none⟩) (n+m+2) (n+m+2),.slice (some ⟨bb,0,none⟩) m cb])) E:=(ah.more W).hs h.lop;have ag:D0 H lo (hs H p (O7 [O8 (n:Int),O8 (m:Int),.slice (some ⟨br,0,none⟩) m cr,.slice (some ⟨E,0,none⟩) (n+m+2) (n+m+2),.slice (some ⟨bb,0,none⟩) m cb])) E:=(D0.sf).hs h.lop;have b3:D0 (hs H p (O7 [O8 (n:Int),O8 (m:Int),.slice (some ⟨br,0,none⟩) m cr,.slice (some ⟨E,0,none⟩) (n+m+2) (n+m+2),.slice (some ⟨bb,0,none⟩) m cb])) E
   (hs H2 p (O7 [O8 (n:Int),O8 (m:Int),.slice (some ⟨br,0,none⟩) m cr,.slice (some ⟨E,0,none⟩) (n+m+2) (n+m+2),.slice (some ⟨bb,0,none⟩) m cb])) nx2:=⟨ai,fun i hi=>by
  rw[N7,N7]
  split
  .rfl
  .exact a3.get i hi⟩
 obtain⟨a7,ap,_,al,ay⟩:=O.boxs (s':=0) (l':=[O8 (n:Int),O8 (m:Int),.slice (some ⟨br,0,none⟩) m cr,.slice (some ⟨E,0,none⟩) (n+m+2) (n+m+2),.slice (some ⟨bb,0,none⟩) m cb]) O0 a6 (V93 _ _ _ _ _ _ _ _ _ _ _) (.inl rfl);generalize hs H2 p (O7 [O8 (n:Int),O8 (m:Int),.slice (some ⟨br,0,none⟩) m cr,.slice (some ⟨E,0,none⟩) (n+m+2) (n+m+2),.slice (some ⟨bb,0,none⟩) m cb])=H3 at *
 generalize hs H p (O7 [O8 (n:Int),O8 (m:Int),.slice (some ⟨br,0,none⟩) m cr,.slice (some ⟨E,0,none⟩) (n+m+2) (n+m+2),.slice (some ⟨bb,0,none⟩) m cb])=Hb at *
 refine B1 (m:=n) (fun k L H' nx'=>∃(j:Nat) (css:List (List Value)),k+j=n/\L=[O8 (j:Int)]/\D0 Hb E H' nx'/\nx2<=nx'/\J0 H' E=O7 css.flatten/\css.length=n+m+2/\RX H' nx' css (fun t=>if t<j then -1 else 0)) ?_
  ⟨0,a7,O0,rfl,b3,aD _,ap,al,fun q c hc=>by
   have:=ay q c hc;have hq:=(aJ.1 hc).1;simp only[aP,List.getElem?_replicate] at this;rw[if_pos O0] at this;simpa using this⟩
 rintro k ih L H4 a4 ⟨j,css,hk,rfl,Q,b5,g4,V,ab⟩ an;have h4:=a9.ext Q;have Z:=ae.both (Q.less O0)
 by_cases hj:j<n
 .have a1:(j:Int)<(n:Int):=O0
  obtain⟨cc,ba,ac,av⟩:=a5 j hj;have aj:Q5 H4 bC=some aq:=(Z.row ax).trans aa;simp(disch:=omega)only[W0,a1,h4.hp,X3 aj,av];have U:D0 H4 a4 H4 (a4+12):=D0.sf;refine R0 (G102 ((ac.ext Z).ext U) (K84 _ O0)) ?_;rintro r H6 bg ⟨hr,au⟩;have J:=U.trans au;have h6:=h4.ext J;have bf:=J.le;have g6:=(J.gt E).trans g4;have a8:=ab.ext J;obtain⟨rc,rfl,aw⟩:=hr.num;rw[cG j 3,R74 g6 a8.tri aw O0];simp only[W0,h6.hp];refine an (k-1) _ _ _ O0 ⟨j+1,css.set j rc,O0,O2,(Q.trans J).h0,O0,Z11 _ _ _,by simp[V],a8.put g6 hr O0 (by rw[if_pos O0]) (fun q hq => ?_)⟩
  by_cases h1:q<j
  .rw[if_pos h1,if_pos O0]
  .rw[if_neg h1,if_neg O0]
 obtain rfl:j=n:=O0;have a1:¬ (j:Int)<(j:Int):=O0;simp only[W0,a1,h4.hp];refine B1 (m:=m) (fun k L H' nx'=>∃ i:Nat,k+i=m/\L=[O8 (i:Int)]/\H4=H'/\a4=nx') ?_ ⟨0,O0,rfl,rfl,rfl⟩;rintro k2 bh L2 _ _ ⟨i,bt,rfl,rfl,rfl⟩ ad
 by_cases hi:i<m
 .have a0:(i:Int)<(m:Int):=O0
  have ak:¬ ((j+i:Nat):Int)<(j:Int):=O0;rw[N13];simp(disch:=omega)only[W0,a0,h4.hb,K73 hi,h4.hp,ak];exact ad (k2-1) _ _ _ O0 ⟨i+1,O0,O2,rfl,rfl⟩
 have a0:¬ (i:Int)<(m:Int):=O0;simp only[W0,a0];exact⟨O0,ag.both (Q.less O0),E,h4.tv ⟨css,g4,O0,V,ab⟩⟩
theorem Y105(h:TV H nx lo p n m br cr gb bb cb sr sb bs T)(hn:n<=20)(hm:m<=20):
  Q2 gQ 125 [.pointer (some ⟨p,0,none⟩)] H nx fun v H' nx'=>∃ b,v = .slice (some ⟨b,0,none⟩) n n/\nx<=b/\b<nx'/\TC H' b n/\D0 H nx H' nx':=by
 refine spec125 ?_;unfold F125;have a9:=h.hp;unfold Q60 at a9;simp only[W0,a9];refine R0 (W82 (n:=n) O0 _ _) ?_;rintro _ H1 ak ⟨rfl,ag,a5⟩;have a7:=ag.ro;rw[iC] at a7;obtain⟨a4,g0,a2,ac,ad⟩:=a7;have h1:=h.ext a5;have a6:=h1.hp;unfold Q60 at a6;simp only[W0,a6];refine B1 (m:=m) (fun k L H' nx'=>∃(i:Nat) (css:List (List Value)),k+i=m/\L=[O8 (i:Int)]/\D0 H nx H' nx'/\nx<nx'/\J0 H' nx=O7 css.flatten/\css.length=n/\∀ c ∈ css,V7 c) ?_
  ⟨0,a4,O0,rfl,a5,a2,g0,ac,ad.tri⟩
 rintro k ih L H2 nx2 ⟨i,css,hk,rfl,V,W,g2,Q,E⟩ a8;have h2:=h.ext V;have O:=h2.hp;unfold Q60 at O
 by_cases hi:i<m
 case neg=>
  have U:¬ (i:Int)<(m:Int):=O0;simp only[W0,U];exact⟨nx,rfl,aD _,W,⟨css,g2,Q,E⟩,V⟩
 have U:(i:Int)<(m:Int):=O0;rw[N13]
 by_cases hb:T.B i<n
 .have Z:(T.B i:Int)<(n:Int):=O0
  obtain⟨b,a3,aa⟩:=h2.row hi;obtain⟨ab,ae,ai,aj,a0⟩:=aa;obtain⟨cc,a1⟩:∃ cc,ab[n+m+1]? = some cc:=⟨ab[n+m+1]'O0,aE _⟩
  have J:=a0.tri cc (aH a1);simp(disch:=omega)only[W0,U,h2.hb,K73 hi,O,Z,h2.hr,G71 a3];refine R0 (Y76 (r:=[.slice (some ⟨br,0,none⟩) m cr,.slice (some ⟨gb,0,none⟩) (n+m+2) (n+m+2),.slice (some ⟨bb,0,none⟩) m cb]) O O0 O0) ?_;rintro _ H2 al ⟨rfl,rfl,ah⟩;have e3:T.B i*3=3*T.B i:=O0;have ep:B12 css.flatten (T.B i*3) cc=(css.set (T.B i) cc).flatten:=by rw[e3];exact M78 (fun c hc=>(E c hc).three) J.three O0
  have el:T.B i*3+3<=3*css.length:=O0;simp(disch:=omega)only[W0,O,h2.hr,G71 a3,ae,J22 a0.three a1,J.three,J.one,g2,W26 (fun c hc=>(E c hc).three),ep,el];exact a8 (k-1) _ _ _ O0 ⟨i+1,css.set (T.B i) cc,O0,O2,(V.more O0).h0,O0,Z11 _ _ _,by simp[Q],J85 E J⟩
 .have Z:¬ (T.B i:Int)<(n:Int):=O0
  simp(disch:=omega)only[W0,U,h2.hb,K73 hi,O,Z];exact a8 (k-1) _ _ _ O0 ⟨i+1,css,O0,O2,V,W,g2,Q,E⟩
theorem D108(h:TV H nx lo p n m br cr gb bb cb sr sb bs T)(hn:n<=20)(ac:1<=m)(hm:m<=20):
  Q2 gQ 122 [.pointer (some ⟨p,0,none⟩)] H nx fun v H' nx'=>∃ b,v = .slice (some ⟨b,0,none⟩) m m/\nx<=b/\b<nx'/\TC H' b m/\D0 H nx H' nx':=by
 refine spec122 ?_;unfold F122;have W:=h.hp;unfold Q60 at W;simp only[W0,W];refine R0 (W82 (n:=m) O0 _ _) ?_;rintro _ H1 a0 ⟨rfl,a7,a1⟩;have U:=a7.ro;rw[iC] at U;obtain⟨a9,g0,a8,aa,a5⟩:=U;have h1:=h.ext a1;have Q:=h1.hp;unfold Q60 at Q;obtain⟨E,Z,a3,ad,O⟩:=id h1.goal;have a2:∀ k:VP,wSl (.slice (some ⟨gb,0,none⟩) (n+m+2) (n+m+2)) 3 (some (O8 (n:Int))) (some (O8 ((n:Int)+(m:Int)))) none H1 k=k (.slice (some ⟨gb,n*3,none⟩) m (n+m+2-n)):=fun k=>by
  rw[show(n:Int)+(m:Int)=((n+m:Nat):Int) by omega,X107 Z O0 O0 O0,show n+m-n=m by omega]
 have a4:((E.drop n).take m).flatten.length=m*3:=by
  rw[W26 (fun c hc=>O.three c (fO (List.mem_of_mem_take hc))),cK,List.length_drop];omega
 have J:∀ c ∈ (E.drop n).take m,V7 c:=fun c hc=>O.tri c (fO (List.mem_of_mem_take hc))
 have V:Src H1 3 (.slice (some ⟨gb,n*3,none⟩) m (n+m+2-n)) m ((E.drop n).take m).flatten:=B68 (V110 Z a3 O.three O0) a4 O0;have a6:∀ k:EP,M82 (.slice (some ⟨nx,0,none⟩) m m) (.slice (some ⟨gb,n*3,none⟩) m (n+m+2-n)) 3 H1 (a0+20) k=k (O8 (m:Int)) (hs H1 nx (some (.cells ((E.drop n).take m).flatten 0))) (a0+20):=fun k=>by
  have ab:=W26 a5.three;rw[J79 g0 V (aD _) (Y82 J) O0,G24 O0]
 simp(disch:=omega)only[W0,Q,a2,a6];exact⟨nx,rfl,aD _,O0,⟨_,Z11 _ _ _,by rw[cK,List.length_drop];omega,J⟩,(a1.more O0).h0⟩
end
end Go.Proofs.YtoiioigihocgbaaGreatDoor
namespace Go.Clo
theorem Y111(b o:Nat)(H:Y0)(k:VP):J1 (.pointer (some ⟨b,o,none⟩)) (some 7) H k=ldP (J0 H b) o (some 7) k:=W31 b o 6 H k
def noU(l:List Value):Bool:=l.all fun v=>match v with
 | .int .u32 _=>false
 | _=>true
theorem U47{l:List Value}(h:noU l=true):∀(q:Nat) (z:Int),l[q]? ≠ some (cD .u32 z):=by
 intro q z hq;have:=iE.1 h _ (aH hq)
 cases this
end Go.Clo
namespace Go.Proofs.YtoiioigihocgbaaGreatDoor
open Go.Clo
theorem J104{H:Y0}{nx n m cC cA cB:Nat}{AC AA AB:Option Addr}{ac:List Value}(a3:1<=m)(hA:Sl H nx AA ac)(a2:ac.length=m)(Q:∀ i,i<m->∃ Ai ci,ac[i]? = some (.slice Ai n ci))(hm:m<=1000):
  Q2 gQ 119 [.agg ⟨[.slice AC n cC,.slice AA m cA,.slice AB m cB]⟩] H nx fun v H' nx'=>v = .bool true/\D0 H nx H' nx':=by
 obtain⟨bA,oA,a0,rfl,Z,O,J⟩:=hA.open (i:=0) O0;refine spec119 ?_;unfold F119;simp only[W0,Z0,Q0.val,ne_eq,not_true_eq_false];have U:D0 H nx (hs H nx (O7 [.slice AC n cC,.slice (some ⟨bA,oA,none⟩) m cA,.slice AB m cB])) (nx+1):=(D0.refl _ _).nw _;have g1:J0 (hs H nx (O7 [.slice AC n cC,.slice (some ⟨bA,oA,none⟩) m cA,.slice AB m cB])) nx=O7 [.slice AC n cC,.slice (some ⟨bA,oA,none⟩) m cA,.slice AB m cB]:=Z11 _ _ _;generalize hs H nx (O7 [.slice AC n cC,.slice (some ⟨bA,oA,none⟩) m cA,.slice AB m cB])=H1 at *
 refine B1 (m:=m) (fun k L H' nx'=>∃ i:Nat,k+i=m/\L=[O8 (i:Int)]/\H1=H'/\nx+1=nx') ?_ ⟨0,O0,rfl,rfl,rfl⟩;rintro k ih L _ _ ⟨i,hk,rfl,rfl,rfl⟩ a1
 by_cases hi:i<m
 .have E:(i:Int)<(m:Int):=O0
  obtain⟨Ai,ci,W⟩:=Q i hi;have V:Q5 H1 bA=some a0:=(U.row Z).trans O;simp(disch:=omega)only[W0,E,X3 V,J i _ W,g1,ne_eq,not_true_eq_false];exact a1 (k-1) _ _ _ O0 ⟨i+1,O0,O2,rfl,rfl⟩
 have E:¬ (i:Int)<(m:Int):=O0;simp only[W0,E];exact U
structure U77 (H:Y0) (nx n m:Nat) (s:Nat->Nat->Bool) (v:Value):Prop where
 ex:∃(bX bY:Nat) (t:Bool) (A C:Option Addr) (l k l' k':Nat),v = .tuple ⟨[.agg ⟨[.int .i64 0,.slice (some ⟨bX,0,none⟩) n n,.slice (some ⟨bY,0,none⟩) m m,.slice none 0 0,.bool t,.slice A l k,.slice C l' k']⟩,.int .i64 0]⟩ /\
  bX<nx/\bY<nx/\TC H bX n/\TC H bY m/\RR H nx (.agg ⟨[.bool t,.slice A l k,.slice C l' k']⟩) ((Lp.tabK n m s (Lp.steps n m s)).g (n+m+1))
theorem M104{H:Y0}{nx n m cC cA cB:Nat}{AC AA AB:Option Addr}{s:Nat->Nat->Bool}{ac:List Value}(hn:1<=n)(E:n<=20)(a6:1<=m)(hm:m<=8)(hA:Sl H nx AA ac)(ap:ac.length=m)(ab:∀ i,i<m->∃ Ai ci,ac[i]? = some (.slice Ai n ci)/\RSl H nx Ai n (fun j=>if s i j then 1 else 0))(hB:RSl H nx AB m (fun _=>1))(hC:RSl H nx AC n (fun _=>1))(az:∀ v,v<n->∃ r,r<m/\s r v=true):
  Q2 gQ 109 [.agg ⟨[.slice AC n cC,.slice AA m cA,.slice AB m cB]⟩] H nx fun v H' nx'=>U77 H' nx' n m s v/\D0 H nx H' nx':=by
 refine spec109 ?_;unfold F109;have b5:D0 H nx (hs (hs H nx (O7 [.slice AC n cC,.slice AA m cA,.slice AB m cB])) (nx+1) (O7 [O8 0,O6,O6,O6,.bool false,O6,O6])) (nx+1+1):=
  ((D0.refl _ _).nw _ (m:=nx+1)).nw _
 have g2:J0 (hs (hs H nx (O7 [.slice AC n cC,.slice AA m cA,.slice AB m cB])) (nx+1) (O7 [O8 0,O6,O6,O6,.bool false,O6,O6])) nx=O7 [.slice AC n cC,.slice AA m cA,.slice AB m cB]:=by
  rw[gN _,Z11]
 have bv:J0 (hs (hs H nx (O7 [.slice AC n cC,.slice AA m cA,.slice AB m cB])) (nx+1) (O7 [O8 0,O6,O6,O6,.bool false,O6,O6])) (nx+1)=O7 [O8 0,O6,O6,O6,.bool false,O6,O6]:=Z11 _ _ _;simp(disch:=omega)only[W0,Z0,Q0.val,Y12];generalize hs (hs H nx (O7 [.slice AC n cC,.slice AA m cA,.slice AB m cB])) (nx+1) (O7 [O8 0,O6,O6,O6,.bool false,O6,O6])=H2 at *
 refine R0 (J104 a6 (hA.ext b5) ap (fun i hi=>by obtain⟨Ai,ci,h1,_⟩:=ab i hi;exact⟨Ai,ci,h1⟩) O0) ?_;rintro _ H3 bf ⟨rfl,a5⟩;have bx:=a5.le;have g3:=(a5.gt nx).trans g2;have ay:=(a5.gt (nx+1)).trans bv;have J:=b5.trans a5;simp only[W0,N13,g3,show ¬ (n:Int) > 64 by omega,show ¬ (64:Int)<(m:Int) by omega,Y12];have sX:∀ i q,i<m->q<n->U15 ((fun i j=>if s i j then(1:Rat) else 0) i q) 400000:=fun i q _ _=>by
  show U15 (if s i q then(1:Rat) else 0) 400000
  split
  .exact D80 1 O2
  .exact D80 0 O2
 refine R0 (X93 (X:=fun i j=>if s i j then(1:Rat) else 0) hn E a6 O0 (hA.ext J) ap (fun i hi=>by
  obtain⟨Ai,ci,h1,h2⟩:=ab i hi;exact⟨Ai,ci,h1,h2.ext J⟩) (hB.ext J) sX) ?_
 rintro _ H7 ca ⟨rfl,an,br,cr,bb,cb,sr,sb,bs,hq⟩;have c7:=an.le;refine R0 (D96 hq E O0 (fun i hi=>by unfold V63;rw[if_neg O0,if_neg O0,if_neg O0])) ?_;rintro _ H8 cd ⟨rfl,ai⟩;have c6:=ai.le;have bw:=hq.ext ai;have V:=an.trans ai;have g8:=(V.gt nx).trans g3;have ce:=(V.gt (nx+1)).trans ay;simp only[W0,g8];refine R0 (B93 bw hn E a6 O0 (hC.ext J) V) ?_;rintro _ au a8 ⟨rfl,bt,ba,gb,b8⟩;have aj:=V.both ba;have a0:=b8.hp;unfold Q60 at a0;simp(disch:=omega)only[W0,a0];rw[show((n:Int)+(m:Int))=((n+m:Nat):Int) by omega];have ao:D0 au a8 au (a8+16):=D0.sf;refine R0 (G96 (s:=s) (b8.ext ao) E hm az O0) ?_;rintro _ bc W ⟨rfl,bu,al,cn,cg,a4⟩;have ah:=aj.both (al);have ad:D0 bc W bc (W+15):=D0.sf;simp only[W0];refine R0 (Y105 (a4.ext ad) E O0) ?_;rintro _ cf c4 ⟨bX,rfl,c8,b3,hX,Z⟩;have O:=(a4.ext ad).ext Z;refine R0 (D108 O E a6 O0) ?_;rintro _ ak bd ⟨bY,rfl,cj,bz,hY,Q⟩;have a1:=O.ext Q;have bk:=Z.le;have bh:=Q.le;have U:=a1.hp;unfold Q60 at U;have ag:=O.hp;unfold Q60 at ag;have ae:=a4.hp;unfold Q60 at ae;simp only[W0,U];refine R0 (Y76 U O0 O0) ?_;rintro _ ak c3 ⟨rfl,rfl,a3⟩;obtain⟨ax,bo,ck,c9,aq⟩:=id a1.goal;obtain⟨cc,aw⟩:∃ cc,ax[n+m+1]? = some cc:=⟨ax[n+m+1]'O0,aE _⟩
 have aa:=aq _ cc aw;have a7:=aq.three;obtain⟨t,A,l,k,C,l',k',rfl⟩:=aa.tri;have a2:D0 H3 bf ak bd:=((ah.more (show W<=W+15 by omega)).both (Z.less O0)).both (Q.less O0);have a9:=(a2.gt (nx+1)).trans ay;have bg:∀ k0:VP,U11 [O8 0,O6,O6,O6,.bool false,O6,O6] [(0,1),(1,1),(2,1),(3,1),(4,3)] [(0,O8 0),(1,.slice (some ⟨bX,0,none⟩) n n),(2,.slice (some ⟨bY,0,none⟩) m m),(4,.agg ⟨[.bool t,.slice A l k,.slice C l' k']⟩)] k0 =
   k0 (.agg ⟨[O8 0,.slice (some ⟨bX,0,none⟩) n n,.slice (some ⟨bY,0,none⟩) m m,O6,.bool t,.slice A l k,.slice C l' k']⟩):=fun k0=>V14 _ _
 have b4:∀(a b c d e f g:Value) (k:VP),B10 [a,b,c,d,e,f,g] 0 (some 7) k=k (.agg ⟨[a,b,c,d,e,f,g]⟩):=fun a b c d e f g k=>K26 (l:=[a,b,c,d,e,f,g]) k
 have av:∀(a b c d e f g a' b' c' d' e' f' g':Value),B12 [a,b,c,d,e,f,g] 0 [a',b',c',d',e',f',g']=[a',b',c',d',e',f',g']:=fun _ _ _ _ _ _ _ _ _ _ _ _ _ _=>rfl
 simp(disch:=omega)only[W0,Z0,Nat.reduceAdd,bo,J22 a7 aw,bg,a9,av,b4,U,ag,ae,Y111];refine⟨⟨bX,bY,t,A,C,l,k,l',k',rfl,O0,O0,?_,?_,?_⟩,?_⟩
 .obtain⟨cs,h1,h2,h3⟩:=hX.ext Q b3
  refine⟨cs,?_,h2,h3⟩;rw[gN _];exact h1
 .obtain⟨cs,h1,h2,h3⟩:=hY
  refine⟨cs,?_,h2,h3⟩;rw[gN _];exact h1
 .exact(aa.ext (D0.self a3)).boxs a9 (U47 rfl) (.inl rfl)
 .exact((J.trans a2).more a3).h0
end Go.Proofs.YtoiioigihocgbaaGreatDoor
namespace Go.Clo
section
variable {H H':Y0} {M:Nat->Option Value} {k:EP} {nx nx' r:Nat} {qs:List Nat}
def U29(H:Y0)(r:Nat)(M:Nat->Option Value):Prop:=∃ es c,J0 H r=some (.map es c)/\(∀ x ∈ es,MapKept.IsKey (.int .u32) x.key) /\
 (∀(i j:Nat) (x y:MapEntry),es[i]? = some x->es[j]? = some y->x.key=y.key->i=j)/\∀(n:Nat) (v:Value),M n=some v<->∃ x ∈ es,x.key = .int .u32 (n:Int)/\x.val=v
theorem U29.same(h:U29 H r M)(e:J0 H' r=J0 H r):U29 H' r M:=by
 obtain⟨es,c,h1,h2,h3,h4⟩:=h;exact⟨es,c,by rw[e];exact h1,h2,h3,h4⟩
theorem U29.ext(h:U29 H r M)(hr:r<nx)(e:D0 H nx H' nx'):U29 H' r M:=h.same (e.get r hr)
theorem U29.congr{M':Nat->Option Value}(h:U29 H r M)(e:∀ n,M' n=M n):U29 H r M':=by rw[show M'=M from funext e];exact h
theorem U29.nil{c:Nat}(h:J0 H r=some (.map [] c)):U29 H r fun _=>none:=⟨[],c,h,O2,O2,O2⟩
theorem U29.find{es:List MapEntry}{M:Nat->Option Value}(h2:∀ x ∈ es,MapKept.IsKey (.int .u32) x.key)(h3:∀(i j:Nat) (x y:MapEntry),es[i]? = some x->es[j]? = some y->x.key=y.key->i=j)(h4:∀(n:Nat) (v:Value),M n=some v<->∃ x ∈ es,x.key=O9 (n:Int)/\x.val=v)(n:Nat):
  (M n=none/\dP (.int .u32) (O9 (n:Int)) es 0=some none/\∀ x ∈ es,x.key≠O9 (n:Int))\/∃ j e,M n=some e.val/\dP (.int .u32) (O9 (n:Int)) es 0=some (some (j,e.val))/\es[j]? = some e/\e.key=O9 (n:Int):=by
 rcases MapKept.findNow_spec (d := .int .u32) (k:=O9 (n:Int)) rfl es 0 h2 with ⟨h,hn⟩ | ⟨j,e,h,hj,hk⟩
 .refine .inl ⟨?_,h,hn⟩
  cases hM:M n with
  | none=>rfl
  | some v=>
   obtain⟨x,hx,E,_⟩:=(h4 n v).1 hM;exact absurd E (hn x hx)
 .refine .inr ⟨j,e,(h4 n _).2 ⟨e,aH hj,hk,rfl⟩,?_,hj,hk⟩
  rw[h,cF]
theorem U29.lk{r:Nat}{M:Nat->Option Value}(h:U29 H r M)(n:Nat)(z:Value)(ok:Bool)(k:VP):
  wLk (.int .u32) z (.map (some r)) (O9 (n:Int)) ok H k=(M n).elim (cond ok (k (.tuple ⟨[z,.bool false]⟩)) (k z)) fun v=>cond ok (k (.tuple ⟨[v,.bool true]⟩)) (k v):=by
 obtain⟨es,c,h1,h2,h3,h4⟩:=h;unfold wLk;rw[show Q9 (.int .u32) (O9 (n:Int))=true from rfl];simp only[cond_true];rw[Y4,h1];simp only[aN];rcases U29.find h2 h3 h4 n with ⟨hM,hf,_⟩ | ⟨j,e,hM,hf,_⟩
 .rw[hf,hM];rfl
 .rw[hf,hM];rfl
theorem U29.lkN{M:Nat->Option Value}(h:U29 H r M){n:Nat}(hn:M n=none)(z:Value)(k:VP):wLk (.int .u32) z (.map (some r)) (O9 (n:Int)) true H k=k (.tuple ⟨[z,.bool false]⟩):=by
 rw[h.lk,hn];rfl
theorem U29.lkS{M:Nat->Option Value}(h:U29 H r M){n:Nat}{v:Value}(hn:M n=some v)(z:Value)(k:VP):wLk (.int .u32) z (.map (some r)) (O9 (n:Int)) true H k=k (.tuple ⟨[v,.bool true]⟩):=by
 rw[h.lk,hn];rfl
theorem U29.lkN'{M:Nat->Option Value}(h:U29 H r M){n:Nat}(hn:M n=none)(z:Value)(k:VP):wLk (.int .u32) z (.map (some r)) (O9 (n:Int)) false H k=k z:=by
 rw[h.lk,hn];rfl
theorem U29.lkS'{M:Nat->Option Value}(h:U29 H r M){n:Nat}{v:Value}(hn:M n=some v)(z:Value)(k:VP):wLk (.int .u32) z (.map (some r)) (O9 (n:Int)) false H k=k v:=by
 rw[h.lk,hn];rfl
theorem M89{n m:Nat}(h:cD .u32 (n:Int)=O9 (m:Int)):n=m:=by
 injection h with _ h;omega
theorem U29.put{nx r:Nat}{M:Nat->Option Value}(h:U29 H r M)(n:Nat)(v:Value)(hk:∀ es c,U29 (hs H r (some (.map es c))) r (fun t=>if t=n then some v else M t)->k undef (hs H r (some (.map es c))) nx):
  W56 (.int .u32) (.map (some r)) (O9 (n:Int)) v H nx k:=by
 obtain⟨es,c,h1,h2,h3,h4⟩:=h;unfold W56;dsimp only;rw[Y4,h1];simp only[aN,G52];rw[show Q9 (.int .u32) (O9 (n:Int))=true from rfl];rcases U29.find h2 h3 h4 n with ⟨hM,hf,V⟩ | ⟨j,e,hM,hf,hj,U⟩
 .rw[hf]
  simp only[cond_true];rw[V14,G1,G4];refine hk _ _ ⟨_,_,Z11 _ _ _,?_,?_,fun t u => ?_⟩
  .intro x hx
   rcases dN.1 hx with hx | hx
   .exact h2 x hx
   .rw[dJ.1 hx];rfl
  .intro i j x y hx hy O
   rw[List.getElem?_append] at hx hy
   split at hx<;>split at hy
   .exact h3 i j x y hx hy O
   .have Z:y={ key:=O9 (n:Int),val:=v,born:=c }:=by
     have:=aH hy;simpa using this
    rw[Z] at O;exact absurd O (V x (aH hx))
   .have a1:x={ key:=O9 (n:Int),val:=v,born:=c }:=by
     have:=aH hx;simpa using this
    rw[a1] at O;exact absurd O.symm (V y (aH hy))
   .have h5:=(aJ.1 hx).1
    have h6:=(aJ.1 hy).1;simp at h5 h6;omega
  .by_cases Q:t=n
   .subst Q
    dsimp only;rw[if_pos rfl]
    constructor
    .intro hu
     cases hu
     exact⟨_,List.mem_append_right _ (dJ.2 rfl),rfl,rfl⟩
    .rintro⟨x,hx,E,J⟩
     rcases dN.1 hx with hx | hx
     .exact absurd E (V x hx)
     .rw[dJ.1 hx] at J
      rw[<- J]
   .dsimp only
    rw[if_neg Q,h4]
    constructor
    .rintro⟨x,hx,h⟩
     exact⟨x,dX _ hx,h⟩
    .rintro⟨x,hx,E,J⟩
     rcases dN.1 hx with hx | hx
     .exact⟨x,hx,E,J⟩
     .rw[dJ.1 hx] at E
      exact absurd (M89 E).symm Q
 .rw[hf]
  simp only[cond_true];rw[Q8,hj];simp only;rw[V14,G4,K25];have W:=(aJ.1 hj).1;refine hk _ _ ⟨_,_,Z11 _ _ _,?_,?_,fun t u => ?_⟩
  .intro x hx
   rcases List.mem_or_eq_of_mem_set hx with hx | rfl
   .exact h2 x hx
   .rfl
  .intro i i' x y hx hy O
   rw[cQ] at hx hy
   split at hx<;>split at hy
   .omega
   .rename_i g1 g2
    try rw[if_pos O0] at hx
    cases hx
    have:=h3 j i' e y hj hy (U.trans O);omega
   .rename_i g1 g2
    try rw[if_pos O0] at hy
    cases hy
    have:=h3 i j x e hx hj (O.trans U.symm);omega
   .exact h3 i i' x y hx hy O
  .by_cases Q:t=n
   .subst Q
    dsimp only;rw[if_pos rfl]
    constructor
    .intro hu
     cases hu
     exact⟨_,List.mem_set W _,rfl,rfl⟩
    .rintro⟨x,hx,E,J⟩
     obtain⟨i,hi⟩:=cH hx;rw[cQ] at hi
     split at hi
     .try rw[if_pos O0] at hi
      cases hi
      rw[<- J]
     .rename_i g
      exact absurd (h3 j i e x hj hi (U.trans E.symm)) g
   .dsimp only
    rw[if_neg Q,h4]
    constructor
    .rintro⟨x,hx,E,J⟩
     obtain⟨i,hi⟩:=cH hx;have a0:j≠i:=by
      rintro rfl;rw[hj] at hi
      cases hi
      exact Q (M89 (E.symm.trans U))
     refine⟨x,aH (i:=i) ?_,E,J⟩;rw[cQ,if_neg a0];exact hi
    .rintro⟨x,hx,E,J⟩
     obtain⟨i,hi⟩:=cH hx;rw[cQ] at hi
     split at hi
     .try rw[if_pos O0] at hi
      cases hi
      exact absurd (M89 E).symm Q
     .exact⟨x,aH hi,E,J⟩
def D6(H:Y0)(qs:List Nat):Y0:=qs.foldr (fun q H=>hs H q none) H
theorem U73{H:Y0}{q:Nat}:∀ {qs:List Nat},q ∈ qs->J0 (D6 H qs) q=none
 | [],h=>by simp at h
 | p :: qs,h=>by
  show J0 (hs (D6 H qs) p none) q=none;rw[N7]
  split
  .rfl
  .rename_i hn
   exact U73 (by simpa [hn] using h)
theorem Q50{H:Y0}{q:Nat}:∀ {qs:List Nat},q ∉ qs->J0 (D6 H qs) q=J0 H q
 | [],_=>rfl
 | p :: qs,h=>by
  show J0 (hs (D6 H qs) p none) q=_;simp at h;rw[N7,if_neg h.1];exact Q50 h.2
theorem N68:∀ i b,J0 (D6 H qs) i=some b->J0 H i=some b:=by
 intro i b h
 by_cases hi:i ∈ qs
 .rw[U73 hi] at h;cases h
 .rwa [Q50 hi] at h
theorem V74{qs':List Nat}(h:∀ i,i<nx->i ∉ qs->J0 H' i=J0 H i)(hq:∀ q ∈ qs',q ∈ qs\/nx<=q):Sub (D6 H qs) nx (D6 H' qs'):=by
 intro i b hi hb;have h1:i ∉ qs:=fun hm=>by rw[U73 hm] at hb;cases hb
 have h2:i ∉ qs':=fun hm=>by
  rcases hq i hm with h | h
  .exact h1 h
  .omega
 rw[Q50 h1] at hb;rw[Q50 h2,h i hi h1];exact hb
theorem K100{qs:List Nat}(e:D0 H nx H' nx')(hq:∀ q ∈ qs,nx<=q):D0 H nx (D6 H' qs) nx':=
 ⟨e.le,fun i hi=>by rw[Q50 (fun hm=>by have:=hq i hm;omega)];exact e.get i hi⟩
theorem X65{P:Program}{f:FuncId}{args:List Value}{qs:List Nat}{Q:EP}(hq:∀ q ∈ qs,q<nx)(h:Q2 P f args (D6 H qs) nx Q)(hQ:∀ v H0 nx',Q v H0 nx'->D0 (D6 H qs) nx H0 nx')(hk:∀ v H' nx' H0,Q v H0 nx'->D0 H nx H' nx'->Sub H0 nx' (D6 H' qs)->Top H' nx'->k v H' nx'):Y2 P f args H nx k:=by
 refine G84 N68 h hQ fun v H' nx' H0 E hE hS hT=>hk v H' nx' H0 E hE (fun i b hi hb => ?_) hT
 have J:=hQ _ _ _ E;have h1:i ∉ qs:=fun hm=>by rw[J.get i (hq i hm),U73 hm] at hb;cases hb
 rw[Q50 h1];exact hS i b hi hb
end
end Go.Clo
namespace Go.Proofs.YtoiioigihocgbaaGreatDoor
open Go.Clo
noncomputable abbrev D112:ByteArray:=⟨#[0,1,1,2,1,2,2,3,1,2,2,3,2,3,3,4,1,2,2,3,2,3,3,4,2,3,3,4,3,4,4,5,1,2,2,3,2,3,3,4,2,3,3,4,3,4,4,5,2,3,3,4,3,4,4,5,3,4,4,5,4,5,5,6,1,2,2,3,2,3,3,4,2,3,3,4,3,4,4,5,2,3,3,4,3,4,4,5,3,4,4,5,4,5,5,6,2,3,3,4,3,4,4,5,3,4,4,5,4,5,5,6,3,4,4,5,4,5,5,6,4,5,5,6,5,6,6,7,1,2,2,3,2,3,3,4,2,3,3,4,3,4,4,5,2,3,3,4,3,4,4,5,3,4,4,5,4,5,5,6,2,3,3,4,3,4,4,5,3,4,4,5,4,5,5,6,3,4,4,5,4,5,5,6,4,5,5,6,5,6,6,7,2,3,3,4,3,4,4,5,3,4,4,5,4,5,5,6,3,4,4,5,4,5,5,6,4,5,5,6,5,6,6,7,3,4,4,5,4,5,5,6,4,5,5,6,5,6,6,7,4,5,5,6,5,6,6,7,5,6,6,7,6,7,7,8]⟩
section
variable (a0 a1 a2 a3 a4 a5:Value) (H:Y0) (nx:Nat) (k:EP)
def F44:Prop:=
 M2 (nx+19) fun b=>
 D10 .shr a0 (.int .u64 24) fun c=>
 D9 .sidx [(.string D112),c] fun c=>
 D10 .shr a0 (.int .u64 16) fun d=>
 D10 .and d (.int .u32 255) fun d=>
 D9 .sidx [(.string D112),d] fun d=>
 D10 .add c d fun c=>
 D10 .shr a0 (.int .u64 8) fun d=>
 D10 .and d (.int .u32 255) fun d=>
 D9 .sidx [(.string D112),d] fun d=>
 D10 .add c d fun c=>
 D10 .and a0 (.int .u32 255) fun d=>
 D9 .sidx [(.string D112),d] fun d=>
 D10 .add c d fun c=>
 W8 .i64 c fun d=>
 wK (tB (tB (W8 .i64 c fun b=>b=d))) (
 Rt d H b k)
def F61:Prop:=
 D10 .shl (.int .u64 1) a0 fun b=>
 D10 .sub b (.int .u64 1) fun b=>
 W8 .u32 b fun b=>
 Rt b H nx k
def F70:Prop:=
 M12 a0 H nx fun b c d=>
 V4 (fun e=>
 J1 b (some 2) c fun f=>
 Y2 gQ 27 [f] c d fun c d f=>
 D10 .neq c i0 fun c=>
 K3 false c (
 D10 .lss a1 i0 fun c=>
 K3 false c (
 K7 b 0 d fun _ b=>
 D10 .geq a1 b fun b=>
 e [b] d f) (
 e [bT] d f)) (
 e [bT] d f)) (fun c d e=>
 K2 c.a (
 Rt u0 d e k) (
 J1 b (some 2) d fun b=>
 Y2 gQ 29 [b] d e fun b c d=>
 D65 b a1 32 1 false fun b=>
 Rt b c d k))
def F106:Prop:=
 J1 a1 none H fun b=>
 D10 .andNot b a0 fun b=>
 D10 .eql b u0 fun b=>
 Rt b H nx k
def F90:Prop:=
 M12 a0 H nx fun b c d=>
 M12 a1 c d fun c d e=>
 J1 b (some 2) d fun f=>
 Y2 gQ 27 [f] d e fun d e f=>
 D10 .neq d i0 fun d=>
 K2 d (
 Rt (.tuple ⟨[i0,bF]⟩) e f k) (
 K7 b 1 e fun _ b=>
 Y2 gQ 88 [b,(.func (.func 106) ⟨[]⟩ ⟨[c]⟩)] e f fun b c d=>
 D9 (.mm true) [b,i0] fun e=>
 D10 .geq b i0 fun b=>
 Rt (.tuple ⟨[e,b]⟩) c d k)
def F41:Prop:=
 D10 .shl (.int .u64 1) a0 fun b=>
 D10 .sub b (.int .u64 1) fun b=>
 W8 .u32 b fun b=>
 Rt b H nx k
def F27:Prop:=
 M12 a0 H nx fun b c d=>
 V4 (fun e=>
 K7 b 0 c fun _ f=>
 D10 .lss f i0 fun f=>
 K3 false f (
 K7 b 0 c fun _ b=>
 D10 .gtr b (.int .i64 32) fun b=>
 e [b] c d) (
 e [bT] c d)) (fun c d e=>
 K2 c.a (
 Rt (.int .i64 3) d e k) (
 K7 b 1 d fun _ c=>
 R4 c 0 d fun c=>
 D10 .gtr c (.int .i64 64) fun c=>
 K2 c (
 Rt (.int .i64 12) d e k) (
 K7 b 1 d fun _ c=>
 R4 c 0 d fun f=>
 G3 (fun d e g h=>
 D10 .lss e.a f fun f=>
 K2 f (
 U6 c e.a g fun _ c=>
 K7 b 0 g fun _ b=>
 Y2 gQ 61 [b] g h fun b f g=>
 D10 .andNot c b fun b=>
 D10 .neq b u0 fun b=>
 K2 b (
 Rt i1 f g k) (
 D10 .add e.a i1 fun b=>
 d [b] f g)) (
 Rt i0 g h k)) [i0] d e)))
def F40:Prop:=
 M12 a0 H nx fun b c d=>
 J1 b (some 2) c fun e=>
 Y2 gQ 27 [e] c d fun c d e=>
 D10 .neq c i0 fun f=>
 K2 f (
 Rt c d e k) (
 V4 (fun c=>
 D10 .lss a1 i0 fun f=>
 K3 false f (
 K7 b 0 d fun _ b=>
 D10 .gtr a1 b fun b=>
 c [b] d e) (
 c [bT] d e)) (fun b c d=>
 K2 b.a (
 Rt (.int .i64 3) c d k) (
 Rt i0 c d k)))
def F45:Prop:=
 M12 a0 H nx fun b c d=>
 wAl z32 c d fun c d e=>
 wAl z32 d e fun d e f=>
 K7 b 0 e fun _ g=>
 G3 (fun e f h i=>
 D10 .lss f.a g fun g=>
 K2 g (
 J1 b (some 2) h fun b=>
 Y2 gQ 70 [b,f.a] h i fun b c g=>
 M3 d f.a (some 32) 1 fun d=>
 D5 d b 1 c fun b=>
 D10 .add f.a i1 fun c=>
 e [c] b g) (
 J1 d (some 32) h fun b=>
 D5 c b 32 h fun b=>
 J1 c (some 32) b fun c=>
 Rt c b i k)) [i0] e f
def F76:Prop:=
 M12 a0 H nx fun b c d=>
 J1 b (some 2) c fun e=>
 Y2 gQ 40 [e,a1] c d fun c d e=>
 D10 .neq c i0 fun f=>
 K2 f (
 Rt (.tuple ⟨[(.slice none 0 0),c]⟩) d e k) (
 R4 a2 0 d fun c=>
 G3 (fun d e f g=>
 D10 .lss e.b c fun c=>
 K2 c (
 U6 a2 e.b f fun _ c=>
 V4 (fun d=>
 D10 .lss c a1 fun h=>
 K3 false h (
 K7 b 0 f fun _ b=>
 D10 .geq c b fun b=>
 K3 false b (
 D10 .shr e.a c fun b=>
 D10 .and b u1 fun b=>
 D10 .eql b u1 fun b=>
 d [b] f g) (
 d [bT] f g)) (
 d [bT] f g)) (fun b f g=>
 K2 b.a (
 Rt (.tuple ⟨[(.slice none 0 0),i1]⟩) f g k) (
 D10 .shl u1 c fun b=>
 D10 .or e.a b fun b=>
 D10 .add e.b i1 fun c=>
 d [b,c] f g))) (
 R4 a2 0 f fun c=>
 K7 b 0 f fun _ d=>
 D10 .sub d a1 fun d=>
 D10 .neq c d fun c=>
 K2 c (
 Rt (.tuple ⟨[(.slice none 0 0),i1]⟩) f g k) (
 wAl [.int .i64 0,.int .i64 0,.int .i64 0,.int .i64 0,.int .i64 0,.int .i64 0,.int .i64 0,.int .i64 0,.int .i64 0,.int .i64 0,.int .i64 0,.int .i64 0,.int .i64 0,.int .i64 0,.int .i64 0,.int .i64 0,.int .i64 0,.int .i64 0,.int .i64 0,.int .i64 0,.int .i64 0,.int .i64 0,.int .i64 0,.int .i64 0,.int .i64 0,.int .i64 0,.int .i64 0,.int .i64 0,.int .i64 0,.int .i64 0,.int .i64 0,.int .i64 0] f g fun c d e=>
 wAl [.int .i64 0,.int .i64 0,.int .i64 0,.int .i64 0,.int .i64 0,.int .i64 0,.int .i64 0,.int .i64 0,.int .i64 0,.int .i64 0,.int .i64 0,.int .i64 0,.int .i64 0,.int .i64 0,.int .i64 0,.int .i64 0,.int .i64 0,.int .i64 0,.int .i64 0,.int .i64 0,.int .i64 0,.int .i64 0,.int .i64 0,.int .i64 0,.int .i64 0,.int .i64 0,.int .i64 0,.int .i64 0,.int .i64 0,.int .i64 0,.int .i64 0,.int .i64 0] d e fun d e f=>
 D90 c 32 1 none none none fun g=>
 M82 g a2 1 e f fun _ e f=>
 G3 (fun e f g h=>
 D10 .lss f.a a1 fun i=>
 K2 i (
 R4 a2 0 g fun b=>
 D10 .add b f.a fun b=>
 D10 .sub a1 i1 fun d=>
 D10 .sub d f.a fun d=>
 M3 c b (some 32) 1 fun b=>
 D5 b d 1 g fun b=>
 D10 .add f.a i1 fun c=>
 e [c] b h) (
 K7 b 0 g fun _ e=>
 G3 (fun f g h i=>
 D10 .lss g.a e fun e=>
 K2 e (
 M3 c g.a (some 32) 1 fun b=>
 J1 b none h fun b=>
 M3 d b (some 32) 1 fun b=>
 D5 b g.a 1 h fun b=>
 D10 .add g.a i1 fun c=>
 f [c] b i) (
 J1 b (some 2) h fun e=>
 Y2 gQ 45 [e] h i fun e f g=>
 wAl z32 f g fun f g h=>
 D5 f e 32 g fun e=>
 K7 b 0 e fun _ g=>
 G29 g g [.int .i64 0,.int .u32 0,.int .i64 0] e h fun e g h=>
 K7 b 0 g fun _ i=>
 G3 (fun g h j l=>
 D10 .lss h.a i fun i=>
 K2 i (
 M3 c h.a (some 32) 1 fun c=>
 J1 c none j fun c=>
 M3 f c (some 32) 1 fun i=>
 J1 i none j fun i=>
 U11 [.int .i64 0,.int .u32 0,.int .i64 0] [(0,1),(1,1),(2,1)] [(0,c),(1,i),(2,(.int .i64 (-1)))] fun i=>
 wAl [.int .i64 0,.int .u32 0,.int .i64 0] j l fun j l m=>
 D5 j i 3 l fun i=>
 K7 b 0 i fun _ b=>
 G3 (fun i l m n=>
 D10 .lss l.a b fun b=>
 K2 b (
 V4 (fun b=>
 K7 j 1 m fun _ e=>
 D10 .shr e l.a fun e=>
 D10 .and e u1 fun e=>
 D10 .eql e u0 fun e=>
 K2 e (
 b [] m n) (
 V4 (fun b=>
 V4 (fun b=>
 M2 (n+13) fun c=>
 K7 j 2 m fun e f=>
 D10 .lss f i0 fun g=>
 K3 false g (
 M3 d l.a (some 32) 1 fun g=>
 J1 g none m fun h=>
 K7 j 2 m fun i j=>
 M3 d j (some 32) 1 fun d=>
 J1 d none m fun l=>
 D10 .lss h l fun n=>
 wK ((tB (cE d none m l))/\((tB (cE i none m j))/\((tB (cE g none m h))/\(tB (tB (cE e none m f)))))) (
 b [n] m c)) (
 wK (tB (tB (cE e none m f))) (
 b [bT] m c))) (fun c d e=>
 K2 c.a (
 B4 j 2 fun c=>
 D5 c l.a 1 d fun c=>
 b [] c e) (
 b [] d e))) (fun _ d e=>
 M2 (e+15) fun e=>
 M3 f l.a (some 32) 1 fun g=>
 J1 g none d fun h=>
 K7 j 1 d fun i j=>
 D10 .or h j fun m=>
 D10 .shl u1 l.a fun n=>
 D10 .shl u1 c fun c=>
 D10 .or n c fun c=>
 D10 .andNot m c fun c=>
 M3 f l.a (some 32) 1 fun f=>
 D5 f c 1 d fun c=>
 wK ((tA (tB (cE i none d j)))/\(tB (tA (tB (cE g none d h))))) (
 b [] c e)))) (fun _ b c=>
 D10 .add l.a i1 fun d=>
 i [d] b c)) (
 J1 j (some 3) m fun b=>
 M3 e c none 3 fun c=>
 D5 c b 3 m fun b=>
 D10 .add h.a i1 fun c=>
 g [c] b n)) [i0] i m) (
 Rt (.tuple ⟨[e,i0]⟩) j l k)) [i0] g h)) [i0] g h)) [i0] e f))) [u0,i0] d e)
def F78:Prop:=
 M12 a0 H nx fun b c d=>
 V4 (fun e=>
 K7 b 0 c fun _ f=>
 D10 .lss f i0 fun f=>
 K3 false f (
 K7 b 0 c fun _ b=>
 D10 .geq b (.int .i64 32) fun b=>
 e [b] c d) (
 e [bT] c d)) (fun c d e=>
 K2 c.a (
 K7 b 1 d fun _ b=>
 Rt b d e k) (
 M2 (e+7) fun c=>
 K7 b 1 d fun e f=>
 K7 b 0 d fun b g=>
 D10 .shl u1 g fun h=>
 D10 .or f h fun h=>
 wK ((tB (cE b none d g))/\(tB (tB (cE e none d f)))) (
 Rt h d c k)))
def F47:Prop:=
 M12 a0 H nx fun b c d=>
 M12 a1 c d fun c d e=>
 wAl zR d e fun d e f=>
 J1 b (some 3) e fun g=>
 J1 c (some 3) e fun h=>
 Y2 gQ 79 [g,h] e f fun e f g=>
 D10 .lss e i0 fun e=>
 K2 e (
 J1 c (some 3) f fun b=>
 Y2 gQ 80 [b] f g fun b c e=>
 D5 d b 3 c fun b=>
 J1 d (some 3) b fun c=>
 Rt c b e k) (
 J1 b (some 3) f fun b=>
 Y2 gQ 80 [b] f g fun b c e=>
 D5 d b 3 c fun b=>
 J1 d (some 3) b fun c=>
 Rt c b e k)
def F77:Prop:=
 wAl zR H nx fun b c d=>
 C70 a0 fun e=>
 C81 e 0 2 c fun _ e=>
 Y2 gQ 90 [e,a1] c d fun c d e=>
 G9 c 0 fun _=>
 G9 c 1 fun c=>
 K2 c (
 Y2 gQ 75 [i1] d e fun c d e=>
 D5 b c 3 d fun c=>
 J1 b (some 3) c fun b=>
 Rt b c e k) (
 C70 a0 fun c=>
 K7 c 34 d fun _ c=>
 wLk (.int .u32) (.agg ⟨zR⟩) c a1 true d fun c=>
 G9 c 0 fun f=>
 G9 c 1 fun c=>
 wAl zR d e fun d e g=>
 D5 d f 3 e fun e=>
 V4 (fun b=>
 wUn .not c fun c=>
 K2 c (
 C70 a0 fun c=>
 C81 c 0 2 e fun _ c=>
 Y2 gQ 95 [c,a1] e g fun c e f=>
 G9 c 0 fun g=>
 G9 c 1 fun _=>
 wAl [.slice none 0 0,.slice none 0 0,.bool false,.slice none 0 0,.slice none 0 0] e f fun c e f=>
 D5 c g 5 e fun e=>
 C81 c 2 3 e fun _ c=>
 D5 d c 3 e fun c=>
 M2 (f+7) fun e=>
 C70 a0 fun f=>
 K7 f 34 c fun f g=>
 J1 d (some 3) c fun h=>
 W56 (.int .u32) g a1 h c e fun _ e i=>
 wK ((tA (tB (cE d (some 3) c h)))/\(tB (tA (tB (cE f none c g))))) (
 b [] e i)) (
 b [] e g)) (fun _ c e=>
 J1 d (some 3) c fun d=>
 D5 b d 3 c fun c=>
 J1 b (some 3) c fun b=>
 Rt b c e k))
def F46:Prop:=
 wAl zR H nx fun b c d=>
 G3 (fun c d e f=>
 C70 a0 fun g=>
 B4 g 0 fun g=>
 K7 g 0 e fun _ g=>
 D10 .lss d.b g fun g=>
 K2 g (
 D24 1 1 [.int .i64 0] [(0,d.b)] e f fun b e f=>
 B5 d.a b 1 8 e f fun b e f=>
 D10 .add d.b i1 fun d=>
 c [b,d] e f) (
 Y2 gQ 75 [i0] e f fun c e f=>
 wAl zR e f fun e f g=>
 D5 e c 3 f fun c=>
 C70 a0 fun f=>
 C81 f 0 2 c fun _ f=>
 Y2 gQ 76 [f,a1,d.a] c g fun c d f=>
 G9 c 0 fun g=>
 G9 c 1 fun _=>
 wSl g 3 none (some a1) none d fun c=>
 R4 c 0 d fun g=>
 G3 (fun d f h i=>
 D10 .lss f.a g fun g=>
 K2 g (
 B15 c f.a 3 h fun _ b=>
 wAl [.int .i64 0,.int .u32 0,.int .i64 0] h i fun c g h=>
 D5 c b 3 g fun b=>
 M2 (h+7) fun g=>
 J1 e (some 3) b fun h=>
 J1 c (some 3) b fun i=>
 Y2 gQ 78 [i] b g fun g j l=>
 Y2 gQ 77 [a0,g] j l fun g l m=>
 Y2 gQ 47 [h,g] l m fun g m n=>
 D5 e g 3 m fun g=>
 wK ((tA (tA (tA (tA (tB (cE c (some 3) b i))))))/\(tB (tA (tA ((cE e (some 3) l h)/\((cE e (some 3) j h)/\(tB (cE e (some 3) b h)))))))) (
 D10 .add f.a i1 fun b=>
 d [b] g n)) (
 J1 e (some 3) h fun c=>
 D5 b c 3 h fun c=>
 J1 b (some 3) c fun b=>
 Rt b c i k)) [i0] d f)) [(.slice none 0 0),a1] c d
def F81:Prop:=
 D10 .andNot a2 a3 fun b=>
 M2 (nx+4) fun c=>
 D10 .shl u1 a1 fun d=>
 wK True (
 G3 (fun c d e f=>
 D10 .neq d.b u0 fun g=>
 K2 g (
 Y2 gQ 73 [d.b] e f fun e f g=>
 D10 .shl u1 e fun h=>
 D10 .andNot d.b h fun h=>
 D10 .shl u1 e fun i=>
 D10 .or d.a i fun d=>
 V4 (fun c=>
 D10 .eql e a1 fun d=>
 K3 false d (
 D10 .shr b e fun b=>
 D10 .and b u1 fun b=>
 D10 .eql b u1 fun b=>
 c [b] f g) (
 c [bT] f g)) (fun b f g=>
 K2 b.a (
 C70 a0 fun b=>
 B4 b 2 fun b=>
 M3 b e (some 32) 1 fun b=>
 J1 b none f fun b=>
 D10 .andNot b d fun b=>
 D10 .or h b fun b=>
 c [d,b] f g) (
 c [d,h] f g))) (
 D10 .andNot d.a b fun b=>
 Rt b e f k)) [u0,d] H c)
def F48:Prop:=
 wAl zR H nx fun b c d=>
 D10 .eql a2 u0 fun e=>
 K2 e (
 Y2 gQ 75 [i0] c d fun c d e=>
 D5 b c 3 d fun c=>
 J1 b (some 3) c fun b=>
 Rt b c e k) (
 C70 a0 fun e=>
 K7 e 35 c fun _ e=>
 wLk (.int .u32) (.agg ⟨zR⟩) e a2 true c fun e=>
 G9 e 0 fun f=>
 G9 e 1 fun e=>
 wAl zR c d fun c d g=>
 D5 c f 3 d fun d=>
 K2 e (
 J1 c (some 3) d fun c=>
 D5 b c 3 d fun c=>
 J1 b (some 3) c fun b=>
 Rt b c g k) (
 wAl zR d g fun c d e=>
 C70 a0 fun f=>
 B4 f 0 fun f=>
 K7 f 0 d fun _ f=>
 G3 (fun d e g h=>
 D10 .lss e.b f fun f=>
 K2 f (
 V4 (fun b=>
 D10 .shr a2 e.b fun d=>
 D10 .and d u1 fun d=>
 D10 .eql d u0 fun d=>
 K2 d (
 b [e.a] g h) (
 D10 .shl u1 e.b fun d=>
 D10 .andNot a2 d fun d=>
 Y2 gQ 48 [a0,a1,d] g h fun d f g=>
 wAl zR f g fun f g h=>
 D5 f d 3 g fun d=>
 V4 (fun b=>
 K3 true e.a (
 J1 f (some 3) d fun e=>
 J1 c (some 3) d fun c=>
 Y2 gQ 79 [e,c] d h fun c d e=>
 D10 .geq c i0 fun c=>
 b [c] d e) (
 b [bF] d h)) (fun d g h=>
 K2 d.a (
 b [e.a] g h) (
 M2 (h+10) fun d=>
 J1 f (some 3) g fun h=>
 Y2 gQ 81 [a0,e.b,a1,a2] g d fun d i j=>
 Y2 gQ 77 [a0,d] i j fun d j l=>
 Y2 gQ 47 [h,d] j l fun d l m=>
 D5 f d 3 l fun d=>
 wK (tB (tA (tA ((cE f (some 3) j h)/\((cE f (some 3) i h)/\(tB (cE f (some 3) g h))))))) (
 V4 (fun b=>
 wUn .not e.a fun e=>
 K3 false e (
 J1 f (some 3) d fun e=>
 J1 c (some 3) d fun c=>
 Y2 gQ 79 [e,c] d m fun c d e=>
 D10 .lss c i0 fun c=>
 b [c] d e) (
 b [bT] d m)) (fun d g h=>
 K2 d.a (
 J1 f (some 3) g fun d=>
 D5 c d 3 g fun c=>
 b [bT] c h) (
 b [e.a] g h))))))) (fun b c f=>
 D10 .add e.b i1 fun e=>
 d [b.a,e] c f)) (
 M2 (h+7) fun d=>
 C70 a0 fun e=>
 K7 e 35 g fun e f=>
 J1 c (some 3) g fun h=>
 W56 (.int .u32) f a2 h g d fun _ d i=>
 wK ((tA (tB (cE c (some 3) g h)))/\(tB (tA (tB (cE e none g f))))) (
 J1 c (some 3) d fun c=>
 D5 b c 3 d fun c=>
 J1 b (some 3) c fun b=>
 Rt b c i k))) [bF,i0] d e))
def F82:Prop:=
 M2 (nx+45) fun b=>
 J1 a2 none H fun c=>
 U6 c a0 H fun d e=>
 D10 .shr e a1 fun f=>
 D10 .and f u1 fun f=>
 D10 .eql f u1 fun f=>
 K3 true f (
 J1 a3 none H fun f=>
 J1 a3 none H fun g=>
 J1 a4 none H fun h=>
 U6 h a0 H fun i j=>
 J1 a2 none H fun l=>
 U6 l a0 H fun m n=>
 Y2 gQ 81 [g,a1,j,n] H b fun b o p=>
 Y2 gQ 77 [f,b] o p fun b p q=>
 J1 a5 (some 3) p fun r=>
 Y2 gQ 79 [b,r] p q fun b q s=>
 D10 .leq b i0 fun b=>
 K3 true b (
 J1 a3 none q fun b=>
 J1 a4 none q fun t=>
 U6 t a0 q fun u v=>
 J1 a2 none q fun w=>
 U6 w a0 q fun x y=>
 D10 .shl u1 a1 fun z=>
 D10 .andNot y z fun z=>
 Y2 gQ 48 [b,v,z] q s fun s z A=>
 J1 a5 (some 3) z fun B=>
 Y2 gQ 79 [s,B] z A fun s A C=>
 D10 .leq s i0 fun s=>
 wK ((tA ((cE a5 (some 3) z B)/\(tB (cE a5 (some 3) q B))))/\((tA (tA (tB (cE x none q y))))/\((tA (tA (tB (cE a2 none q w))))/\((tA (tA (tB (cE u none q v))))/\((tA (tA (tB (cE a4 none q t))))/\((tA (tA (tB (cE a3 none q b))))/\((tA (tA (tA ((cE a5 (some 3) p r)/\((cE a5 (some 3) o r)/\(tB (cE a5 (some 3) H r)))))))/\((tA (tA (tA (tA (tA (tB (cE m none H n)))))))/\((tA (tA (tA (tA (tA (tB (cE a2 none H l)))))))/\((tA (tA (tA (tA (tA (tB (cE i none H j)))))))/\((tA (tA (tA (tA (tA (tB (cE a4 none H h)))))))/\((tA (tA (tA (tA (tA (tB (cE a3 none H g)))))))/\((tA (tA (tA (tA ((cE a3 none o f)/\(tB (cE a3 none H f)))))))/\((tA (tA (tA (tA (tA (tB (cE d none H e)))))))/\(tB (tA (tA (tA (tA (tA (tB (cE a2 none H c)))))))))))))))))))))) (
 Rt s A C k)) (
 wK ((tA ((cE a5 (some 3) p r)/\((cE a5 (some 3) o r)/\(tB (cE a5 (some 3) H r)))))/\((tA (tA (tA (tB (cE m none H n)))))/\((tA (tA (tA (tB (cE a2 none H l)))))/\((tA (tA (tA (tB (cE i none H j)))))/\((tA (tA (tA (tB (cE a4 none H h)))))/\((tA (tA (tA (tB (cE a3 none H g)))))/\((tA (tA ((cE a3 none o f)/\(tB (cE a3 none H f)))))/\((tA (tA (tA (tB (cE d none H e)))))/\(tB (tA (tA (tA (tB (cE a2 none H c)))))))))))))) (
 Rt bF q s k))) (
 wK ((tB (cE d none H e))/\(tB (tB (cE a2 none H c)))) (
 Rt bF H b k))
def F49:Prop:=
 M12 a0 H nx fun b c d=>
 M12 a1 c d fun c d e=>
 M12 a2 d e fun d e f=>
 J1 c none e fun g=>
 R4 g 0 e fun g=>
 G29 g g [.int .u32 0] e f fun e f g=>
 wAl [.slice none 0 0] f g fun f g h=>
 D5 f e 1 g fun e=>
 J1 c none e fun g=>
 R4 g 0 e fun i=>
 G3 (fun e h j l=>
 D10 .lss h.b i fun i=>
 K2 i (
 U6 g h.b j fun _ b=>
 J1 f none j fun c=>
 M3 c h.b none 1 fun c=>
 D5 c b 1 j fun c=>
 Y2 gQ 44 [b] c l fun b c d=>
 D10 .add h.a b fun b=>
 D10 .add h.b i1 fun f=>
 e [b,f] c d) (
 G3 (fun e g i j=>
 D10 .lss g.b h.a fun h=>
 K2 h (
 V4 (fun e=>
 J1 b none i fun h=>
 C70 h fun h=>
 B4 h 0 fun h=>
 K7 h 0 i fun _ h=>
 G3 (fun g i j l=>
 D10 .lss i.b h fun h=>
 K2 h (
 J1 f none j fun h=>
 R4 h 0 j fun h=>
 G3 (fun j l m n=>
 D10 .lss l.b h fun h=>
 K2 h (
 M33 gQ (.func (.func 82) ⟨[]⟩ ⟨[f,b,c,d]⟩) [l.b,i.b] m n fun b c d=>
 K2 b (
 D24 1 1 [.int .i64 0] [(0,i.b)] c d fun b c d=>
 B5 l.a b 1 8 c d fun b c d=>
 M2 (d+9) fun d=>
 J1 f none c fun g=>
 U6 g l.b c fun h j=>
 D10 .shl u1 i.b fun i=>
 D10 .andNot j i fun i=>
 M3 g l.b none 1 fun l=>
 D5 l i 1 c fun i=>
 wK ((tA (tB (cE h none c j)))/\(tB (tA (tB (cE f none c g))))) (
 e [b] i d)) (
 D10 .add l.b i1 fun b=>
 j [l.a,b] c d)) (
 D10 .add i.b i1 fun b=>
 g [l.a,b] m n)) [i.a,i0] j l) (
 e [i.a] j l)) [g.a,i0] i j) (fun b c d=>
 D10 .add g.b i1 fun f=>
 e [b.a,f] c d)) (
 Rt g.a i j k)) [(.slice none 0 0),i0] j l)) [i0,i0] e h
def F43:Prop:=
 M12 a0 H nx fun b c d=>
 wAl [.int .i64 0,.slice none 0 0] c d fun c d e=>
 J1 b (some 2) d fun f=>
 Y2 gQ 27 [f] d e fun d e f=>
 D10 .neq d i0 fun d=>
 K2 d (
 U11 [.int .i64 0,.slice none 0 0] [(0,1),(1,1)] [] fun b=>
 D5 c b 2 e fun b=>
 J1 c (some 2) b fun c=>
 Rt c b f k) (
 K7 b 0 e fun _ d=>
 U11 [.int .i64 0,.slice none 0 0] [(0,1),(1,1)] [(0,d)] fun d=>
 wAl [.int .i64 0,.slice none 0 0] e f fun e f g=>
 D5 e d 2 f fun d=>
 K7 b 1 d fun _ b=>
 R4 b 0 d fun f=>
 G3 (fun d g h i=>
 D10 .lss g.a f fun f=>
 K2 f (
 V4 (fun c=>
 U6 b g.a h fun _ b=>
 D10 .and b a1 fun d=>
 D10 .neq d u0 fun d=>
 K2 d (
 K7 e 1 h fun _ d=>
 D10 .and b a1 fun b=>
 D24 1 1 [.int .u32 0] [(0,b)] h i fun b f g=>
 B5 d b 1 4 f g fun b d f=>
 B4 e 1 fun e=>
 D5 e b 1 d fun b=>
 c [] b f) (
 c [] h i)) (fun _ b c=>
 D10 .add g.a i1 fun e=>
 d [e] b c)) (
 J1 e (some 2) h fun b=>
 D5 c b 2 h fun b=>
 J1 c (some 2) b fun c=>
 Rt c b i k)) [i0] d g)
def F42:Prop:=
 M12 a0 H nx fun b c d=>
 J1 b (some 2) c fun e=>
 Y2 gQ 27 [e] c d fun c d e=>
 D10 .neq c i0 fun c=>
 K2 c (
 Rt (.slice none 0 0) d e k) (
 J1 b (some 2) d fun c=>
 Y2 gQ 29 [c] d e fun c d e=>
 wAl z32 d e fun d e f=>
 D5 d c 32 e fun c=>
 K7 b 0 c fun _ e=>
 Y2 gQ 61 [e] c f fun c e f=>
 G3 (fun c e f g=>
 D10 .neq e.b u0 fun h=>
 K2 h (
 wUn .neg e.b fun h=>
 D10 .and e.b h fun h=>
 G3 (fun f g h i=>
 D10 .neq g.b u0 fun j=>
 K2 j (
 D10 .or g.a g.b fun c=>
 K7 b 0 h fun _ b=>
 G3 (fun e h i j=>
 D10 .lss h.b b fun b=>
 K2 b (
 V4 (fun b=>
 D10 .shr g.b h.b fun c=>
 D10 .and c u1 fun c=>
 D10 .eql c u1 fun c=>
 K2 c (
 M3 d h.b (some 32) 1 fun c=>
 J1 c none i fun c=>
 D10 .or h.a c fun c=>
 b [c] i j) (
 b [h.a] i j)) (fun b c d=>
 D10 .add h.b i1 fun f=>
 e [b.a,f] c d)) (
 D10 .andNot h.a c fun b=>
 f [c,b] i j)) [u0,i0] h i) (
 D24 1 1 [.int .u32 0] [(0,g.a)] h i fun b d f=>
 B5 e.a b 1 4 d f fun b d f=>
 D10 .andNot e.b g.a fun e=>
 c [b,e] d f)) [u0,h] f g) (
 Rt e.a f g k)) [(.slice none 0 0),c] e f)
def F16:Prop:=
 M12 a0 H nx fun b c d=>
 wAl zR c d fun c d e=>
 J1 b (some 2) d fun f=>
 Y2 gQ 40 [f,a1] d e fun d e f=>
 D10 .neq d i0 fun g=>
 K2 g (
 U11 zR [(0,1),(1,1),(2,1)] [] fun b=>
 D5 c b 3 e fun b=>
 J1 c (some 3) b fun c=>
 Rt (.tuple ⟨[(.slice none 0 0),c,d]⟩) b f k) (
 K7 b 0 e fun _ d=>
 Y2 gQ 41 [d] e f fun d e f=>
 Y2 gQ 41 [a1] e f fun e f g=>
 D10 .andNot d e fun d=>
 J1 b (some 2) f fun e=>
 Y2 gQ 43 [e,d] f g fun e f g=>
 Y2 gQ 42 [e] f g fun e f g=>
 R4 e 0 f fun h=>
 G3 (fun f g i j=>
 D10 .lss g.b h fun h=>
 K2 h (
 V4 (fun b=>
 U6 e g.b i fun _ e=>
 D10 .and e d fun d=>
 D10 .eql d u0 fun d=>
 K2 d (
 b [g.a] i j) (
 Y2 gQ 44 [e] i j fun d f h=>
 D10 .gtr d (.int .i64 8) fun d=>
 K2 d (
 U11 zR [(0,1),(1,1),(2,1)] [] fun b=>
 D5 c b 3 f fun b=>
 J1 c (some 3) b fun c=>
 Rt (.tuple ⟨[(.slice none 0 0),c,(.int .i64 12)]⟩) b h k) (
 D24 1 1 [.int .u32 0] [(0,e)] f h fun c d e=>
 B5 g.a c 1 4 d e fun c d e=>
 b [c] d e))) (fun b c d=>
 D10 .add g.b i1 fun e=>
 f [b.a,e] c d)) (
 K7 b 1 i fun _ d=>
 R4 d 0 i fun e=>
 G3 (fun f h i j=>
 D10 .lss h.b e fun e=>
 K2 e (
 U6 d h.b i fun _ b=>
 D10 .or h.a b fun b=>
 D10 .add h.b i1 fun c=>
 f [b,c] i j) (
 K7 b 0 i fun _ d=>
 Y2 gQ 41 [d] i j fun d e f=>
 D10 .neq h.a d fun d=>
 K2 d (
 U11 zR [(0,1),(1,1),(2,1)] [] fun b=>
 D5 c b 3 e fun b=>
 J1 c (some 3) b fun c=>
 Rt (.tuple ⟨[(.slice none 0 0),c,(.int .i64 9)]⟩) b f k) (
 M2 (f+8) fun d=>
 J1 b (some 2) e fun h=>
 J1 b (some 2) e fun i=>
 Y2 gQ 45 [i] e d fun d j l=>
 M64 none <| wNm f 3 .map fun m=>
 M64 none <| wNm f 4 .map fun n=>
 U11 [.int .i64 0,.slice none 0 0,.int .u32 0,.int .u32 0,.int .u32 0,.int .u32 0,.int .u32 0,.int .u32 0,.int .u32 0,.int .u32 0,.int .u32 0,.int .u32 0,.int .u32 0,.int .u32 0,.int .u32 0,.int .u32 0,.int .u32 0,.int .u32 0,.int .u32 0,.int .u32 0,.int .u32 0,.int .u32 0,.int .u32 0,.int .u32 0,.int .u32 0,.int .u32 0,.int .u32 0,.int .u32 0,.int .u32 0,.int .u32 0,.int .u32 0,.int .u32 0,.int .u32 0,.int .u32 0,.map none,.map none] [(0,2),(2,32),(34,1),(35,1)] [(0,h),(1,d),(2,m),(3,n)] fun d=>
 E5 d fun d=>wNm f 6 .ptr fun m=>
 wK ((tA (tB (cE b (some 2) e i)))/\(tB ((cE b (some 2) j h)/\(tB (cE b (some 2) e h))))) (
 E6 j (f+6) (some (.cells d 0)) fun b=>E6 b (f+4) (some (.map [] 0)) fun b=>E6 b (f+3) (some (.map [] 0)) fun b => 
 Y2 gQ 46 [m,a1] b l fun b d e=>
 wAl zR d e fun d e f=>
 D5 d b 3 e fun b=>
 R4 g.a 0 b fun e=>
 G3 (fun b f h i=>
 D10 .lss f.a e fun e=>
 K2 e (
 U6 g.a f.a h fun _ c=>
 M2 (i+7) fun e=>
 J1 d (some 3) h fun g=>
 Y2 gQ 48 [m,c,c] h e fun c e i=>
 Y2 gQ 47 [g,c] e i fun c i j=>
 D5 d c 3 i fun c=>
 wK (tB (tA (tA ((cE d (some 3) e g)/\(tB (cE d (some 3) h g)))))) (
 D10 .add f.a i1 fun d=>
 b [d] c j)) (
 M2 (i+8) fun b=>
 J1 d (some 3) h fun e=>
 Y2 gQ 49 [m,g.a,e] h b fun b f g=>
 J1 d (some 3) f fun i=>
 D5 c i 3 f fun j=>
 wK ((tA ((cE d (some 3) f i)/\(tB (cE d (some 3) h i))))/\(tB (tA (tA (tB (cE d (some 3) h e)))))) (
 J1 c (some 3) j fun c=>
 Rt (.tuple ⟨[b,c,i0]⟩) j g k))) [i0] b f)))) [u0,i0] i j)) [(.slice none 0 0),i0] f g)
variable {a0 a1 a2 a3 a4 a5 H nx k}
theorem spec44:F44 a0 H nx k->Q2 gQ 44 [a0] H nx k:=Q12 [] [] []
theorem spec61:F61 a0 H nx k->Q2 gQ 61 [a0] H nx k:=Q12 [] [] []
theorem spec70:F70 a0 a1 H nx k->Q2 gQ 70 [a0,a1] H nx k:=Q12 [(2,[17])] [] [.one (.tst (.one (.tst (.one .nil) (.one .nil))) (.one (.one (.one .nil))))]
theorem spec106:F106 a0 a1 H nx k->Q2 gQ 106 [a0,a1] H nx k:=Q12 [] [] []
theorem spec90:F90 a0 a1 H nx k->Q2 gQ 90 [a0,a1] H nx k:=Q12 [] [] []
theorem spec41:F41 a0 H nx k->Q2 gQ 41 [a0] H nx k:=Q12 [] [] []
theorem spec27:F27 a0 H nx k->Q2 gQ 27 [a0] H nx k:=Q12 [(2,[12])] [[20]] [.one (.tst (.one .nil) (.one .nil))]
theorem spec40:F40 a0 a1 H nx k->Q2 gQ 40 [a0,a1] H nx k:=Q12 [(6,[18])] [] [.one (.tst (.one .nil) (.one .nil))]
theorem spec45:F45 a0 H nx k->Q2 gQ 45 [a0] H nx k:=Q12 [] [[7]] []
theorem spec76:F76 a0 a1 a2 H nx k->Q2 gQ 76 [a0,a1,a2] H nx k:=Q12 [(13,[49]),(46,[]),(50,[]),(51,[131])] [[9,30],[66],[81],[97],[110]] [.one (.tst (.one (.tst (.one .nil) (.one .nil))) (.one (.one (.one .nil)))),.one (.tst (.one .nil) (.one .nil))]
theorem spec78:F78 a0 H nx k->Q2 gQ 78 [a0] H nx k:=Q12 [(2,[10])] [] [.one (.tst (.one .nil) (.one .nil))]
theorem spec47:F47 a0 a1 H nx k->Q2 gQ 47 [a0,a1] H nx k:=Q12 [] [] []
theorem spec77:F77 a0 a1 H nx k->Q2 gQ 77 [a0,a1] H nx k:=Q12 [(6,[])] [] []
theorem spec46:F46 a0 a1 H nx k->Q2 gQ 46 [a0,a1] H nx k:=Q12 [] [[5,6],[41]] []
theorem spec81:F81 a0 a1 a2 a3 H nx k->Q2 gQ 81 [a0,a1,a2,a3] H nx k:=Q12 [(9,[39])] [[10,11]] [.one (.tst (.one .nil) (.one .nil))]
theorem spec48:F48 a0 a1 a2 H nx k->Q2 gQ 48 [a0,a1,a2] H nx k:=Q12 [(14,[10]),(20,[53]),(22,[70])] [[10,32]] [.one (.tst (.one .nil) (.one .nil)),.one (.tst (.one .nil) (.one .nil))]
theorem spec82:F82 a0 a1 a2 a3 a4 a5 H nx k->Q2 gQ 82 [a0,a1,a2,a3,a4,a5] H nx k:=Q12 [] [] [.one (.tst (.one (.tst (.one .nil) (.one .nil))) (.one (.one (.one .nil))))]
theorem spec49:F49 a0 a1 a2 H nx k->Q2 gQ 49 [a0,a1,a2] H nx k:=Q12 [(16,[12])] [[8,20],[12,36],[12,43],[12,48]] []
theorem spec43:F43 a0 a1 H nx k->Q2 gQ 43 [a0,a1] H nx k:=Q12 [(9,[])] [[18]] []
theorem spec42:F42 a0 H nx k->Q2 gQ 42 [a0] H nx k:=Q12 [(20,[8])] [[4,5],[6,7],[8,31]] []
theorem spec16:F16 a0 a1 H nx k->Q2 gQ 16 [a0,a1] H nx k:=Q12 [(11,[9])] [[9,37],[12,57],[83]] []
end
section
variable (a0 a1 a2:Value) (H:Y0) (nx:Nat) (k:EP)
def F29:Prop:=
 M12 a0 H nx fun b c d=>
 wAl z32 c d fun c d e=>
 wAl z32 d e fun d e f=>
 K7 b 1 e fun _ g=>
 R4 g 0 e fun h=>
 G3 (fun e f i j=>
 D10 .lss f.a h fun h=>
 K2 h (
 U6 g f.a i fun _ c=>
 K7 b 0 i fun _ b=>
 G3 (fun g h i j=>
 D10 .lss h.a b fun b=>
 K2 b (
 V4 (fun b=>
 D10 .shr c h.a fun e=>
 D10 .and e u1 fun e=>
 D10 .eql e u1 fun e=>
 K2 e (
 M2 (j+10) fun e=>
 M3 d h.a (some 32) 1 fun f=>
 J1 f none i fun g=>
 D10 .shl u1 h.a fun j=>
 D10 .andNot c j fun c=>
 D10 .or g c fun c=>
 M3 d h.a (some 32) 1 fun d=>
 D5 d c 1 i fun c=>
 wK (tB (tA (tB (cE f none i g)))) (
 b [] c e)) (
 b [] i j)) (fun _ b c=>
 D10 .add h.a i1 fun d=>
 g [d] b c)) (
 D10 .add f.a i1 fun b=>
 e [b] i j)) [i0] i j) (
 J1 d (some 32) i fun b=>
 D5 c b 32 i fun b=>
 J1 c (some 32) b fun c=>
 Rt c b j k)) [i0] e f
def F33:Prop:=
 M12 a0 H nx fun b c d=>
 J1 b (some 2) c fun e=>
 Y2 gQ 27 [e] c d fun c d e=>
 D10 .neq c i0 fun f=>
 K2 f (
 Rt c d e k) (
 V4 (fun c=>
 D10 .lss a1 i0 fun f=>
 K3 false f (
 K7 b 0 d fun _ b=>
 D10 .gtr a1 b fun b=>
 c [b] d e) (
 c [bT] d e)) (fun b c d=>
 K2 b.a (
 Rt (.int .i64 3) c d k) (
 Rt i0 c d k)))
def F34:Prop:=
 M12 a0 H nx fun b c d=>
 wAl z32 c d fun c d e=>
 wAl z32 d e fun d e f=>
 K7 b 0 e fun _ g=>
 G3 (fun e f h i=>
 D10 .lss f.a g fun g=>
 K2 g (
 J1 b (some 2) h fun b=>
 Y2 gQ 70 [b,f.a] h i fun b c g=>
 M3 d f.a (some 32) 1 fun d=>
 D5 d b 1 c fun b=>
 D10 .add f.a i1 fun c=>
 e [c] b g) (
 J1 d (some 32) h fun b=>
 D5 c b 32 h fun b=>
 J1 c (some 32) b fun c=>
 Rt c b i k)) [i0] e f
def F35:Prop:=
 D10 .shl (.int .u64 1) a0 fun b=>
 D10 .sub b (.int .u64 1) fun b=>
 W8 .u32 b fun b=>
 Rt b H nx k
def F74:Prop:=
 M12 a0 H nx fun b c d=>
 J1 b (some 2) c fun e=>
 Y2 gQ 27 [e] c d fun c d e=>
 D10 .eql c i0 fun c=>
 K3 true c (
 D10 .geq a1 i0 fun c=>
 K3 true c (
 K7 b 0 d fun _ b=>
 D10 .leq a1 b fun b=>
 Rt b d e k) (
 Rt bF d e k)) (
 Rt bF d e k)
def F55:Prop:=
 D10 .geq a1 i0 fun b=>
 K3 true b (
 D10 .lss a1 (.int .i64 32) fun b=>
 K3 true b (
 W8 .u64 a1 fun b=>
 D10 .shr a0 b fun b=>
 D10 .and b u1 fun b=>
 D10 .eql b u1 fun b=>
 Rt b H nx k) (
 Rt bF H nx k)) (
 Rt bF H nx k)
def F62:Prop:=
 G3 (fun b c d e=>
 R4 a0 0 d fun f=>
 D10 .lss c.a f fun f=>
 K2 f (
 U6 a0 c.a d fun _ f=>
 D10 .and f a1 fun f=>
 D10 .eql f a1 fun f=>
 K2 f (
 Rt bT d e k) (
 D10 .add c.a i1 fun c=>
 b [c] d e)) (
 D10 .eql a1 u0 fun b=>
 Rt b d e k)) [i0] H nx
def F105:Prop:=
 G29 a1 a1 [.int .u32 0] H nx fun b c d=>
 G3 (fun c d e f=>
 D10 .lss d.a a1 fun g=>
 K2 g (
 G3 (fun e f g h=>
 R4 a0 0 g fun i=>
 D10 .lss f.a i fun i=>
 K2 i (
 V4 (fun c=>
 U6 a0 f.a g fun _ e=>
 Y2 gQ 55 [e,d.a] g h fun e g h=>
 K2 e (
 M2 (h+13) fun e=>
 U6 b d.a g fun h i=>
 U6 a0 f.a g fun f j=>
 D10 .or i j fun l=>
 M3 b d.a none 1 fun b=>
 D5 b l 1 g fun b=>
 wK ((tA (tB (cE f none g j)))/\(tB (tA (tB (cE h none g i))))) (
 c [] b e)) (
 c [] g h)) (fun _ b c=>
 D10 .add f.a i1 fun d=>
 e [d] b c)) (
 U6 b d.a g fun _ e=>
 W8 .u64 d.a fun f=>
 D10 .shl u1 f fun f=>
 D10 .andNot e f fun e=>
 M3 b d.a none 1 fun b=>
 D5 b e 1 g fun b=>
 D10 .add d.a i1 fun d=>
 c [d] b h)) [i0] e f) (
 Rt b e f k)) [i0] c d
variable {a0 a1 a2 H nx k}
theorem spec29:F29 a0 H nx k->Q2 gQ 29 [a0] H nx k:=Q12 [(11,[])] [[10],[16]] []
theorem spec33:F33 a0 a1 H nx k->Q2 gQ 33 [a0,a1] H nx k:=Q12 [(6,[18])] [] [.one (.tst (.one .nil) (.one .nil))]
theorem spec34:F34 a0 H nx k->Q2 gQ 34 [a0] H nx k:=Q12 [] [[7]] []
theorem spec35:F35 a0 H nx k->Q2 gQ 35 [a0] H nx k:=Q12 [] [] []
theorem spec74:F74 a0 a1 H nx k->Q2 gQ 74 [a0,a1] H nx k:=Q12 [] [] [.one (.tst (.one (.tst (.one .nil) (.one .nil))) (.one (.one (.one .nil))))]
theorem spec55:F55 a0 a1 H nx k->Q2 gQ 55 [a0,a1] H nx k:=Q12 [] [] [.one (.tst (.one (.tst (.one .nil) (.one .nil))) (.one (.one (.one .nil))))]
theorem spec62:F62 a0 a1 H nx k->Q2 gQ 62 [a0,a1] H nx k:=Q12 [] [[5]] []
theorem spec105:F105 a0 a1 H nx k->Q2 gQ 105 [a0,a1] H nx k:=Q12 [(11,[])] [[6],[7]] []
end
section
variable {n:Nat}
theorem N44(h:n<=32):2^n<=4294967296:=bK (aK O0 h) (by decide)
theorem D46(n:Nat):0<2^n:=Nat.pow_pos O0
theorem X0(hn:n<=32):2^n-1<4294967296:=by have:=N44 hn;have:=D46 n;omega
open Go.Clo in
theorem O4{p:Prop}(h:p:=by first | omega | assumption | exact G0 (by assumption) | exact U10 (by assumption) | exact X0 (by omega) | fail):p:=h
end
section
variable {N:Int} {e i n:Nat} {es:List Nat}
def Z56(v:Value)(H:Y0)(nx:Nat):EP:=fun v' H' nx'=>v'=v/\H=H'/\nx=nx'
theorem U56{n:Nat}(h:n<=32):eW.wrap (IntKind.u64.wrap (IntKind.u64.wrap (1*2^min n 64)-1))=((2^n-1:Nat):Int):=by
 have h1:=N44 h;have h2:=D46 n;have e:(1*(2:Int)^min n 64)=((2^n:Nat):Int):=by
  have:min n 64=n:=O0;simp[this]
 rw[e];generalize 2^n=m at *
 simp only[eY,eK,dW];simp;omega
theorem M26{n:Nat}(hn:n<=32)(k:VP):(D10 .shl (.int .u64 1) (O8 (n:Int)) fun t4=>D10 .sub t4 (.int .u64 1) fun t5=>W8 .u32 t5 k)=k (O9 ((2^n-1:Nat):Int)):=by
 have h0:¬ (n:Int)<0:=O0;rw[X6];simp only[R9,N4,C18,cond_true,h0,if_false,aN,R11,Z32];rw[<- U56 hn];rfl
theorem C90{n:Nat}(hn:n<=32)(H:Y0)(nx:Nat):Q2 gQ 41 [O8 (n:Int)] H nx (Z56 (O9 ((2^n-1:Nat):Int)) H nx):=by
 refine spec41 ?_;unfold F41;simp only[W1,M26 hn,Y5];exact⟨rfl,rfl,rfl⟩
theorem C51{n:Nat}(hn:n<=32)(H:Y0)(nx:Nat):Q2 gQ 61 [O8 (n:Int)] H nx (Z56 (O9 ((2^n-1:Nat):Int)) H nx):=by
 refine spec61 ?_;unfold F61;simp only[W1,M26 hn,Y5];exact⟨rfl,rfl,rfl⟩
abbrev gv(N:Int)(A:Option Addr)(len cap:Nat):Value := .agg ⟨[O8 N,.slice A len cap]⟩
def N3(N:Int)(es:List Nat):Int:=if N<0\/32<N then 3 else if 64<es.length then 12 else if ∃ e ∈ es,2^N.toNat<=e then 1 else 0
theorem Q29(h:N<0\/32<N):N3 N es=3:=by simp[N3,h]
theorem J53(h1:0<=N)(h2:N<=32)(h:64<es.length):N3 N es=12:=by
 have:¬ (N<0\/32<N):=O0;simp[N3,h,this]
theorem D56(h1:n<=32)(h:es.length<=64)(he:es[i]? = some e)(hb:2^n<=e):N3 n es=1:=by
 have a1:¬ ((n:Int)<0\/32<(n:Int)):=O0;have a2:¬ 64<es.length:=O0;simp[N3,a1,a2];exact⟨e,aH he,hb⟩
theorem V11{n:Nat}{es:List Nat}(h1:n<=32)(h:es.length<=64)(hb:∀(i e:Nat),es[i]? = some e->e<2^n):N3 n es=0:=by
 have a1:¬ ((n:Int)<0\/32<(n:Int)):=O0;have a2:¬ 64<es.length:=O0;simp[N3,a1,a2];intro e he;obtain⟨i,hi,rfl⟩:=gL he;exact hb i _ (aE hi)
theorem X49(he:e<4294967296):decide (Z2 e (2^n-1)≠0)=decide (2^n<=e):=by
 congr 1;apply propext
 constructor
 .intro h
  rcases aW e (2^n) with g | g
  .exfalso;apply h
   apply bZ;intro i;rw[N1,dC]
   by_cases hi:i<n
   .simp[hi]
   .rw[dV (aO g (aK (n:=2) O0 (show n<=i by omega)))];simp
  .exact g
 .intro h h0
  obtain⟨i,hi,hb⟩:=Nat.exists_ge_and_testBit_of_ge_two_pow h;have:=N1 e (2^n-1) i;rw[h0,hb,dC] at this;have E:¬ i<n:=O0;simp[E] at this
def Q70(f:FuncId):Prop:=∀(N:Int) (A:Option Addr) (es:List Nat) (cap:Nat) (H:Y0) (nx:Nat),Sl H nx A (K12 es)->U14 es ->
 Q2 gQ f [gv N A es.length cap] H nx fun v H' nx'=>v = .int .i64 (N3 N es)/\D0 H nx H' nx'
theorem N11:Q70 27:=by
 intro N A es cap H nx hS a1;refine spec27 ?_;unfold F27;have hE:D0 H nx (hs H nx (O7 [O8 N,.slice A es.length cap])) (nx+1):=(D0.refl H nx).nw _;simp only[W0,Z0,Q0.val]
 by_cases h1:N<0
 .simp only[W0,N13,h1]
  exact⟨by rw[Q29 (.inl h1)],hE⟩
 by_cases h2:32<N
 .simp only[W0,N13,h1,h2]
  exact⟨by rw[Q29 (.inr h2)],hE⟩
 obtain⟨n,rfl⟩:=fI (show 0<=N by omega);simp only[W0,N13,h1,h2]
 by_cases h3:64<es.length
 .have Q:(64:Int)<(es.length:Int):=O0
  simp only[W0,Q];exact⟨by rw[J53 O0 O0 h3],hE⟩
 have Q:¬ (64:Int)<(es.length:Int):=O0;simp only[W0,Q];refine B1 (m:=es.length) (fun m L H' nx'=>∃ i:Nat,m+i=es.length/\L=[O8 (i:Int)]/\(∀(j e:Nat),j<i->es[j]? = some e->e<2^n)/\_=H'/\nx+1=nx') ?_ ⟨0,rfl,rfl,fun j e h=>O0,rfl,rfl⟩;rintro m ih L _ _ ⟨i,hm,rfl,Z,rfl,rfl⟩ a2
 by_cases hi:i<es.length
 .obtain⟨e,he⟩:∃ e,es[i]? = some e:=⟨_,aE hi⟩
  obtain⟨b,o,row,rfl,hb,W,V⟩:=(hS.ext hE).open (i:=i) (by rw[E1];exact hi);have U:((i:Int)<(es.length:Int)):=O0;have J:=a1.get he;simp(disch:=omega)only[W0,U,X3 W,V _ _ (Q3 he)];refine R0 (C51 O0 _ _) ?_;rintro _ _ _ ⟨rfl,rfl,rfl⟩;rw[V17 _ J (X0 O0)];simp only[W0,X49 J]
  by_cases E:2^n<=e
  .simp only[W0,E]
   exact⟨by rw[D56 O0 O0 he E],hE⟩
  .simp only[W0,E]
   refine a2 (m-1) _ _ _ O0 ⟨i+1,O0,O2,fun j e' hj O => ?_,rfl,rfl⟩
   by_cases a0:j=i
   .subst a0;rw[he] at O;cases O;omega
   .exact Z j e' O0 O
 .have U:¬ ((i:Int)<(es.length:Int)):=O0
  simp only[W0,U];exact⟨by rw[V11 O0 O0 fun j e he=>Z j e (by have:j<es.length:=by { rcases aW j es.length with g | g;exact g;rw[aT g] at he;cases he };omega) he],hE⟩
theorem N12{α:Type}{l:List α}{a:α}(h:l[i]? = some a):i<l.length:=by
 rcases aW i l.length with g | g
 .exact g
 .rw[aT g] at h;cases h
def Q6(N free:Int)(es:List Nat):Int:=if N3 N es≠0 then N3 N es else if free<0\/N<free then 3 else 0
theorem U86(N free:Int)(A:Option Addr)(es:List Nat)(cap:Nat)(H:Y0)(nx:Nat)(hS:Sl H nx A (K12 es))(J:U14 es):
  Q2 gQ 40 [gv N A es.length cap,O8 free] H nx fun v H' nx'=>v=O8 (Q6 N free es)/\D0 H nx H' nx':=by
 refine spec40 ?_;unfold F40;have hE:D0 H nx (hs H nx (O7 [O8 N,.slice A es.length cap])) (nx+1):=(D0.refl H nx).nw _;simp only[W0,Z0,Q0.val,C13];refine R0 (N11 N A es cap _ _ (hS.ext hE) J) ?_;rintro _ H2 nx2 ⟨rfl,E⟩;have hg:=E.gt nx;rw[Z11] at hg;simp only[W0,hg,N13]
 by_cases h0:N3 N es=0
 .by_cases h1:free<0
  .simp only[W0,h0,h1,ne_eq,not_true_eq_false]
   exact⟨by simp[Q6,h0,h1],hE.trans E⟩
  .by_cases h2:N<free
   .simp only[W0,h0,h1,h2,ne_eq,not_true_eq_false]
    exact⟨by simp[Q6,h0,h2],hE.trans E⟩
   .simp only[W0,h0,h1,h2,ne_eq,not_true_eq_false]
    exact⟨by simp[Q6,h0,h1,h2],hE.trans E⟩
 .simp only[W0,h0,ne_eq,not_false_eq_true]
  exact⟨by simp[Q6,h0],hE.trans E⟩
end
section
variable {es l:List Nat} {i n:Nat} {α:Type}
structure Bag where
 var:Int
 key:Nat
 par:Int
def W73(b:Bag):List Value:=[.int .i64 b.var,.int .u32 (b.key:Int),.int .i64 b.par]
abbrev J74(b:Bag):Value := .agg ⟨W73 b⟩
def R34(bs:List Bag):List Value:=bs.flatMap W73
theorem N94(bs:List Bag):(R34 bs).length=bs.length*3:=by
 induction bs with
 | nil=>rfl
 | cons b bs ih=>simp[R34,W73] at ih ⊢;omega
theorem M79:∀ {bs:List Bag} {i:Nat} {b:Bag},bs[i]? = some b->∀ j v,(W73 b)[j]? = some v->(R34 bs)[i*3+j]? = some v
 | [],i,b,h,_,_,_=>by simp at h
 | b0 :: bs,0,b,h,j,v,hv=>by
  simp at h;subst h;have hj:=N12 hv;show(W73 b0++R34 bs)[0*3+j]? = some v;rw[bQ (by simpa using hj)];simpa using hv
 | b0 :: bs,i+1,b,h,j,v,hv=>by
  have:=M79 (bs:=bs) (i:=i) (by simpa using h) j v hv;show(W73 b0++R34 bs)[(i+1)*3+j]? = some v;rw[bS (by simp[W73];omega)];have e:(i+1)*3+j-(W73 b0).length=i*3+j:=by simp[W73];omega
  rw[e];exact this
def W89(bs:List Bag):Prop:=∀ b ∈ bs,b.key<4294967296
theorem W89.get{bs:List Bag}(h:W89 bs){b:Bag}(hb:bs[i]? = some b):b.key<4294967296:=h b (aH hb)
def Y34(b:Bag):Nat:=if b.var<0\/32<=b.var then b.key else b.key ||| 2^b.var.toNat
theorem Y18(h:n<32):2^n<4294967296:=aO (Nat.pow_lt_pow_right O0 h) (by decide)
theorem E120{b:Bag}(h:b.key<4294967296):Y34 b<4294967296:=by
 unfold Y34
 split
 .exact h
 .exact M54 h (Y18 O0)
theorem M110{b:Bag}(hk:b.key<4294967296)(H:Y0)(nx:Nat):Q2 gQ 78 [J74 b] H nx fun r H' nx'=>r=O9 (Y34 b:Int)/\D0 H nx H' nx':=by
 obtain⟨var,key,par⟩:=b;dsimp only at hk;refine spec78 ?_;unfold F78;have hE:∀ m,nx+1<=m->D0 H nx (hs H nx (O7 [O8 var,O9 (key:Int),O8 par])) m:=fun m hm=>(D0.refl H nx).nw _
 simp only[J74,W73]
 by_cases h1:var<0
 .simp only[W0,Z0,Q0.val,N13,h1]
  exact⟨by rw[Y34,if_pos (.inl h1)],hE _ O0⟩
 by_cases h2:32<=var
 .simp only[W0,Z0,Q0.val,N13,h1,h2]
  exact⟨by rw[Y34,if_pos (.inr h2)],hE _ O0⟩
 obtain⟨p,rfl⟩:=fI (show 0<=var by omega);have hp:=Y18 (show p<32 by omega);simp(disch:=omega)only[W0,Z0,Q0.val,N13,h1,h2];exact⟨by rw[Y34,if_neg (by dsimp only;omega)];rfl,hE _ O0⟩
theorem D23{l:List α}(h:¬ i<l.length):l.take i=l:=gJ O0
theorem U27{N free:Int}{es:List Nat}(h:Q6 N free es=0):∃ n f:Nat,N=n/\free=f/\n<=32/\f<=n/\es.length<=64/\∀ e ∈ es,e<2^n:=by
 unfold Q6 at h
 split at h
 .rename_i hg;exact absurd h hg
 .rename_i hg
  split at h
  .cases h
  .rename_i hf
   have hg:N3 N es=0:=Decidable.of_not_not hg;unfold N3 at hg
   split at hg
   .cases hg
   .rename_i h1
    split at hg
    .cases hg
    .rename_i h2
     split at hg
     .cases hg
     .rename_i h3
      obtain⟨n,rfl⟩:=fI (show 0<=N by omega);obtain⟨f,rfl⟩:=fI (show 0<=free by omega);refine⟨n,f,rfl,rfl,O0,O0,O0,fun e he => ?_⟩;rcases aW e (2^n) with g | g
      .exact g
      .exact absurd ⟨e,he,by simpa using g⟩ h3
def V72(l:List Int)(f n:Nat):Prop:=l.length+f=n/\(∀ x ∈ l,(f:Int)<=x/\x<(n:Int))/\l.Nodup
theorem C7{l:List α}{x:α}(h:l[i]? = some x):l.take (i+1)=l.take i++[x]:=by
 rw[List.take_add_one,h];rfl
theorem V89{l:List α}{x:α}(h:l.Nodup)(hx:x ∉ l):(l++[x]).Nodup:=by
 rw[gT];exact⟨h,O2,fun a ha b hb=>by simp at hb;subst hb;intro e;subst e;exact hx ha⟩
def adj(es:List Nat)(a b:Nat):Bool:=decide (a≠b)&&es.any fun e=>e.testBit a&&e.testBit b
theorem E43(es:List Nat)(a:Nat):adj es a a=false:=by simp[adj]
theorem Z43(es:List Nat)(a b:Nat):adj es a b=adj es b a:=by
 unfold adj;congr 1
 .simp[eq_comm]
 .congr 1;funext e;rw[Bool.and_comm]
def Q1(p:Nat->Bool):Nat->Nat
 | 0=>0
 | n+1=>if p n then Q1 p n+2^n else Q1 p n
theorem G11(p:Nat->Bool):∀ n,Q1 p n<2^n
 | 0=>by simp[Q1]
 | n+1=>by
  have:=G11 p n;have h2:2^(n+1)=2^n+2^n:=by rw[dR];omega
  unfold Q1
  split<;>omega
theorem E26(p:Nat->Bool):∀ n i,(Q1 p n).testBit i=(decide (i<n)&&p i)
 | 0,i=>by simp[Q1]
 | n+1,i=>by
  have E:=G11 p n;have ih:=E26 p n i;unfold Q1
  by_cases hp:p n=true
  .rw[if_pos hp,Nat.add_comm]
   by_cases hi:i=n
   .subst hi
    rw[Nat.testBit_two_pow_add_eq,dV E];simp[hp]
   .rcases Nat.lt_or_gt_of_ne hi with h | h
    .rw[Nat.testBit_two_pow_add_gt h,ih];simp[h,Nat.lt_succ_of_lt h]
    .have h3:2^n+Q1 p n<2^i:=by
      have:2^(n+1)<=2^i:=aK O0 O0;have h2:2^(n+1)=2^n+2^n:=by rw[dR];omega
      omega
     rw[dV h3];have:¬ i<n+1:=O0;simp[this]
  .rw[if_neg hp,ih]
   by_cases hi:i=n
   .subst hi;simp[hp]
   .have:decide (i<n+1)=decide (i<n):=by congr 1;apply propext;omega
    rw[this]
def R6(f:Nat):Nat->List Int
 | 0=>[]
 | i+1=>R6 f i++[((f:Int)-1-i)]
theorem Y17(f:Nat):∀ i,(R6 f i).length=i
 | 0=>rfl
 | i+1=>by simp[R6,Y17 f i]
theorem Q96(a b:List Int):U4 (a++b)=U4 a++U4 b:=by simp[U4]
theorem Q27:[cD .u32 0,O9 0,O9 0,O9 0,O9 0,O9 0,O9 0,O9 0,O9 0,O9 0,O9 0,O9 0,O9 0,O9 0,O9 0,O9 0,O9 0,O9 0,O9 0,O9 0,O9 0,O9 0,O9 0,O9 0,O9 0,O9 0,O9 0,O9 0,O9 0,O9 0,O9 0,O9 0]=K12 (aF 32 0):=rfl
theorem Z34(h:l.length=32)(k:VP):B10 (K12 l) 0 (some 32) k=k (.agg ⟨K12 l⟩):=by
 rw[X21];have:(K12 l).length=32:=by rw[E1];exact h
 simp[<- this]
theorem W5:∀ l:List Nat,Z0 (K12 l)=true
 | []=>rfl
 | x :: l=>W5 l
def J37(v m e:Nat):Nat:=if e.testBit v then m ||| Z2 e (2^v) else m
def E10(es:List Nat)(v:Nat):Nat:=es.foldl (J37 v) 0
theorem G38{e v:Nat}(h:es[i]? = some e):E10 (es.take (i+1)) v=J37 v (E10 (es.take i) v) e:=by
 unfold E10;rw[C7 h,List.foldl_append];rfl
theorem Q46(v w:Nat):∀(es:List Nat) (m:Nat),(es.foldl (J37 v) m).testBit w=(m.testBit w || es.any fun e=>e.testBit v&&(e.testBit w&&decide (w≠v)))
 | [],m=>O2
 | e :: es,m=>by
  rw[dF,Q46 v w es,List.any_cons,<- Bool.or_assoc];congr 1;unfold J37
  split
  .rename_i h
   rw[aV,N1,aR,h];have:decide (v=w)=decide (w=v):=by congr 1;apply propext;exact eq_comm
   rw[this];simp
  .rename_i h
   simp at h;simp[h]
theorem E44(es:List Nat)(v w:Nat):(E10 es v).testBit w=adj es v w:=by
 unfold E10;rw[Q46,jQ,Bool.false_or];unfold adj
 by_cases h:v=w
 .subst h;simp
 .have h':w≠v:=fun e=>h e.symm
  simp[h,h']
theorem E36{es:List Nat}{n:Nat}(h:∀ e ∈ es,e<2^n)(v:Nat):E10 es v=Q1 (adj es v) n:=by
 apply bZ;intro w;rw[E44,E26]
 by_cases hw:w<n
 .simp[hw]
 .simp only[hw,decide_false,Bool.false_and]
  unfold adj;rw[bN];intro hc;simp only[aG,dY] at hc;obtain⟨_,e,he,_,hb⟩:=hc;rw[dV (aO (h e he) (aK O0 O0))] at hb
  cases hb
theorem U68{es:List Nat}(h:U14 es)(v:Nat):E10 es v<4294967296:=by
 rw[E36 (n:=32) (fun e he=>h e he) v];exact G11 _ 32
theorem X33{es:List Nat}(h:U14 es)(i:Nat):U14 (es.take i):=fun e he=>h e (List.mem_of_mem_take he)
def B2(es:List Nat)(n:Nat):List Nat:=(aY 32).map fun v=>if v<n then Q1 (adj es v) n else 0
theorem V39(es:List Nat){n v:Nat}(hn:n<=32)(hv:v<n):(B2 es n)[v]? = some (Q1 (adj es v) n):=by
 have:v<32:=O0;simp[B2,hv,this]
theorem G32{l':List Nat}(h:l.length=32)(h':l'.length=32)(hg:∀ v,v<32->l[v]? = l'[v]?):l=l':=by
 apply dH;intro v
 by_cases hv:v<32
 .exact hg v hv
 .rw[aT O0,aT O0]
theorem N9(es:List Nat)(n:Nat):(B2 es n).length=32:=by simp[B2]
theorem Q65{n:Nat}(hn:n<=32)(A:Option Addr)(es:List Nat)(cap:Nat)(H:Y0)(nx:Nat)(hS:Sl H nx A (K12 es))(ab:∀ e ∈ es,e<2^n)(ao:es.length<=64):
  Q2 gQ 29 [gv n A es.length cap] H nx fun r H' nx'=>r = .agg ⟨K12 (B2 es n)⟩/\D0 H nx H' nx':=by
 have O:U14 es:=fun e he=>aO (ab e he) (bK (aK O0 hn) (by decide))
 refine spec29 ?_;unfold F29;simp(disch:=first | omega | assumption | exact G0 O1 | exact U10 O1 | exact X0 O0 | fail  )only[W0,Z0,Q0.val,Q27];generalize hK:hs (hs (hs H nx (some (.cells [.int .i64 n,.slice A es.length cap] 0))) (nx+1) (some (.cells (K12 (aF 32 0)) 0))) (nx+1+1) (some (.cells (K12 (aF 32 0)) 0))=K;have kG:J0 K nx=some (.cells [.int .i64 n,.slice A es.length cap] 0):=by rw[<- hK,Z1 _ O0,Z1 _ O0,Z11]
 have kR:J0 K (nx+1)=some (.cells (K12 (aF 32 0)) 0):=by rw[<- hK,Z1 _ O0,Z11]
 have kA:J0 K (nx+1+1)=some (.cells (K12 (aF 32 0)) 0):=by rw[<- hK,Z11]
 have ah:D0 H nx K (nx+3):=by
  rw[<- hK];exact((((D0.refl H nx).new _ O0 O0:D0 H nx _ (nx+1)).new _ O0 O0:D0 H nx _ (nx+1+1)).new _ O0 O0)
 refine B1 (m:=es.length) (fun m L H' nx'=>∃(i:Nat) (l:List Nat),m+i=es.length/\L=[.int .i64 (i:Int)]/\l.length=32/\(∀ v,v<32->l[v]? = some (if v<n then E10 (es.take i) v else 0)) /\
  J0 H' (nx+1+1)=some (.cells (K12 l) 0)/\D0 K (nx+2) H' nx'/\nx+3<=nx') ?_ ⟨0,aF 32 0,rfl,rfl,O2,fun v hv=>by rw[List.getElem?_replicate,if_pos hv];simp[E10],kA,D0.self O0,aD _⟩
 rintro m ih L H2 nx2 ⟨i,l,hm,rfl,hl,a1,hg,V,ad⟩ aj;have g2:=(V.get nx O0).trans kG;have r2:=(V.get (nx+1) O0).trans kR;have Z:D0 H nx H2 nx2:=⟨O0,fun q hq=>(V.get q O0).trans (ah.get q hq)⟩
 simp(disch:=first | omega | assumption | exact G0 O1 | exact U10 O1 | exact X0 O0 | fail  )only[W0]
 by_cases hi:i<es.length
 case neg=>
  have a3:¬ (i:Int)<(es.length:Int):=O0;have ag:l=B2 es n:=by
   refine G32 hl (N9 es n) fun v hv => ?_
   rw[a1 v hv,D23 hi];simp only[B2,cP,List.getElem?_range hv,Option.map_some]
   split
   .rw[E36 ab]
   .rfl
  subst ag;have e1:(K12 (B2 es n)).length=32:=by rw[E1];exact hl
  have e2:(K12 (aF 32 0)).length=32:=by rw[E1];simp
  have e3:=G24 (c:=K12 (aF 32 0)) (vs:=K12 (B2 es n)) (by rw[e1,e2]);have e4:=W5 (B2 es n);simp(disch:=first | omega | assumption | exact G0 O1 | exact U10 O1 | exact X0 O0 | fail   )only[W0,a3,hg,Z34 hl,e1,e2,e4,r2,e3];exact Z.hs O0
 have a3:(i:Int)<(es.length:Int):=O0;obtain⟨e,he⟩:∃ e,es[i]? = some e:=⟨_,aE hi⟩
 obtain⟨A,oA,V63,rfl,aq,a7,a8⟩:=(hS.ext Z).open (i:=i) (by rw[E1];omega);have ac:=O.get he;have g0:=a8 _ _ (Q3 he);simp(disch:=first | omega | assumption | exact G0 O1 | exact U10 O1 | exact X0 O0 | fail  )only[W0,a3,X3 a7,g0,g2];refine B1 (m:=n) (fun m L H' nx'=>∃(j:Nat) (l:List Nat),m+j=n/\L=[.int .i64 (j:Int)]/\l.length=32/\(∀ v,v<32->l[v]? = some (if v<n then(if v<j then E10 (es.take (i+1)) v else E10 (es.take i) v) else 0)) /\
  J0 H' (nx+1+1)=some (.cells (K12 l) 0)/\D0 K (nx+2) H' nx'/\nx+3<=nx') ?_ ⟨0,l,rfl,rfl,hl,fun v hv=>by rw[a1 v hv];simp,hg,V,ad⟩
 rintro m3 au L3 H3 al ⟨j,l3,ap,rfl,U,J,a9,a5,a2⟩ a0;simp(disch:=try exact O4)only[W0]
 by_cases hj:j<n
 case neg=>
  have Q:¬ (j:Int)<(n:Int):=O0;simp(disch:=first | omega | assumption | exact G0 O1 | exact U10 O1 | exact X0 O0 | fail   )only[W0,Q];refine aj (m-1) _ _ _ O0 ⟨i+1,l3,O0,O2,U,fun v hv => ?_,a9,a5,a2⟩;rw[J v hv]
  by_cases E:v<n
  .rw[if_pos E,if_pos E,if_pos O0]
  .rw[if_neg E,if_neg E]
 have Q:(j:Int)<(n:Int):=O0;have W:l3[j]? = some (E10 (es.take i) j):=by rw[J j O0,if_pos hj,if_neg O0]
 have ak:=U68 (X33 O i) j;have hp:2^j<4294967296:=Y18 O0;have step:∀ x,x=E10 (es.take (i+1)) j->∀ v,v<32->(l3.set j x)[v]? = some (if v<n then(if v<j+1 then E10 (es.take (i+1)) v else E10 (es.take i) v) else 0):=by
  intro x hx v hv;rw[cQ]
  by_cases ae:j=v
  .subst ae;rw[if_pos rfl,if_pos O0,if_pos hj,if_pos O0,hx]
  .rw[if_neg ae,J v hv]
   by_cases E:v<n
   .rw[if_pos E,if_pos E]
    by_cases aa:v<j
    .rw[if_pos aa,if_pos O0]
    .rw[if_neg aa,if_neg O0]
   .rw[if_neg E,if_neg E]
 cases hb:e.testBit j with
 | false=>
  have a4:l3.set j (E10 (es.take i) j)=l3:=by
   apply dH;intro v;rw[cQ]
   split
   .rename_i h;subst h;rw[if_pos O0,W]
   .rfl
  have hx:=step (E10 (es.take i) j) (by rw[G38 he,J37,if_neg (by simp[hb])]);rw[a4] at hx;simp(disch:=first | omega | assumption | exact G0 O1 | exact U10 O1 | exact X0 O0 | fail   )only[W0,Q,N13];exact a0 (m3-1) _ _ _ O0 ⟨j+1,l3,O0,O2,U,hx,a9,a5,a2⟩
 | true=>
  have an:Z2 e (2^j)<4294967296:=U10 ac;have ai:j<l3.length:=O0;have hx:=step (E10 (es.take i) j ||| Z2 e (2^j)) (by rw[G38 he,J37,if_pos hb]);have gc:=Q3 W;have a6:(K12 l3).length=32:=by rw[E1];exact U
  simp(disch:=first | omega | assumption | exact G0 O1 | exact U10 O1 | exact X0 O0 | fail  )only[W0,Nat.reduceLeDiff,Q,N13,a9,gc,V10 ai,a6];refine⟨O0,a0 (m3-1) _ _ _ O0 ⟨j+1,l3.set j (E10 (es.take i) j ||| Z2 e (2^j)),O0,O2,by rw[dO];exact U,hx,by rw[Z11],(a5.hs O0).more O0,O0⟩⟩
theorem R56{c:List Value}{i:Nat}{x:Value}(h:c[i]? = some x)(hi:i<n)(k:VP):D65 (.agg ⟨c⟩) (O8 (i:Int)) n 1 false k=k x:=by
 show cond (dE i n) (E21 c (i*1) none False k) False=k x;have:dE i n=true:=by simp[Nat.blt_eq];omega
 rw[this,eQ];show C30 c i False k=k x;rw[Z12,h];rfl
theorem U61{n v:Nat}(hn:n<=32)(hv:v<n)(A:Option Addr)(es:List Nat)(cap:Nat)(H:Y0)(nx:Nat)(hS:Sl H nx A (K12 es))(U:∀ e ∈ es,e<2^n)(W:es.length<=64)(hg:N3 n es=0):
  Q2 gQ 70 [gv n A es.length cap,O8 (v:Int)] H nx fun r H' nx'=>r=O9 ((Q1 (adj es v) n:Nat):Int)/\D0 H nx H' nx':=by
 have J:U14 es:=fun e he=>aO (U e he) (bK (aK O0 hn) (by decide))
 refine spec70 ?_;unfold F70;have O:D0 H nx (hs H nx (O7 [O8 n,.slice A es.length cap])) (nx+1):=(D0.refl H nx).nw _;simp only[W0,Z0,Q0.val,C13,N13];refine R0 (N11 n A es cap _ _ (hS.ext O) J) ?_;rintro _ H2 nx2 ⟨rfl,E⟩;have Q:=E.gt nx;rw[Z11] at Q;have d1:decide (N3 n es≠0)=false:=by simp[hg]
 have h1:¬ (v:Int)<0:=O0;have h2:¬ (v:Int) ≥ (n:Int):=O0;simp only[W0,d1,h1,h2,Q,C13];refine R0 (Q65 hn A es cap _ _ (hS.ext (O.trans E)) U W) ?_;rintro _ H3 Z ⟨rfl,V⟩;rw[R56 (Q3 (V39 es hn hv)) O0];simp only[W0];exact(O.trans E).trans V
theorem W106{n:Nat}(hn:n<=32)(A:Option Addr)(es:List Nat)(cap:Nat)(H:Y0)(nx:Nat)(hS:Sl H nx A (K12 es))(a2:∀ e ∈ es,e<2^n)(a1:es.length<=64)(a7:N3 n es=0):
  Q2 gQ 45 [gv n A es.length cap] H nx fun r H' nx'=>r = .agg ⟨K12 (B2 es n)⟩/\D0 H nx H' nx':=by
 refine spec45 ?_;unfold F45;simp(disch:=omega)only[W0,Z0,Q0.val,Q27];generalize hK:hs (hs (hs H nx (O7 [O8 n,.slice A es.length cap])) (nx+1) (O7 (K12 (aF 32 0)))) (nx+1+1) (O7 (K12 (aF 32 0)))=K;have kG:J0 K nx=O7 [O8 n,.slice A es.length cap]:=by rw[<- hK,gN _,gN _,Z11]
 have kR:J0 K (nx+1)=O7 (K12 (aF 32 0)):=by rw[<- hK,gN _,Z11]
 have kA:J0 K (nx+1+1)=O7 (K12 (aF 32 0)):=by rw[<- hK,Z11]
 have a3:D0 H nx K (nx+3):=by
  rw[<- hK];exact((((D0.refl H nx).nw _:D0 H nx _ (nx+1)).nw _:D0 H nx _ (nx+1+1)).nw _)
 refine B1 (m:=n) (fun m L H' nx'=>∃(i:Nat) (l:List Nat),m+i=n/\L=[O8 (i:Int)]/\l.length=32/\(∀ v,v<32->l[v]? = some (if v<i then Q1 (adj es v) n else 0)) /\
  J0 H' (nx+1+1)=O7 (K12 l)/\D0 K (nx+2) H' nx'/\nx+3<=nx') ?_ ⟨0,aF 32 0,rfl,rfl,O2,fun v hv=>by rw[List.getElem?_replicate,if_pos hv];simp,kA,D0.sf,aD _⟩
 rintro m ih L H2 nx2 ⟨i,l,hm,rfl,hl,O,hg,E,a9⟩ a5;have g2:=(E.gt nx).trans kG;have r2:=(E.gt (nx+1)).trans kR;have J:D0 H nx H2 nx2:=⟨O0,fun q hq=>(E.gt q).trans (a3.get q hq)⟩
 simp(disch:=omega)only[W0]
 by_cases hi:i<n
 case neg=>
  have Q:¬ (i:Int)<(n:Int):=O0;have a6:i=n:=O0;subst a6;have a4:l=B2 es i:=by
   refine G32 hl (N9 es i) fun v hv => ?_
   rw[O v hv];simp[B2,hv]
  subst a4;have e1:(K12 (B2 es i)).length=32:=by rw[E1];exact hl
  have e2:(K12 (aF 32 0)).length=32:=by rw[E1];simp
  have e3:=G24 (c:=K12 (aF 32 0)) (vs:=K12 (B2 es i)) (by rw[e1,e2]);have e4:=W5 (B2 es i);simp only[W0,Q,hg,Z34 hl,e1,e2,e4,r2,e3];exact J.h0
 have Q:(i:Int)<(n:Int):=O0;simp(disch:=omega)only[W0,Q,g2,C13];refine R0 (U61 hn hi A es cap _ _ (hS.ext J) a2 a1 a7) ?_;rintro _ H3 ab ⟨rfl,U⟩;have a8:=(U.gt (nx+1+1)).trans hg;have aa:=U.le;have a0:i<l.length:=O0;have V:(K12 l).length=32:=by rw[E1];exact hl
 simp only[W0,Nat.reduceLeDiff,a8,V10 a0,V];refine⟨O0,a5 (m-1) _ _ _ O0 ⟨i+1,l.set i (Q1 (adj es i) n),O0,O2,by rw[dO];exact hl,fun v hv => ?_,by rw[Z11],((E.trans (U.less O0)).h0),O0⟩⟩;rw[cQ]
 by_cases Z:i=v
 .subst Z;rw[if_pos rfl,if_pos O0,if_pos O0]
 .rw[if_neg Z,O v hv]
  by_cases W:v<i
  .rw[if_pos W,if_pos O0]
  .rw[if_neg W,if_neg O0]
end
end Go.Proofs.YtoiioigihocgbaaGreatDoor
namespace Go.Clo
section
variable {H H':Y0} {b d lo n nx nx' set size:Nat} {c:List Value} {css:List (List Value)} {qs:List Nat} {v:Value}
def V5(N set:Nat):List Nat:=(aY N).filter fun v=>set.testBit v
theorem N37(v set:Nat):V5 (v+1) set=if set.testBit v then V5 v set++[v] else V5 v set:=by
 unfold V5;rw[List.range_succ,List.filter_append]
 cases h:set.testBit v<;>simp[h]
theorem Q62{N v:Nat}:v ∈ V5 N set<->v<N/\set.testBit v=true:=by simp[V5]
theorem Q15(N set:Nat):(V5 N set).length<=N:=bK (List.length_filter_le _ _) O2
def W77(set:Nat)(ps:List Nat)(e:Nat):List Nat:=if e &&& set=0\/e &&& set ∈ ps then ps else ps++[e &&& set]
def D16(es:List Nat)(set:Nat):List Nat:=es.foldl (W77 set) []
theorem K99{es:List Nat}{i e:Nat}(h:es[i]? = some e):D16 (es.take (i+1)) set=W77 set (D16 (es.take i) set) e:=by
 unfold D16;rw[List.take_add_one,h];simp
theorem X79(set:Nat):∀(es ps:List Nat),(es.foldl (W77 set) ps).length<=ps.length+es.length
 | [],ps=>O2
 | e :: es,ps=>by
  have:=X79 set es (W77 set ps e);have h2:(W77 set ps e).length<=ps.length+1:=by unfold W77;split<;>simp
  simp only[dF,cV];omega
def sP(es:List Nat)(N set r j:Nat):Bool:=((D16 es set).getD r 0).testBit ((V5 N set).getD j 0)
theorem RX.step{X:Nat->Rat}{qs':List Nat}(h:RX (D6 H qs) nx css X)(E:nx<=nx')(hs:∀ i,i<nx->i ∉ qs->J0 H' i=J0 H i)(hq:∀ q ∈ qs',q ∈ qs\/nx<=q):RX (D6 H' qs') nx' css X:=
 (h.sub (V74 hs hq)).ext (D0.self E)
def RO3(H:Y0)(nx b n:Nat)(X:Nat->Rat):Prop:=∃ css:List (List Value),J0 H b=some (.cells css.flatten 3)/\b<nx/\css.length=n/\RX H nx css X
theorem RO3.sub{H:Y0}{nx b n:Nat}{X:Nat->Rat}{H':Y0}(h:RO3 H nx b n X)(e:Sub H nx H'):RO3 H' nx b n X:=by
 obtain⟨css,hg,hb,hl,hx⟩:=h;exact⟨css,e b _ hb hg,hb,hl,hx.sub e⟩
theorem RO3.more{H:Y0}{nx b n:Nat}{X:Nat->Rat}{nx':Nat}(h:RO3 H nx b n X)(e:nx<=nx'):RO3 H nx' b n X:=by
 obtain⟨css,hg,hb,hl,hx⟩:=h;exact⟨css,hg,O0,hl,hx.ext (D0.self e)⟩
theorem RO3.step{X:Nat->Rat}{qs':List Nat}(h:RO3 (D6 H qs) nx b n X)(E:nx<=nx')(hs:∀ i,i<nx->i ∉ qs->J0 H' i=J0 H i)(hq:∀ q ∈ qs',q ∈ qs\/nx<=q):RO3 (D6 H' qs') nx' b n X:=
 (h.sub (V74 hs hq)).more E
theorem RO3.rsl{X:Nat->Rat}(h:RO3 H nx b n X):RSl H nx (some ⟨b,0,none⟩) n X:=by
 obtain⟨css,hg,hb,hl,hx⟩:=h;exact⟨css,fun i v hv=>⟨b,0,css.flatten,rfl,hb,by rw[Q5,hg];rfl,by rw[cF];exact hv⟩,hl,hx⟩
theorem RX.app{X:Nat->Rat}(h:RX H nx css X)(hl:css.length=n)(hc:RR H nx (.agg ⟨c⟩) (X n)):RX H nx (css++[c]) X:=by
 intro q d hq;rw[List.getElem?_append] at hq
 split at hq
 .exact h q d hq
 .rename_i hn
  have h1:=(aJ.1 hq).1;simp at h1;have:q=n:=O0;subst this;rw[show q-css.length=0 by omega] at hq;simp at hq;rw[<- hq];exact hc
theorem Z77(h:Acc lo H nx size v n c)(hd:lo<=d):lo<=R5 d v:=by
 rcases N29 h (d:=d) with ⟨_,_,e⟩ | ⟨b,_,e,h1,h2,_⟩<;>omega
theorem G81{lo:Nat}{nx size:Nat}{n:Nat}(h:Acc lo H nx size v n c)(d d':Nat):R5 d' v=R5 d v\/R5 d' v=d':=by
 rcases N29 h (d:=d) with ⟨hv,_,e⟩ | ⟨b,hv,e,h1,h2,_⟩
 .right;rw[hv];rfl
 .left;rw[e,hv];rfl
theorem W75(h:Acc lo H nx size v n c)(hd:d<nx):R5 d v<nx:=by
 rcases N29 h (d:=d) with ⟨_,_,e⟩ | ⟨b,_,e,h1,h2,_⟩<;>omega
theorem X76(hl:c.length=n*size)(h1:lo<=b)(h2:b<nx)(hg:J0 H b=some (.cells c size)):Acc lo H nx size (.slice (some ⟨b,0,none⟩) n n) n c:=⟨hl,.inr ⟨b,h1,h2,rfl,hg⟩⟩
end
theorem D87{c:List Value}(h:V7 c)(k:List Value->Prop):K6 1 3 [.bool false,O6,O6] [(0,.agg ⟨c⟩)] k=k c:=by
 obtain⟨s,A,l,q,C,l',q',rfl⟩:=h
 rfl
theorem C93(x:Int)(k:List Value->Prop):K6 1 1 [O8 0] [(0,O8 x)] k=k [O8 x]:=rfl
theorem Y108(A:Option Addr)(l c:Nat)(k:List Value->Prop):K6 1 1 [O6] [(0,.slice A l c)] k=k [.slice A l c]:=rfl
theorem V95(l:List Nat)(v:Nat):U4 ((l++[v]).map fun(w:Nat)=>(w:Int))=U4 (l.map fun(w:Nat)=>(w:Int))++[O8 (v:Int)]:=by simp[U4]
theorem N81(l:List Nat):(U4 (l.map fun(w:Nat)=>(w:Int))).length=l.length:=by simp[U4]
theorem N75(css:List (List Value))(c:List Value):(css++[c]).flatten=css.flatten++c:=O2
structure PS (H0:Y0) (n0:Nat) (H:Y0) (nx b7:Nat) (vm vC:Value) (n:Nat) (ms:List Nat) (css:List (List Value)):Prop where
 ext:D0 H0 n0 H nx
 le:n0+3<=nx
 g4:J0 H (n0+1)=some (.cells [.slice none 0 0,.slice none 0 0,.slice none 0 0] 0)
 g7:J0 H (n0+2)=some (.cells [vC,.slice none 0 0,.slice none 0 0] 0)
 am:Acc (n0+3) H nx 1 vm n (U4 (ms.map fun(w:Nat)=>(w:Int)))
 aC:Acc (n0+3) H nx 3 vC n css.flatten
 lm:ms.length=n
 lc:css.length=n
 rx:RX (D6 H [n0+2,R5 (n0+2) vm,R5 (n0+2) vC]) nx css fun _=>1
 ne:(vm = .slice none 0 0/\vC = .slice none 0 0)\/R5 (n0+2) vm≠R5 (n0+2) vC
end Go.Clo
namespace Go.Proofs.YtoiioigihocgbaaGreatDoor
open Go.Clo
theorem R94{H0:Y0}{n0:Nat}{H:Y0}{nx b7:Nat}{vm vC:Value}{n v:Nat}{ms:List Nat}{css:List (List Value)}{j:Value->Y0->Nat->Prop}(h:PS H0 n0 H nx b7 vm vC n ms css)(hn:n<=100)(hj:∀ an bf ap H' nx',PS H0 n0 H' nx' b7 an bf (n+1) (ms++[v]) ap->J0 H' n0=J0 H n0->j an H' nx'):
  (K6 1 1 [O8 0] [(0,(O8 (v:Int)))] fun ae=>J3 (.cells ae 0) (.slice 1 1) H nx fun a5 H6 az=>
     B5 vm a5 1 8 H6 az fun a4 H7 ah=>
     M2 (ah+7) fun bc=>
     B4 (.pointer (some ⟨n0+2,0,none⟩)) 0 fun O=>
     J1 O none H7 fun J=>
     Y2 gQ 75 [(O8 1)] H7 bc fun a0 H9 E=>
     K6 1 3 [.bool false,O6,O6] [(0,a0)] fun ab=>wNm ah 3 (.slice 1 1) fun a3=>
     E6 H9 (ah+3) (O7 ab) fun a8=>B5 J a3 3 56 a8 E fun a2 a6 ao=>
     B4 (.pointer (some ⟨n0+2,0,none⟩)) 0 fun a9=>
     D5 a9 a2 1 a6 fun b4=>
     (((((True)/\((True)/\((J1 O none H9 fun ac=>ac=J)/\((J1 O none H7 fun ad=>ad=J)/\True))))/\True))/\(
      j a4 b4 ao))\/False):=by
 have bw:=h.le;have hm:=Z77 h.am (d:=nx+1) O0;have bv:=G81 h.am (n0+2) (nx+1);have bz:=Z77 h.am (d:=n0+3) O0;have bg:=fun d=>G81 h.aC (n0+2) d
 have bh:=fun d (hd:n0+3<=d)=>Z77 h.aC (d:=d) hd
 have bu:=W75 h.am (d:=n0+2) O0;have c3:=W75 h.aC (d:=n0+2) O0;obtain⟨Am,lm,cm,b3⟩:∃ A l c,vm = .slice A l c:=by
  rcases N29 h.am (d:=nx) with ⟨hv,_⟩ | ⟨b,hv,_⟩<;>exact⟨_,_,_,hv⟩
 obtain⟨AC,lC,cC,b5⟩:∃ A l c,vC = .slice A l c:=by
  rcases N29 h.aC (d:=nx) with ⟨hv,_⟩ | ⟨b,hv,_⟩<;>exact⟨_,_,_,hv⟩
 have a7:D0 H nx (hs H nx (O7 [O8 (v:Int)])) (nx+1):=(D0.refl _ _).nw _;have g6:J0 (hs H nx (O7 [O8 (v:Int)])) nx=O7 [O8 (v:Int)]:=Z11 _ _ _;simp only[W0,Q0.val,C93];generalize hs H nx (O7 [O8 (v:Int)])=H6 at *
 have au:Src H6 1 (.slice (some ⟨nx,0,none⟩) 1 1) 1 [O8 (v:Int)]:=J9 g6 rfl O0;refine E72 (d:=nx+1) O0 (h.am.ext a7) au O0 rfl O0 O0 ?_;intro H7 g7 ak;have aj:=(ak (n0+2) O0 O0).trans ((a7.gt _).trans h.g7);have W:∀ i,i<nx->i≠R5 (n0+2) vm->J0 H7 i=J0 H i:=fun i h1 h2=>(ak i O0 O0).trans (a7.get i h1)
 have a1:∀ i,i<n0+3->J0 H7 i=J0 H i:=fun i h1=>(ak i O0 O0).trans (a7.gt i)
 simp only[W0,aj];refine X65 (qs:=[n0+2,nx+1,R5 (n0+2) vC,nx+1+1+3]) (by intro q hq;simp at hq;omega) (R73 (n:=1) O0 O0 _ _) (fun _ _ _ h=>h.2) ?_;rintro r H9 E E0 ⟨hr,bx⟩ V ax _;have bt:=V.le;obtain⟨c,rfl,hc⟩:=hr.num;have bk:=hr.sub ax;have av:=(V.gt (n0+2)).trans aj;simp only[D87 hc];have bd:J0 (hs H9 (nx+1+1+3) (O7 c)) (nx+1+1+3)=O7 c:=Z11 _ _ _;have Q:∀ i,i≠nx+1+1+3->J0 (hs H9 (nx+1+1+3) (O7 c)) i=J0 H9 i:=fun i hi=>Z1 _ hi
 generalize hs H9 (nx+1+1+3) (O7 c)=a8 at *
 have ag:Acc (n0+3) a8 E 3 vC n css.flatten:=h.aC.same O0 fun b c4 ba al=>by
  have c6:=al (n0+2);rw[Q b O0,V.gt b,W b ba ?_];rcases h.ne with ⟨h1,h2⟩ | c7
  .rw[h2] at al
   have:b+1=b:=al (b+1);omega
  .omega
 have ai:Src a8 3 (.slice (some ⟨nx+1+1+3,0,none⟩) 1 1) 1 c:=J9 bd (by rw[hc.three]) O0;refine E72 (d:=E) O0 ag ai O0 hc.one O0 O0 ?_;intro a6 ay U;have bo:=bh E O0;have b8:=bg E;have aw:=(U (n0+2) O0 O0).trans ((Q _ O0).trans av);have aa:∀(a c d v:Value),B12 [a,c,d] 0 [v]=[v,c,d]:=fun _ _ _ _=>rfl
 have Z:∀ i,i<n0+3->J0 a6 i=J0 H i:=fun i hi=>by
  rw[U i O0 O0,Q i O0,V.gt i,a1 i hi]
 have aq:J0 a6 (nx+1)=some (.cells (U4 ((ms++[v]).map fun(w:Nat)=>(w:Int))) 1):=by
  rw[U _ O0 O0,Q _ O0,V.gt _,g7,V95]
 subst b3 b5;simp only[W0,Nat.reduceAdd,Nat.reduceLeDiff,aw,aa,av];refine hj _ (.slice (some ⟨E,0,none⟩) (n+1) (n+1)) (css++[c]) _ _ ⟨⟨by have:=h.ext.le;omega,fun i hi => ?_⟩,O0,?_,Z11 _ _ _,?_,?_,by simp[h.lm],by simp[h.lc],?_,.inr ?_⟩ ?_
 .rw[gN _,Z i O0];exact h.ext.get i hi
 .rw[gN _,Z _ O0];exact h.g4
 .refine X76 (by rw[N81];simp[h.lm]) O0 O0 ?_
  rw[gN _];exact aq
 .refine X76 (by rw[N75,bH,h.aC.1,hc.three];omega) O0 O0 ?_
  rw[gN _,ay,N75]
 .show RX (D6 _ [n0+2,nx+1,E]) _ _ _
  have h9:RX (D6 H9 [n0+2,nx+1,R5 (n0+2) (Value.slice AC lC cC),nx+1+1+3]) E css fun _=>1:=h.rx.step O0 (fun i h1 h2=>by
   simp at h2;rw[V.gt i,W i h1 O0]) (fun q hq=>by
   simp at hq ⊢;omega)
  refine(h9.app h.lc bk).step O0 (fun i h1 h2 => ?_) (fun q hq=>by simp at hq ⊢;omega);simp at h2;rw[gN _,U i O0 O0,Q i O0]
 .show nx+1≠E
  omega
 .rw[gN _,Z _ O0]
end Go.Proofs.YtoiioigihocgbaaGreatDoor
namespace Go.Clo
structure PT (H0:Y0) (n0:Nat) (H:Y0) (nx r bm bC n:Nat) (ms:List Nat) (M:Nat->Option Value) (vA vB vf:Value) (mA mf:Nat) (bs:List Nat) (cssB:List (List Value)) (fs:List Nat) (Y:Nat->Nat->Rat):Prop where
 ext:D0 H0 n0 H nx
 le:n0+3<=r
 rn:r<nx
 g4:J0 H (n0+1)=some (.cells [.slice none 0 0,.slice none 0 0,.slice none 0 0] 0)
 g7:J0 H (n0+2)=some (.cells [.slice (some ⟨bC,0,none⟩) n n,vA,vB] 0)
 gm:J0 H bm=some (.cells (U4 (ms.map fun(w:Nat)=>(w:Int))) 1)
 bmr:bm<r
 bm3:n0+3<=bm
 mp:U29 H r M
 aA:Acc (r+1) H nx 1 vA mA (slR n bs)
 aB:Acc (r+1) H nx 3 vB mA cssB.flatten
 af:Acc (r+1) H nx 1 vf mf (U4 (fs.map fun(w:Nat)=>(w:Int)))
 lA:bs.length=mA
 lB:cssB.length=mA
 lf:fs.length=mf
 roC:RO3 (D6 H [n0+2,r,R5 (n0+2) vA,R5 (n0+2) vB,R5 (n0+2) vf]) nx bC n fun _=>1
 rxB:RX (D6 H [n0+2,r,R5 (n0+2) vA,R5 (n0+2) vB,R5 (n0+2) vf]) nx cssB fun _=>1
 rows:∀ k b,bs[k]? = some b->RO3 (D6 H [n0+2,r,R5 (n0+2) vA,R5 (n0+2) vB,R5 (n0+2) vf]) nx b n (Y k)
 nAB:(vA = .slice none 0 0/\vB = .slice none 0 0)\/R5 (n0+2) vA≠R5 (n0+2) vB
 nAf:(vA = .slice none 0 0/\vf = .slice none 0 0)\/vA = .slice none 0 0\/R5 (n0+2) vA≠R5 (n0+2) vf
 nBf:(vB = .slice none 0 0/\vf = .slice none 0 0)\/vB = .slice none 0 0\/R5 (n0+2) vB≠R5 (n0+2) vf
theorem PT.ext'{H0:Y0}{n0:Nat}{H:Y0}{nx r bm bC n:Nat}{ms:List Nat}{M:Nat->Option Value}{vA vB vf:Value}{mA mf:Nat}{bs:List Nat}{cssB:List (List Value)}{fs:List Nat}{Y:Nat->Nat->Rat}{H':Y0}{nx':Nat}(h:PT H0 n0 H nx r bm bC n ms M vA vB vf mA mf bs cssB fs Y)(e:D0 H nx H' nx'):PT H0 n0 H' nx' r bm bC n ms M vA vB vf mA mf bs cssB fs Y:=by
 have:=e.le;have:=h.rn;have:=h.le;have:=h.bmr;have hs:∀(qs:List Nat) (i:Nat),i<nx->i ∉ qs->J0 H' i=J0 H i:=fun qs i hi _=>e.get i hi
 exact⟨h.ext.trans e,h.le,O0,(e.gt _).trans h.g4,(e.gt _).trans h.g7,(e.gt _).trans h.gm,h.bmr,h.bm3,h.mp.ext h.rn e,h.aA.ext e,h.aB.ext e,h.af.ext e,h.lA,h.lB,h.lf,
  h.roC.step e.le (hs _) (fun q hq => .inl hq),h.rxB.step e.le (hs _) (fun q hq => .inl hq),fun k b hb=>(h.rows k b hb).step e.le (hs _) (fun q hq => .inl hq),h.nAB,h.nAf,h.nBf⟩
end Go.Clo
namespace Go.Proofs.YtoiioigihocgbaaGreatDoor
open Go.Clo
theorem U99{H0:Y0}{n0:Nat}{H:Y0}{nx r bm bC n:Nat}{ms:List Nat}{M:Nat->Option Value}{vA vB vf:Value}{mA mf:Nat}{bs:List Nat}{cssB:List (List Value)}{fs:List Nat}{Y:Nat->Nat->Rat}{part i:Nat}{j:Value->Y0->Nat->Prop}(h:PT H0 n0 H nx r bm bC n ms M vA vB vf mA mf bs cssB fs Y)(aw:mf<=100)(hj:∀ ad H' nx',PT H0 n0 H' nx' r bm bC n ms (fun t=>if t=part then some (.bool true) else M t) vA vB ad mA (mf+1) bs cssB (fs++[i]) Y->J0 H' n0=J0 H n0->j ad H' nx'):
  (W56 (.int .u32) (.map (some r)) (O9 (part:Int)) (.bool true) H nx fun ao Q ae=>
        K6 1 1 [O8 0] [(0,(O8 (i:Int)))] fun a5=>J3 (.cells a5 0) (.slice 1 1) Q ae fun a2 Z a9=>
        B5 vf a2 1 8 Z a9 fun a1 U aa=>j a1 U aa):=by
 have aq:=h.le;have ak:=h.rn;have an:=h.bmr;have ap:=h.bm3;refine h.mp.put part (.bool true) fun ag mc aj => ?_
 have ab:∀ x,x≠r->J0 (hs H r (some (.map ag mc))) x=J0 H x:=fun x hx=>Z1 _ hx
 generalize hs H r (some (.map ag mc))=Q at *
 have a3:D0 Q nx (hs Q nx (O7 [O8 (i:Int)])) (nx+1):=(D0.refl _ _).nw _;have ah:J0 (hs Q nx (O7 [O8 (i:Int)])) nx=O7 [O8 (i:Int)]:=Z11 _ _ _;simp only[W0,Q0.val,C93];generalize hs Q nx (O7 [O8 (i:Int)])=Z at *
 have ac:Src Z 1 (.slice (some ⟨nx,0,none⟩) 1 1) 1 [O8 (i:Int)]:=J9 ah rfl O0;have O:∀ x,x<nx->x≠r->J0 Z x=J0 H x:=fun x h1 h2=>(a3.get x h1).trans (ab x h2)
 have a4:Acc (r+1) Z (nx+1) 1 vf mf (U4 (fs.map fun(w:Nat)=>(w:Int))):=h.af.same O0 fun b a8 W _=>O b W O0
 refine E72 (d:=nx+1) O0 a4 ac O0 rfl O0 O0 ?_;intro U ai V;have au:=Z77 h.af (d:=nx+1) O0;have av:=G81 h.af (n0+2) (nx+1);have a0:∀ x,x<nx->x≠r->x≠R5 (n0+2) vf->J0 U x=J0 H x:=fun x h1 h2 h3=>(V x O0 O0).trans (O x h1 h2)
 have J:∀ x,x<r->J0 U x=J0 H x:=fun x h1=>(V x O0 O0).trans (O x O0 O0)
 have al:J0 U r=J0 Q r:=(V r O0 O0).trans (a3.get r ak);have a6:∀ x,x<nx->x ∉ [n0+2,r,R5 (n0+2) vA,R5 (n0+2) vB,R5 (n0+2) vf]->J0 U x=J0 H x:=fun x h1 h2=>by
  simp at h2;exact a0 x h1 O0 O0
 have a7:∀ q ∈ [n0+2,r,R5 (n0+2) vA,R5 (n0+2) vB,nx+1],q ∈ [n0+2,r,R5 (n0+2) vA,R5 (n0+2) vB,R5 (n0+2) vf]\/nx<=q:=fun q hq=>by simp at hq ⊢;omega
 refine hj _ _ _ ⟨⟨by have:=h.ext.le;omega,fun x hx => ?_⟩,h.le,O0,?_,?_,?_,h.bmr,h.bm3,aj.same al,?_,?_,?_,h.lA,h.lB,by simp[h.lf],?_,?_,fun k b hb => ?_,h.nAB,?_,?_⟩ ?_
 .rw[J x O0];exact h.ext.get x hx
 .rw[J _ O0];exact h.g4
 .rw[J _ O0];exact h.g7
 .rw[J _ O0];exact h.gm
 .refine h.aA.same O0 fun b a8 W E=>a0 b W O0 ?_
  rcases h.nAf with ⟨h1,_⟩ | h1 | h1
  .rw[h1] at E;have:b+1=b:=E (b+1);omega
  .rw[h1] at E;have:b+1=b:=E (b+1);omega
  .rw[<- E (n0+2)];exact h1
 .refine h.aB.same O0 fun b a8 W E=>a0 b W O0 ?_
  rcases h.nBf with ⟨h1,_⟩ | h1 | h1
  .rw[h1] at E;have:b+1=b:=E (b+1);omega
  .rw[h1] at E;have:b+1=b:=E (b+1);omega
  .rw[<- E (n0+2)];exact h1
 .refine X76 (by rw[N81];simp[h.lf]) O0 O0 ?_
  rw[ai,V95]
 .exact h.roC.step O0 a6 a7
 .exact h.rxB.step O0 a6 a7
 .exact(h.rows k b hb).step O0 a6 a7
 .rcases N29 h.aA (d:=n0+2) with ⟨hv,_⟩ | ⟨b,hv,e,h1,h2,_⟩
  .exact .inr (.inl hv)
  .refine .inr (.inr ?_)
   rw[e];show b≠nx+1;omega
 .rcases N29 h.aB (d:=n0+2) with ⟨hv,_⟩ | ⟨b,hv,e,h1,h2,_⟩
  .exact .inr (.inl hv)
  .refine .inr (.inr ?_)
   rw[e];show b≠nx+1;omega
 .exact J _ O0
theorem C105{H0:Y0}{n0:Nat}{H:Y0}{nx r bm bC n:Nat}{ms:List Nat}{M:Nat->Option Value}{vA vB vf:Value}{m:Nat}{bs:List Nat}{cssB:List (List Value)}{fs:List Nat}{Y:Nat->Nat->Rat}{b:Nat}{X:Nat->Rat}{j:Y0->Nat->Prop}(h:PT H0 n0 H nx r bm bC n ms M vA vB vf m (m+1) bs cssB fs Y)(hm:m<=100)(hb:RO3 (D6 H [n0+2,r,R5 (n0+2) vA,R5 (n0+2) vB,R5 (n0+2) vf]) nx b n X)(hj:∀ c3 bu b4 H' nx',PT H0 n0 H' nx' r bm bC n ms M c3 bu vf (m+1) (m+1) (bs++[b]) b4 fs (fun k=>if k=m then X else Y k)->J0 H' n0=J0 H n0->j H' nx'):
  (B4 (.pointer (some ⟨n0+2,0,none⟩)) 1 fun ah=>
          J1 ah none H fun ae=>
          K6 1 1 [O6] [(0,.slice (some ⟨b,0,none⟩) n n)] fun b3=>J3 (.cells b3 0) (.slice 1 1) H nx fun a9 ap bd=>
          B5 ae a9 1 24 ap bd fun ab a0 a6=>
          B4 (.pointer (some ⟨n0+2,0,none⟩)) 1 fun a8=>
          D5 a8 ab 1 a0 fun ad=>
          M2 (a6+7) fun bc=>
          B4 (.pointer (some ⟨n0+2,0,none⟩)) 2 fun Z=>
          J1 Z none ad fun W=>
          Y2 gQ 75 [(O8 1)] ad bc fun aa a3 E=>
          K6 1 3 [.bool false,O6,O6] [(0,aa)] fun aq=>wNm a6 3 (.slice 1 1) fun ac=>
          E6 a3 (a6+3) (O7 aq) fun ag=>B5 W ac 3 56 ag E fun ai a4 bh=>
          B4 (.pointer (some ⟨n0+2,0,none⟩)) 2 fun aj=>
          D5 aj ai 1 a4 fun bw=>
          (((((True)/\((True)/\((J1 Z none a3 fun ao=>ao=W)/\((J1 Z none ad fun b5=>b5=W)/\True))))/\True))/\(
           j bw bh))\/False):=by
 have ck:=h.le;have cj:=h.rn;have cg:=h.bmr;have ci:=h.bm3;have d0:=Z77 h.aA (d:=nx+1) O0;have cz:=G81 h.aA (n0+2) (nx+1);have co:=W75 h.af (d:=n0+2) O0;have ct:=W75 h.aB (d:=n0+2) O0;obtain⟨A1,l1,c1,cd⟩:∃ A l c,vA = .slice A l c:=by
  rcases N29 h.aA (d:=nx) with ⟨hv,_⟩ | ⟨b,hv,_⟩<;>exact⟨_,_,_,hv⟩
 obtain⟨A2,l2,c2,bx⟩:∃ A l c,vB = .slice A l c:=by
  rcases N29 h.aB (d:=nx) with ⟨hv,_⟩ | ⟨b,hv,_⟩<;>exact⟨_,_,_,hv⟩
 have a5:D0 H nx (hs H nx (O7 [.slice (some ⟨b,0,none⟩) n n])) (nx+1):=(D0.refl _ _).nw _;have ca:J0 (hs H nx (O7 [.slice (some ⟨b,0,none⟩) n n])) nx=O7 [.slice (some ⟨b,0,none⟩) n n]:=Z11 _ _ _;simp only[W0,Q0.val,h.g7,Y108];generalize hs H nx (O7 [.slice (some ⟨b,0,none⟩) n n])=ap at *
 have bo:Src ap 1 (.slice (some ⟨nx,0,none⟩) 1 1) 1 [.slice (some ⟨b,0,none⟩) n n]:=J9 ca rfl O0;refine E72 (d:=nx+1) O0 (h.aA.ext a5) bo O0 rfl O0 O0 ?_;intro a0 c6 ak;have O:∀ x,x<nx->x≠R5 (n0+2) vA->J0 a0 x=J0 H x:=fun x h1 h2=>(ak x O0 O0).trans (a5.get x h1)
 have a2:∀ x,x<=r->J0 a0 x=J0 H x:=fun x h1=>(ak x O0 O0).trans (a5.gt x)
 have ba:=(a2 (n0+2) O0).trans h.g7;have av:∀(a c d v:Value),B12 [a,c,d] 1 [v]=[a,v,d]:=fun _ _ _ _=>rfl
 have ax:∀(a c d v:Value),B12 [a,c,d] 2 [v]=[a,c,v]:=fun _ _ _ _=>rfl
 have ce:=cd;have cf:=bx;have an:J0 (hs a0 (n0+2) (O7 [.slice (some ⟨bC,0,none⟩) n n,.slice (some ⟨nx+1,0,none⟩) (m+1) (m+1),vB])) (n0+2)=O7 [.slice (some ⟨bC,0,none⟩) n n,.slice (some ⟨nx+1,0,none⟩) (m+1) (m+1),vB]:=Z11 _ _ _;have V:∀ x,x≠n0+2->J0 (hs a0 (n0+2) (O7 [.slice (some ⟨bC,0,none⟩) n n,.slice (some ⟨nx+1,0,none⟩) (m+1) (m+1),vB])) x=J0 a0 x:=fun x hx=>Z1 _ hx
 simp only[W0,Nat.reduceAdd,Nat.reduceLeDiff,ba,av];generalize hs a0 (n0+2) (O7 [.slice (some ⟨bC,0,none⟩) n n,.slice (some ⟨nx+1,0,none⟩) (m+1) (m+1),vB])=ad at *
 refine X65 (qs:=[n0+2,r,nx+1,R5 (n0+2) vB,R5 (n0+2) vf,nx+1+1+3]) (by intro q hq;simp at hq;omega) (R73 (n:=1) O0 O0 _ _) (fun _ _ _ h=>h.2) ?_;rintro r1 a3 E E0 ⟨hr,cn⟩ J bg _;have c8:=J.le;obtain⟨c,rfl,hc⟩:=hr.num;have bf:=hr.sub bg;have al:=(J.gt (n0+2)).trans an;simp only[D87 hc];have c9:J0 (hs a3 (nx+1+1+3) (O7 c)) (nx+1+1+3)=O7 c:=Z11 _ _ _;have Q:∀ i,i≠nx+1+1+3->J0 (hs a3 (nx+1+1+3) (O7 c)) i=J0 a3 i:=fun i hi=>Z1 _ hi
 generalize hs a3 (nx+1+1+3) (O7 c)=ag at *
 have az:Acc (r+1) ag E 3 vB m cssB.flatten:=h.aB.same O0 fun b cu c4 b8=>by
  have cv:=b8 (n0+2);rw[Q b O0,J.gt b,V b O0,O b c4 ?_];rcases h.nAB with ⟨h1,h2⟩ | cx
  .rw[h2] at b8
   have:b+1=b:=b8 (b+1);omega
  .omega
 have ay:Src ag 3 (.slice (some ⟨nx+1+1+3,0,none⟩) 1 1) 1 c:=J9 c9 (by rw[hc.three]) O0;refine E72 (d:=E) O0 az ay O0 hc.one O0 O0 ?_;intro a4 c7 U;have cq:=Z77 h.aB (d:=E) O0;have cy:=G81 h.aB (n0+2) E;have bk:=(U (n0+2) O0 O0).trans ((Q _ O0).trans al);simp only[W0,Nat.reduceAdd,bk,ax,al];have a1:∀ x,x<=r->x≠n0+2->J0 a4 x=J0 H x:=fun x h1 h2=>by
  rw[U x O0 O0,Q x O0,J.gt x,V x h2,a2 x h1]
 have au:∀ x,x<nx->x ∉ [n0+2,r,R5 (n0+2) vA,R5 (n0+2) vB,R5 (n0+2) vf]->J0 (hs a4 (n0+2) (O7 [.slice (some ⟨bC,0,none⟩) n n,.slice (some ⟨nx+1,0,none⟩) (m+1) (m+1),.slice (some ⟨E,0,none⟩) (m+1) (m+1)])) x=J0 H x:=fun x h1 h2=>by
  simp at h2;rw[gN _,U x O0 O0,Q x O0,J.gt x,V x O0,O x h1 O0]
 have aw:∀ q ∈ [n0+2,r,nx+1,E,R5 (n0+2) vf],q ∈ [n0+2,r,R5 (n0+2) vA,R5 (n0+2) vB,R5 (n0+2) vf]\/nx<=q:=fun q hq=>by simp at hq ⊢;omega
 have bt:J0 a4 (nx+1)=some (.cells (slR n (bs++[b])) 1):=by
  rw[U _ O0 O0,Q _ O0,J.gt _,V _ O0,c6,J97]
 have a7:∀ x,r+1<=x->x<nx->(∀ d,R5 d vf=x)->J0 (hs a4 (n0+2) (O7 [.slice (some ⟨bC,0,none⟩) n n,.slice (some ⟨nx+1,0,none⟩) (m+1) (m+1),.slice (some ⟨E,0,none⟩) (m+1) (m+1)])) x=J0 H x:=fun x h1 h2 h3=>by
  have cp:=h3 (n0+2);have hA:x≠R5 (n0+2) vA:=by
   rcases h.nAf with ⟨_,h5⟩ | h5 | h5
   .rw[h5] at h3;have:x+1=x:=h3 (x+1);omega
   .rw[h5];show x≠n0+2;omega
   .omega
  have hB:x≠R5 (n0+2) vB:=by
   rcases h.nBf with ⟨_,h5⟩ | h5 | h5
   .rw[h5] at h3;have:x+1=x:=h3 (x+1);omega
   .rw[h5];show x≠n0+2;omega
   .omega
  rw[gN _,U x O0 O0,Q x O0,J.gt x,V x O0,O x h2 hA]
 refine hj (.slice (some ⟨nx+1,0,none⟩) (m+1) (m+1)) (.slice (some ⟨E,0,none⟩) (m+1) (m+1)) (cssB++[c]) _ _ ⟨⟨by have:=h.ext.le;omega,fun x hx => ?_⟩,h.le,O0,?_,Z11 _ _ _,?_,h.bmr,h.bm3,h.mp.same ?_,?_,?_,h.af.same O0 a7,by simp[h.lA],by simp[h.lB],h.lf,h.roC.step O0 au aw,?_,fun k d hd => ?_,.inr ?_,.inr (.inr ?_),.inr (.inr ?_)⟩ ?_
 .rw[gN _,a1 x O0 O0];exact h.ext.get x hx
 .rw[gN _,a1 _ O0 O0];exact h.g4
 .rw[gN _,a1 _ O0 O0];exact h.gm
 .rw[gN _,a1 _ O0 O0]
 .refine X76 (by rw[G75];simp[h.lA]) O0 O0 ?_
  rw[gN _];exact bt
 .refine X76 (by rw[N75,bH,h.aB.1,hc.three];omega) O0 O0 ?_
  rw[gN _,c7,N75]
 .show RX (D6 _ [n0+2,r,nx+1,E,R5 (n0+2) vf]) _ _ _
  have bv:RX (D6 a3 [n0+2,r,nx+1,R5 (n0+2) vB,R5 (n0+2) vf,nx+1+1+3]) E cssB fun _=>1:=h.rxB.step O0 (fun i h1 h2=>by
   simp at h2;rw[J.gt i,V i O0,O i h1 O0]) (fun q hq=>by
   simp at hq ⊢;omega)
  refine(bv.app h.lB bf).step O0 (fun i h1 h2 => ?_) (fun q hq=>by simp at hq ⊢;omega);simp at h2;rw[gN _,U i O0 O0,Q i O0]
 .rw[List.getElem?_append] at hd
  split at hd
  .rename_i bz
   rw[if_neg (by have:=h.lA;omega)];exact(h.rows k d hd).step O0 au aw
  .rename_i bz
   have h1:=(aJ.1 hd).1;simp at h1;have cc:k=m:=by have:=h.lA;omega
   rw[if_pos cc];rw[show k-bs.length=0 by omega] at hd;simp at hd;rw[<- hd];exact hb.step O0 au aw
 .show nx+1≠E
  omega
 .show nx+1≠R5 (n0+2) vf
  omega
 .show E≠R5 (n0+2) vf
  omega
 .rw[gN _,a1 _ O0 O0]
end Go.Proofs.YtoiioigihocgbaaGreatDoor
namespace Go.Clo
def PkR(es:List Nat)(N set:Nat)(H:Y0)(nx:Nat)(v:Value):Prop:=
 ∃(AC AA AB Am Af:Option Addr) (cC cA cB cm cf:Nat) (ac:List Value) (fs:List Nat),
  v = .tuple ⟨[.agg ⟨[.slice AC (V5 N set).length cC,.slice AA (D16 es set).length cA,.slice AB (D16 es set).length cB]⟩,.slice Am (V5 N set).length cm,.slice Af (D16 es set).length cf]⟩ /\
  Sl H nx AA ac/\ac.length=(D16 es set).length/\(∀ i,i<(D16 es set).length->∃ Ai ci,ac[i]? = some (.slice Ai (V5 N set).length ci)/\RSl H nx Ai (V5 N set).length (fun j=>if sP es N set i j then 1 else 0)) /\
  RSl H nx AB (D16 es set).length (fun _=>1)/\RSl H nx AC (V5 N set).length (fun _=>1)/\Sl H nx Am (U4 ((V5 N set).map fun(w:Nat)=>(w:Int)))/\Sl H nx Af (U4 (fs.map fun(w:Nat)=>(w:Int)))/\fs.length=(D16 es set).length/\∀ f ∈ fs,f<es.length
theorem E66(k:Prop):M64 none k=k:=rfl
theorem V108(x v:Nat):(((x >>> v%2:Nat):Int):Rat)=if x.testBit v then 1 else 0:=by
 rw[<- C36];rcases dZ (x >>> v) with h | h
 .rw[h];rfl
 .rw[h];rfl
theorem M103(y:Nat)(k:VP):W8 .i64 (O9 ((y%2:Nat):Int)) k=k (O8 ((y%2:Nat):Int)):=by
 rw[Z32];rcases dZ y with h | h
 .rw[h];rfl
 .rw[h];rfl
theorem RO3.boxs{H:Y0}{nx b n q:Nat}{X:Nat->Rat}{l l':List Value}(h:RO3 H nx b n X)(hg:J0 H q=O7 l)(hr:noU l=true):RO3 (hs H q (O7 l')) nx b n X:=by
 obtain⟨css,h1,h2,h3,h4⟩:=h;have E:b≠q:=by
  rintro rfl;rw[h1] at hg;cases hg
 exact⟨css,by rw[Z1 _ E];exact h1,h2,h3,fun i c hc=>(h4 i c hc).boxs hg (U47 hr) (.inl rfl)⟩
end Go.Clo
namespace Go.Proofs.YtoiioigihocgbaaGreatDoor
open Go.Clo
theorem D99{H:Y0}{nx N set cap:Nat}{A:Option Addr}{es:List Nat}(hN:N<=8)(hS:Sl H nx A (K12 es))(dj:∀ e ∈ es,e<2^N)(en:es.length<=8)(e5:set<2^N)(f8:0<(V5 N set).length):
  Q2 gQ 108 [gv N A es.length cap,.int .u32 (set:Int)] H nx fun v H' nx'=>D0 H nx H' nx'/\PkR es N set H' nx' v:=by
 have e7:2^N<4294967296:=Y18 O0;have a7:set<4294967296:=O0;refine spec108 ?_;unfold F108;simp only[W1];have b5:∀ K:Value->Value->Value->Value->Y0->Nat->Prop,(E5 (gv N A es.length cap) fun cn=>J3 (.cells cn 0) .ptr H nx fun aw H1 dr=>
   J3 (.cells [.slice none 0 0,.slice none 0 0,.slice none 0 0] 0) .ptr H1 dr fun ck H2 nx2=>
   J3 (.cells [.slice none 0 0,.slice none 0 0,.slice none 0 0] 0) .ptr H2 nx2 fun bt H3 ct=>
   B4 aw 0 fun bg=>J1 bg none H3 fun ba=>K aw ck bt ba H3 ct) =
   K (.pointer (some ⟨nx,0,none⟩)) (.pointer (some ⟨nx+1,0,none⟩)) (.pointer (some ⟨nx+2,0,none⟩)) (.int .i64 (N:Int))
    (hs (hs (hs H nx (some (.cells [.int .i64 (N:Int),.slice A es.length cap] 0))) (nx+1) (some (.cells [.slice none 0 0,.slice none 0 0,.slice none 0 0] 0))) (nx+2) (some (.cells [.slice none 0 0,.slice none 0 0,.slice none 0 0] 0))) (nx+3):=by
  intro K;simp(disch:=first | omega | assumption | exact G0 O1 | exact U10 O1 | exact X0 O0 | fail  )only[W0,Z0,Q0.val]
 rw[b5];have d6:D0 H nx (hs (hs (hs H nx (some (.cells [.int .i64 (N:Int),.slice A es.length cap] 0))) (nx+1) (some (.cells [.slice none 0 0,.slice none 0 0,.slice none 0 0] 0))) (nx+2) (some (.cells [.slice none 0 0,.slice none 0 0,.slice none 0 0] 0))) (nx+3):=
  (((D0.refl _ _).new _ (aD _) (m:=nx+1) O0).new _ O0 (m:=nx+2) O0).new _ O0 O0
 have di:J0 (hs (hs (hs H nx (some (.cells [.int .i64 (N:Int),.slice A es.length cap] 0))) (nx+1) (some (.cells [.slice none 0 0,.slice none 0 0,.slice none 0 0] 0))) (nx+2) (some (.cells [.slice none 0 0,.slice none 0 0,.slice none 0 0] 0))) nx=some (.cells [.int .i64 (N:Int),.slice A es.length cap] 0):=by
  rw[Z1 _ O0,Z1 _ O0,Z11]
 have d4:J0 (hs (hs (hs H nx (some (.cells [.int .i64 (N:Int),.slice A es.length cap] 0))) (nx+1) (some (.cells [.slice none 0 0,.slice none 0 0,.slice none 0 0] 0))) (nx+2) (some (.cells [.slice none 0 0,.slice none 0 0,.slice none 0 0] 0))) (nx+1)=some (.cells [.slice none 0 0,.slice none 0 0,.slice none 0 0] 0):=by
  rw[Z1 _ O0,Z11]
 have cy:J0 (hs (hs (hs H nx (some (.cells [.int .i64 (N:Int),.slice A es.length cap] 0))) (nx+1) (some (.cells [.slice none 0 0,.slice none 0 0,.slice none 0 0] 0))) (nx+2) (some (.cells [.slice none 0 0,.slice none 0 0,.slice none 0 0] 0))) (nx+2)=some (.cells [.slice none 0 0,.slice none 0 0,.slice none 0 0] 0):=Z11 _ _ _;generalize hs (hs (hs H nx (some (.cells [.int .i64 (N:Int),.slice A es.length cap] 0))) (nx+1) (some (.cells [.slice none 0 0,.slice none 0 0,.slice none 0 0] 0))) (nx+2) (some (.cells [.slice none 0 0,.slice none 0 0,.slice none 0 0] 0))=H3 at *
 refine B1 (m:=N) (fun k L H' nx'=>∃(v n:Nat) (vm vC:Value) (css:List (List Value)),k+v=N/\L=[vm,.int .i64 (v:Int)]/\PS H nx H' nx' 0 vm vC n (V5 v set) css/\J0 H' nx=some (.cells [.int .i64 (N:Int),.slice A es.length cap] 0)) ?_
  ⟨0,0,.slice none 0 0,.slice none 0 0,[],O0,rfl,⟨d6,aD _,d4,cy,Acc.nil _ _ _ _,Acc.nil _ _ _ _,rfl,rfl,fun q c hc=>by simp at hc,.inl ⟨rfl,rfl⟩⟩,di⟩
 rintro k ih L H4 O ⟨v,n,vm,vC,css,hk,rfl,U,ai⟩ c7;show D10 .lss (.int .i64 (v:Int)) (.int .i64 (N:Int)) _;rw[E45,C46]
 by_cases hv:v<N
 .rw[if_pos (by simpa using hv),N13]
  show D10 .shr (.int .u32 (set:Int)) (.int .i64 (v:Int)) _;have f9:=U.lm;have f7:=Q15 v set;rw[V15 _ a7,R40 _ (G0 a7),V44,C36,C46]
  cases hb:set.testBit v with
  | true=>
   rw[if_pos rfl];refine R94 U O0 ?_;intro cv dv ca H' nx' h' g';simp(disch:=first | omega | assumption | exact G0 O1 | exact U10 O1 | exact X0 O0 | fail  )only[W0];exact c7 (k-1) _ _ _ O0 ⟨v+1,n+1,cv,dv,ca,O0,O2,by rw[N37,hb];exact h',g'.trans ai⟩
  | false=>
   rw[if_neg O2];simp(disch:=first | omega | assumption | exact G0 O1 | exact U10 O1 | exact X0 O0 | fail  )only[W0];exact c7 (k-1) _ _ _ O0 ⟨v+1,n,vm,vC,css,O0,O2,by rw[N37,hb];exact U,ai⟩
 obtain rfl:v=N:=O0;rw[if_neg O2];have aj:=U.lm;have ea:=U.le;have ee:n<=8:=by have:=Q15 v set;omega
 obtain⟨bm,d3,cq,ay,e1⟩:∃ bm,vm = .slice (some ⟨bm,0,none⟩) n n/\nx+3<=bm/\bm<O/\J0 H4 bm=some (.cells (U4 ((V5 v set).map fun(w:Nat)=>(w:Int))) 1):=by
  rcases N29 U.am (d:=nx) with ⟨_,h0,_⟩ | ⟨b,h1,_,h2,h3,h4⟩
  .omega
  .exact⟨b,h1,h2,h3,h4⟩
 obtain⟨bC,df,ec,cf,e0⟩:∃ bC,vC = .slice (some ⟨bC,0,none⟩) n n/\nx+3<=bC/\bC<O/\J0 H4 bC=some (.cells css.flatten 3):=by
  rcases N29 U.aC (d:=nx) with ⟨_,h0,_⟩ | ⟨b,h1,_,h2,h3,h4⟩
  .omega
  .exact⟨b,h1,h2,h3,h4⟩
 subst d3 df;have cd:RO3 (D6 H4 [nx+2]) O bC n fun _=>1:=by
  refine⟨css,by rw[Q50 O5];exact e0,cf,U.lc,U.rx.sub (V74 (fun _ _ _=>rfl) (fun q hq => .inl (by simp at hq ⊢;omega)))⟩
 have bo:∀ K:Value->Value->Value->Y0->Nat->Prop,(M64 none <| J3 (.map [] 0) .map H4 O fun ae al c6=>
   B4 (.pointer (some ⟨nx,0,none⟩)) 1 fun ao=>J1 ao none al fun a5=>R4 a5 0 al fun ak=>K ae a5 ak al c6) =
   K (.map (some O)) (.slice A es.length cap) (.int .i64 (es.length:Int)) (hs H4 O (some (.map [] 0))) (O+1):=by
  intro K;simp(disch:=first | omega | assumption | exact G0 O1 | exact U10 O1 | exact X0 O0 | fail  )only[W0,Q0.val,E66,ai]
 rw[bo];have W:D0 H4 O (hs H4 O (some (.map [] 0))) (O+1):=(D0.refl _ _).new _ (aD _) O0;have dm:J0 (hs H4 O (some (.map [] 0))) O=some (.map [] 0):=Z11 _ _ _;generalize hs H4 O (some (.map [] 0))=al at *
 refine B1 (m:=es.length) (fun k L H' nx'=>∃(i:Nat) (vA vB vf:Value) (m:Nat) (bs:List Nat) (cssB:List (List Value)) (fs:List Nat),k+i=es.length/\L=[vf,.int .i64 (i:Int)]/\(D16 (es.take i) set).length=m/\m<=i/\(∀ f ∈ fs,f<i) /\
   PT H nx H' nx' O bm bC n (V5 v set) (fun t=>if t ∈ D16 (es.take i) set then some (.bool true) else none) vA vB vf m m bs cssB fs (fun r j=>if ((D16 (es.take i) set).getD r 0).testBit ((V5 v set).getD j 0) then 1 else 0)/\J0 H' nx=some (.cells [.int .i64 (v:Int),.slice A es.length cap] 0)) ?_
  ⟨0,.slice none 0 0,.slice none 0 0,.slice none 0 0,0,[],[],[],O0,rfl,rfl,aD _,O2,⟨U.ext.trans W,O0,O0,(W.get _ O0).trans U.g4,(W.get _ O0).trans U.g7,(W.get _ ay).trans e1,ay,cq,(U29.nil dm).congr (fun t=>by simp[D16]),Acc.nil _ _ _ _,Acc.nil _ _ _ _,Acc.nil _ _ _ _,rfl,rfl,rfl,
   cd.step O0 (fun i hi _=>W.get i hi) (fun q hq=>by simp[R5] at hq ⊢;omega),fun q c hc=>by simp at hc,fun k b hb=>by simp at hb,.inl ⟨rfl,rfl⟩,.inl ⟨rfl,rfl⟩,.inl ⟨rfl,rfl⟩⟩,(W.get _ O0).trans ai⟩
 rintro k2 ej L2 Q Z ⟨i,vA,vB,vf,m,bs,cssB,fs,f0,rfl,a1,ew,bf,E,au⟩ az;show D10 .lss (.int .i64 (i:Int)) (.int .i64 (es.length:Int)) _;rw[E45,C46]
 by_cases hi:i<es.length
 case neg=>
  obtain rfl:i=es.length:=O0;rw[if_neg O2];rw[List.take_length] at E a1;have c4:∀(a b c a' b' c':Value),B12 [a,b,c] 0 [a',b',c']=[a',b',c']:=fun _ _ _ _ _ _=>rfl
  obtain⟨AA,eA,et⟩:=E.aA.sl;obtain⟨AB,eB,eh⟩:=E.aB.sl;obtain⟨Af,eF,ey⟩:=E.af.sl;have ek:=E.rn;have e9:=E.le;have h7:=E.g7;subst eA eB eF;simp(disch:=first | omega | assumption | exact G0 O1 | exact U10 O1 | exact X0 O0 | fail   )only[W0,Z0,Nat.reduceAdd,h7,Y12,E.g4,c4];have hk:∀ x,x≠nx+1->J0 (hs Q (nx+1) (some (.cells [.slice (some ⟨bC,0,none⟩) n n,.slice AA m m,.slice AB m m] 0))) x=J0 Q x:=fun x hx=>Z1 _ hx
  have ap:∀ {qs:List Nat} {b:Nat} {X:Nat->Rat},RO3 (D6 Q qs) Z b n X->RSl (hs Q (nx+1) (some (.cells [.slice (some ⟨bC,0,none⟩) n n,.slice AA m m,.slice AB m m] 0))) Z (some ⟨b,0,none⟩) n X:=fun h=>
   ((h.sub (fun x b _ hb=>N68 x b hb)).boxs E.g4 rfl).rsl
  have dy:RX (hs Q (nx+1) (some (.cells [.slice (some ⟨bC,0,none⟩) n n,.slice AA m m,.slice AB m m] 0))) Z cssB fun _=>1:=fun q c hc=>
   ((E.rxB q c hc).sub (fun x b _ hb=>N68 x b hb)).boxs E.g4 (U47 rfl) (.inl rfl)
  have de:=(E.aA.same (H':=hs Q (nx+1) (some (.cells [.slice (some ⟨bC,0,none⟩) n n,.slice AA m m,.slice AB m m] 0))) (aD _) fun b h1 _ _=>hk b O0).sl;have d2:=(E.aB.same (H':=hs Q (nx+1) (some (.cells [.slice (some ⟨bC,0,none⟩) n n,.slice AA m m,.slice AB m m] 0))) (aD _) fun b h1 _ _=>hk b O0).sl;have cx:=(E.af.same (H':=hs Q (nx+1) (some (.cells [.slice (some ⟨bC,0,none⟩) n n,.slice AA m m,.slice AB m m] 0))) (aD _) fun b h1 _ _=>hk b O0).sl;obtain⟨f4,dx,bv⟩:=de;obtain⟨el,dq,c3⟩:=d2;obtain⟨ef,dg,bw⟩:=cx
  cases dx;cases dq;cases dg
  have c9:=(hk bm O0).trans E.gm;refine⟨⟨by have:=E.ext.le;omega,fun x hx=>(hk x O0).trans (E.ext.get x hx)⟩,some ⟨bC,0,none⟩,AA,AB,some ⟨bm,0,none⟩,Af,n,m,m,n,m,slR n bs,fs,by rw[aj,a1],bv,by rw[G75,E.lA,a1],fun x hx => ?_,?_,by rw[aj];exact ap E.roC,?_,bw,by rw[E.lf,a1],bf⟩
  .rw[a1] at hx
   have bz:bs[x]? = some (bs[x]'(by have:=E.lA;omega)):=aE _;refine⟨_,_,by rw[aj];exact G71 bz,?_⟩;rw[aj];have:=ap (E.rows x _ bz);obtain⟨cs,h1,h2,h3⟩:=this;exact⟨cs,h1,h2,fun q c hc=>by simpa [sP] using h3 q c hc⟩
  .rw[a1];exact⟨cssB,c3,E.lB,dy⟩
  .intro x u hu
   exact⟨bm,0,_,rfl,by have:=E.bmr;have:=E.rn;omega,by rw[Q5,c9];rfl,by rw[cF];exact hu⟩
 rw[if_pos (by simpa using hi),N13];simp only[fZ,gD];have ah:es[i]? = some es[i]:=aE hi;generalize es[i]=e at ah;have he:e<2^v:=dj e (aH ah);have co:e<4294967296:=O0;obtain⟨bE,oE,cu,rfl,du,c8,bd⟩:=hS.open (i:=0) (by rw[E1];omega);have bc:Q5 Q bE=some cu:=(E.ext.row du).trans c8;have cz:=bd i _ (Q3 ah);have bx:∀ K:Value->Prop,(M3 (.slice (some ⟨bE,oE,none⟩) es.length cap) (.int .i64 (i:Int)) none 1 fun dz=>J1 dz none Q fun db=>D10 .and db (.int .u32 (set:Int)) fun dp=>K dp)=K (.int .u32 ((e &&& set:Nat):Int)):=by
  intro K;have ed:(i:Int)<(es.length:Int):=O0;simp(disch:=first | omega | assumption | exact G0 O1 | exact U10 O1 | exact X0 O0 | fail  )only[W0,X3 bc,cz]
 rw[bx];have b4:e &&& set<4294967296:=D52 co;have dw:∀ rest:JK,(V4 (fun aa=>D10 .eql (.int .u32 ((e &&& set:Nat):Int)) (.int .u32 0) fun ag=>
   K3 false ag (wLk (.int .u32) (.bool false) (.map (some O)) (.int .u32 ((e &&& set:Nat):Int)) false Q fun an=>aa [an] Q Z) (aa [(.bool true)] Q Z)) rest) =
   rest [.bool (decide (e &&& set=0\/e &&& set ∈ D16 (es.take i) set))] Q Z:=by
  intro rest;rw[N13,V44,Z27]
  by_cases h0:e &&& set=0
  .rw[if_pos (by simp[h0])];simp[h0]
  .rw[if_neg (by simpa using fun h=>h0 O0)]
   by_cases h1:e &&& set ∈ D16 (es.take i) set
   .rw[E.mp.lkS' (v := .bool true) (by simp[h1])];simp[h1]
   .rw[E.mp.lkN' (by simp[h1])];simp[h0,h1]
 rw[dw];simp only[fZ];rw[C46];have bu:=K99 (set:=set) ah
 by_cases aq:e &&& set=0\/e &&& set ∈ D16 (es.take i) set
 .rw[if_pos (by simpa using aq)]
  have a0:D16 (es.take (i+1)) set=D16 (es.take i) set:=by rw[bu];unfold W77;rw[if_pos aq]
  simp(disch:=first | omega | assumption | exact G0 O1 | exact U10 O1 | exact X0 O0 | fail  )only[W0];exact az (k2-1) _ _ _ O0 ⟨i+1,vA,vB,vf,m,bs,cssB,fs,O0,O2,by rw[a0];exact a1,O0,fun f hf=>by have:=bf f hf;omega,by rw[a0];exact E,au⟩
 rw[if_neg (by simpa using aq)];have a0:D16 (es.take (i+1)) set=D16 (es.take i) set++[e &&& set]:=by rw[bu];unfold W77;rw[if_neg aq]
 generalize dc:e &&& set=part at *
 refine U99 E O0 ?_;intro ab e2 ad a3 dn;rw[J35];have e8:=a3.rn;have e4:=a3.bmr;have e3:=a3.le;have ei:=W75 a3.aA (d:=nx+2) O0;have f3:=W75 a3.aB (d:=nx+2) O0;have eu:=W75 a3.af (d:=nx+2) O0;refine B1 (m:=n) (fun k3 L H' nx'=>∃(j:Nat) (V:Value) (css:List (List Value)),k3+j=n/\L=[V,.int .i64 (j:Int)]/\D0 e2 ad H' nx'/\Acc ad H' nx' 3 V j css.flatten/\css.length=j /\
   RX (D6 H' (R5 (nx+2) V :: [nx+2,O,R5 (nx+2) vA,R5 (nx+2) vB,R5 (nx+2) ab])) nx' css (fun t=>if part.testBit ((V5 v set).getD t 0) then 1 else 0)) ?_
  ⟨0,.slice none 0 0,[],O0,rfl,D0.refl _ _,Acc.nil _ _ _ _,rfl,fun q c hc=>by simp at hc⟩
 rintro k3 f5 L3 cj ac ⟨j,V,b8,eg,rfl,a2,a4,bk,cp⟩ ci;have dd:=a2.le;show D10 .lss (.int .i64 (j:Int)) (.int .i64 (n:Int)) _;rw[E45,C46]
 by_cases hj:j<n
 .rw[if_pos (by simpa using hj)]
  have em:(j:Int)<(n:Int):=O0;obtain⟨w,hw⟩:∃ w,(V5 v set)[j]? = some w:=⟨(V5 v set)[j]'O0,aE _⟩
  have d7:(V5 v set).getD j 0=w:=by simp[aP,hw]
  have dk:(U4 ((V5 v set).map fun(w:Nat)=>(w:Int)))[j]? = some (.int .i64 (w:Int)):=by simp[U4,hw]
  have b3:=(a2.get bm O0).trans a3.gm;have e6:part<4294967296:=b4;simp(disch:=try exact O4)only[W0,Q0.val,b3,dk,M103];have ez:=W75 a4 (d:=nx+2) O0;have fa:=Z77 a4 (d:=ac+2) O0;refine X65 (qs:=R5 (nx+2) V :: [nx+2,O,R5 (nx+2) vA,R5 (nx+2) vB,R5 (nx+2) ab]) (by intro q hq;simp at hq;omega) (R73 (n:=((part >>> w%2:Nat):Int)) O0 O0 _ _) (fun _ _ _ h=>h.2) ?_;rintro r1 a8 J E0 ⟨hr,eo⟩ a6 ce _;have d8:=a6.le;obtain⟨c,rfl,hc⟩:=hr.num;have ax:=hr.sub ce;rw[V108] at ax;have a9:D0 a8 J (hs a8 J (some (.cells c 0))) (J+1):=(D0.refl _ _).new _ (aD _) O0;have d9:J0 (hs a8 J (some (.cells c 0))) J=some (.cells c 0):=Z11 _ _ _;simp(disch:=first | omega | assumption | exact G0 O1 | exact U10 O1 | exact X0 O0 | fail   )only[D87 hc];generalize hs a8 J (some (.cells c 0))=H22 at *
  have cg:Src H22 3 (.slice (some ⟨J,0,none⟩) 1 1) 1 c:=J9 d9 (by rw[hc.three]) O0;refine E72 (d:=J+1) O0 ((a4.ext a6).ext a9) cg O0 hc.one O0 O0 ?_;intro da d1 av;have ep:=Z77 a4 (d:=J+1) O0;have f6:=G81 a4 (nx+2) (J+1);refine ci (k3-1) _ _ _ O0 ⟨j+1,.slice (some ⟨J+1,0,none⟩) (j+1) (j+1),b8++[c],O0,O2,⟨O0,fun x hx => ?_⟩,X76 (by rw[N75,bH,a4.1,hc.three];omega) O0 O0 (by rw[d1,N75]),by simp[bk],?_⟩
  .rw[av x O0 O0,a9.get x O0,a6.get x O0];exact a2.get x hx
  .show RX (D6 da ((J+1) :: _)) _ _ _
   have dt:=cp.step (H':=a8) (nx':=J) (qs':=R5 (nx+2) V :: [nx+2,O,R5 (nx+2) vA,R5 (nx+2) vB,R5 (nx+2) ab]) O0 (fun x h1 _=>a6.get x h1) (fun q hq => .inl hq);refine(dt.app bk (by rw[d7];exact ax)).step O0 (fun x h1 h2 => ?_) (fun q hq=>by simp at hq ⊢;omega);simp at h2;rw[av x O0 O0,a9.get x h1]
 obtain rfl:j=n:=O0;rw[if_neg O2];simp only[fZ];obtain⟨b,dl,eb,cc,d5⟩:∃ b,V = .slice (some ⟨b,0,none⟩) j j/\ad<=b/\b<ac/\J0 cj b=some (.cells b8.flatten 3):=by
  rcases N29 a4 (d:=nx) with ⟨_,h0,_⟩ | ⟨b,h1,_,h2,h3,h4⟩
  .omega
  .exact⟨b,h1,h2,h3,h4⟩
 subst dl;have ap:RO3 (D6 cj [nx+2,O,R5 (nx+2) vA,R5 (nx+2) vB,R5 (nx+2) ab]) ac b j (fun t=>if part.testBit ((V5 v set).getD t 0) then 1 else 0):=
  ⟨b8,by rw[Q50 O5];exact d5,cc,bk,cp.sub (V74 (fun _ _ _=>rfl) (fun q hq => .inl (eJ _ hq)))⟩
 refine C105 (a3.ext' a2) O0 ap ?_;intro dh d0 bh H' nx' h' g';simp(disch:=first | omega | assumption | exact G0 O1 | exact U10 O1 | exact X0 O0 | fail  )only[W0];have hM:(fun t=>if t=part then some (dU true) else if t ∈ D16 (es.take i) set then some (.bool true) else none)=fun t=>if t ∈ D16 (es.take (i+1)) set then some (.bool true) else none:=by
  funext t;rw[a0]
  by_cases h1:t=part
  .simp[h1]
  .simp[h1]
 have hY:(fun k=>if k=m then(fun t=>if part.testBit ((V5 v set).getD t 0) then(1:Rat) else 0) else fun j=>if ((D16 (es.take i) set).getD k 0).testBit ((V5 v set).getD j 0) then(1:Rat) else 0) =
   fun r j=>if ((D16 (es.take (i+1)) set).getD r 0).testBit ((V5 v set).getD j 0) then(1:Rat) else 0:=by
  funext r t;rw[a0]
  by_cases h1:r=m
  .subst h1
   rw[if_pos rfl];have:(D16 (es.take i) set++[part]).getD r 0=part:=by
    rw[aP,bS O0,a1];simp
   rw[this]
  .rw[if_neg h1]
   have:(D16 (es.take i) set++[part]).getD r 0=(D16 (es.take i) set).getD r 0:=by
    rw[aP,aP];rcases aW r m with g | g
    .rw[bQ O0]
    .rw[aT O5,aT O0]
   rw[this]
 rw[hM,hY] at h';exact az (k2-1) _ _ _ O0 ⟨i+1,dh,d0,ab,m+1,bs++[b],bh,fs++[i],O0,O2,by rw[a0];simp[a1],O0,fun f hf=>by
  rcases dN.1 hf with h1 | h1
  .have:=bf f h1;omega
  .simp at h1;omega,h',g'.trans ((a2.get nx O0).trans (dn.trans au))⟩
end Go.Proofs.YtoiioigihocgbaaGreatDoor
namespace Go.Clo
theorem U92(set x:Nat):∀(es ps:List Nat),x ∈ ps->x ∈ es.foldl (W77 set) ps
 | [],ps,h=>h
 | e :: es,ps,h=>U92 set x es _ (by unfold W77;split<;>simp[h])
theorem M83(set e:Nat)(h0:e &&& set≠0):∀(es ps:List Nat),e ∈ es->e &&& set ∈ es.foldl (W77 set) ps
 | [],ps,h=>by simp at h
 | d :: es,ps,h=>by
  rw[dF];rcases aU.1 h with rfl | h
  .refine U92 set _ es _ ?_
   unfold W77
   by_cases h1:e &&& set ∈ ps
   .rw[if_pos (.inr h1)];exact h1
   .rw[if_neg (by simp[h0,h1])];simp
  .exact M83 set e h0 es _ h
theorem K102{es:List Nat}{set v:Nat}(hv:set.testBit v=true)(hc:∃ e ∈ es,e.testBit v=true):∃ r,r<(D16 es set).length/\((D16 es set).getD r 0).testBit v=true:=by
 obtain⟨e,he,hb⟩:=hc;have E:(e &&& set).testBit v=true:=by rw[bI,hb,hv];rfl
 have h0:e &&& set≠0:=by intro h;rw[h] at E;simp at E
 obtain⟨r,hr⟩:=cH (M83 set e h0 es [] he);refine⟨r,(aJ.1 hr).1,?_⟩;have:(D16 es set).getD r 0=e &&& set:=by rw[aP];unfold D16;rw[hr];rfl
 rw[this];exact E
theorem G83{es:List Nat}{N set:Nat}(E:∀ v,set.testBit v=true->∃ e ∈ es,e.testBit v=true){j:Nat}(hj:j<(V5 N set).length):∃ r,r<(D16 es set).length/\sP es N set r j=true:=by
 have hm:(V5 N set)[j]? = some (V5 N set)[j]:=aE hj;have hb:=(Q62.1 (aH hm)).2;obtain⟨r,hr,h⟩:=K102 hb (E _ hb);refine⟨r,hr,?_⟩;unfold sP;rw[show(V5 N set).getD j 0=(V5 N set)[j] by simp[aP,hm]];exact h
def D73(es:List Nat)(N set:Nat):Rat:=(Lp.tabK (V5 N set).length (D16 es set).length (sP es N set) (Lp.steps (V5 N set).length (D16 es set).length (sP es N set))).g ((V5 N set).length+(D16 es set).length+1)
def Z7(es:List Nat):Nat:=es.foldl (· ||| ·) 0
theorem U105{es:List Nat}{i e:Nat}(h:es[i]? = some e):Z7 (es.take (i+1))=Z7 (es.take i) ||| e:=by
 unfold Z7;rw[List.take_add_one,h];simp
theorem X37(v:Nat):∀(es:List Nat) (m:Nat),(es.foldl (· ||| ·) m).testBit v=(m.testBit v || es.any fun e=>e.testBit v)
 | [],m=>O2
 | e :: es,m=>by rw[dF,X37 v es,aV,List.any_cons,Bool.or_assoc]
theorem V107(es:List Nat)(v:Nat):(Z7 es).testBit v=es.any fun e=>e.testBit v:=by unfold Z7;rw[X37];simp
theorem R58:∀(es:List Nat) (m:Nat),m<4294967296->(∀ e ∈ es,e<4294967296)->es.foldl (· ||| ·) m<4294967296
 | [],m,h,_=>h
 | e :: es,m,h,h2=>R58 es _ (M54 h (h2 e O2)) fun d hd=>h2 d (by simp[hd])
theorem V102{es:List Nat}(h:∀ e ∈ es,e<4294967296):Z7 es<4294967296:=R58 es 0 O0 h
theorem M34{a b:Nat}(h:∀ v,a.testBit v=true->b.testBit v=true):Z2 a b=0:=by
 apply bZ;intro v;rw[N1,jQ]
 cases ha:a.testBit v with
 | false=>rfl
 | true=>rw[h v ha];rfl
end Go.Clo
namespace Go.Proofs.YtoiioigihocgbaaGreatDoor
open Go.Clo
theorem J96{n:Nat}{A:Option Addr}{l c:Nat}(hn:n<=32)(H:Y0)(nx:Nat):Q2 gQ 107 [gv n A l c] H nx fun v H' nx'=>v=O9 ((2^n-1:Nat):Int)/\D0 H nx H' nx':=by
 refine spec107 ?_;unfold F107;simp only[W0,Z0,Q0.val,M26 hn];exact(D0.refl _ _).nw _
theorem M91{n:Nat}(hn:n<=1000)(H:Y0)(nx:Nat):Q2 gQ 110 [O8 (n:Int)] H nx fun v H' nx'=>v = .slice (some ⟨nx,0,none⟩) n n/\TC H' nx n/\nx<nx'/\D0 H nx H' nx':=by
 refine spec110 ?_;unfold F110;simp only[W1];rw[M27 O0,show [dU false,O6,O6]=Z29 from rfl,Z83];simp only[W0,Q0.val];have Z:D0 H nx (hs H nx (some (.cells (aF n Z29).flatten 0))) (nx+1):=(D0.refl H nx).nw _;refine B1 (m:=n) (fun m L H' nx'=>∃(i:Nat) (css:List (List Value)),m+i=n/\L=[O8 (i:Int)]/\css.length=n/\(∀ d ∈ css,V7 d) /\
  J0 H' nx=O7 css.flatten/\D0 H nx H' nx'/\nx<nx') ?_ ⟨0,aF n Z29,rfl,rfl,O2,fun d hd=>by rw[(List.mem_replicate.1 hd).2];exact D106,Z11 _ _ _,Z,O0⟩
 rintro m ih L H1 a0 ⟨i,css,hm,rfl,J,E,hg,hE,U⟩ W
 by_cases hi:i<n
 case neg=>
  have O:¬ (i:Int)<(n:Int):=O0;simp only[W0,O];exact⟨⟨css,hg,J,E⟩,U,hE⟩
 have O:(i:Int)<(n:Int):=O0;simp(disch:=omega)only[W0,O];refine R0 (R73 (n:=0) O0 O0 H1 a0) ?_;rintro r H2 nx2 ⟨hr,Q⟩;have V:=(Q.get nx U).trans hg;obtain⟨c,rfl,hc⟩:=hr.num;rw[cG i 3,R74 V E hc O0];have a1:=Q.le;exact W (m-1) _ _ _ O0 ⟨i+1,css.set i c,O0,O2,by simp[J],J85 E hc,Z11 _ _ _,(hE.trans Q).h0,O0⟩
end Go.Proofs.YtoiioigihocgbaaGreatDoor
namespace Go.Clo
def D76(es:List Nat)(N set:Nat)(H:Y0)(nx:Nat)(v:Value):Prop:=
 ∃(AW AP:Option Addr) (lw cw lp cp:Nat) (t:Bool) (A C:Option Addr) (l k l' k':Nat),v = .tuple ⟨[.agg ⟨[.slice AW lw cw,.slice AP lp cp,.bool t,.slice A l k,.slice C l' k']⟩,.int .i64 0]⟩ /\
  RR H nx (.agg ⟨[.bool t,.slice A l k,.slice C l' k']⟩) (D73 es N set)
theorem X110(b o:Nat)(H:Y0)(k:VP):J1 (.pointer (some ⟨b,o,none⟩)) (some 5) H k=ldP (J0 H b) o (some 5) k:=W31 b o 4 H k
theorem E102(a b c d x y z:Value)(k:VP):B10 [a,b,c,d,x,y,z] 4 (some 3) k=k (.agg ⟨[x,y,z]⟩):=by
 rw[X21];simp
theorem E96(a b c d e:Value)(k:VP):B10 [a,b,c,d,e] 0 (some 5) k=k (.agg ⟨[a,b,c,d,e]⟩):=K26 (l:=[a,b,c,d,e]) k
theorem TC.put{H:Y0}{b n i:Nat}{c:List Value}{css:List (List Value)}(hg:J0 H b=O7 css.flatten)(hl:css.length=n)(ht:∀ d ∈ css,V7 d)(hc:V7 c):TC (hs H b (some (.cells (css.set i c).flatten 0))) b n:=
 ⟨css.set i c,Z11 _ _ _,by simp[hl],J85 ht hc⟩
end Go.Clo
namespace Go.Proofs.YtoiioigihocgbaaGreatDoor
open Go.Clo
theorem Z111{H:Y0}{nx N set cap:Nat}{A:Option Addr}{es:List Nat}(hN:N<=8)(hS:Sl H nx A (K12 es))(c4:∀ e ∈ es,e<2^N)(e5:es.length<=8)(cv:set<2^N)(ce:0<(V5 N set).length)(aw:∀ v,set.testBit v=true->∃ e ∈ es,e.testBit v=true):
  Q2 gQ 95 [gv N A es.length cap,O9 (set:Int)] H nx fun v H' nx'=>D0 H nx H' nx'/\D76 es N set H' nx' v:=by
 have f4:2^N<4294967296:=Y18 O0;have a2:set<4294967296:=O0;have a3:U14 es:=fun e he=>by have:=c4 e he;omega
 have eu:N3 N es=0:=V11 O0 O0 fun i e he=>c4 e (aH he)
 have fi:=Q15 N set;have fk:(D16 es set).length<=es.length:=by have:=X79 set es [];simpa [D16] using this
 have eo:1<=(D16 es set).length:=by
  obtain⟨r,hr,_⟩:=G83 (N:=N) aw ce;omega
 refine spec95 ?_;unfold F95;simp(config:={ maxSteps:=2000000 }) (disch:=omega)only[W0,Z0,Q0.val];have dh:D0 H nx (hs (hs H nx (O7 [O8 (N:Int),.slice A es.length cap])) (nx+1) (O7 [O6,O6,.bool false,O6,O6])) (nx+1+1):=
  ((D0.refl _ _).nw _ (m:=nx+1)).nw _
 have ec:J0 (hs (hs H nx (O7 [O8 (N:Int),.slice A es.length cap])) (nx+1) (O7 [O6,O6,.bool false,O6,O6])) nx=O7 [O8 (N:Int),.slice A es.length cap]:=by
  rw[gN _,Z11]
 have eh:J0 (hs (hs H nx (O7 [O8 (N:Int),.slice A es.length cap])) (nx+1) (O7 [O6,O6,.bool false,O6,O6])) (nx+1)=O7 [O6,O6,.bool false,O6,O6]:=Z11 _ _ _;simp(config:={ maxSteps:=2000000 })only[C13];generalize hs (hs H nx (O7 [O8 (N:Int),.slice A es.length cap])) (nx+1) (O7 [O6,O6,.bool false,O6,O6])=H2 at *
 refine R0 (N11 N A es cap _ _ (hS.ext dh) a3) ?_;rintro _ H3 f9 ⟨rfl,ay⟩;rw[eu];have f3:=ay.le;have d7:=dh.trans ay;have d9:=(ay.gt nx).trans ec;have e2:=(ay.gt (nx+1)).trans eh;simp(config:={ maxSteps:=2000000 })only[W0,ne_eq,not_true_eq_false,d9,C13];refine R0 (J96 O0 _ _) ?_;rintro _ H5 ej ⟨rfl,b3⟩;have f5:=b3.le;have ai:=d7.trans b3;have cd:=(b3.gt nx).trans d9;have dw:=(b3.gt (nx+1)).trans e2;have e4:Z2 set (2^N-1)=0:=by
  have:=X49 (n:=N) a2;have h2:¬ 2^N<=set:=O0;simpa [h2] using this
 have dx:2^N-1<4294967296:=O0;rw[V17 _ a2 dx,e4];simp(config:={ maxSteps:=2000000 })only[W0,ne_eq,not_true_eq_false,cd];refine B1 (m:=es.length) (fun k L H' nx'=>∃ i:Nat,k+i=es.length/\L=[O9 ((Z7 (es.take i):Nat):Int),O8 (i:Int)]/\H5=H'/\ej=nx') ?_ ⟨0,O0,by simp[Z7],rfl,rfl⟩;rintro k ih L _ _ ⟨i,hk,rfl,rfl,rfl⟩ e9
 by_cases hi:i<es.length
 .have bf:(i:Int)<(es.length:Int):=O0
  have d1:es[i]? = some es[i]:=aE hi;obtain⟨bE,oE,dt,rfl,ek,d2,ca⟩:=hS.open (i:=0) (by rw[E1];omega);have dj:Q5 H5 bE=some dt:=(ai.row ek).trans d2;have cu:Z7 (es.take i)<4294967296:=V102 fun e he=>a3 e (List.mem_of_mem_take he)
  have f6:es[i]<4294967296:=a3 _ (List.getElem_mem hi);simp(config:={ maxSteps:=2000000 }) (disch:=omega)only[W0,bf,X3 dj,ca i _ (Q3 d1)];exact e9 (k-1) _ _ _ O0 ⟨i+1,O0,by rw[U105 d1];simp,rfl,rfl⟩
 obtain rfl:i=es.length:=O0;have bf:¬ (es.length:Int)<(es.length:Int):=O0;have cp:Z2 set (Z7 es)=0:=M34 fun v hv=>by
  rw[V107,dY];exact aw v hv
 have cu:Z7 es<4294967296:=V102 a3;rw[List.take_length];have d4:∀ k:VP,D10 .andNot (O9 (set:Int)) (O9 ((Z7 es:Nat):Int)) k=k (O9 0):=fun k=>by rw[V17 _ a2 cu,cp];rfl
 simp(config:={ maxSteps:=2000000 })only[W0,bf,d4,ne_eq,not_true_eq_false,cd,C13];refine R0 (D99 hN (hS.ext ai) c4 e5 cv ce) ?_;rintro _ H9 ag ⟨az,AC,AA,AB,Am,Af,cC,cA,cB,cm,cf,ac,fs,rfl,ea,e6,d3,dv,eg,dr,ee,fj,em⟩;have f8:=az.le;have dy:=(az.gt nx).trans cd;have et:=(az.gt (nx+1)).trans dw;have bx:∀(a b c a' b' c':Value),B12 [a,b,c] 0 [a',b',c']=[a',b',c']:=fun _ _ _ _ _ _=>rfl
 have a6:D0 H9 ag (hs (hs H9 ag (O7 [O6,O6,O6])) ag (O7 [.slice AC (V5 N set).length cC,.slice AA (D16 es set).length cA,.slice AB (D16 es set).length cB])) (ag+1):=
  ((D0.refl _ _).nw _ (m:=ag+1)).nw _
 simp(config:={ maxSteps:=2000000 })only[W0,Z0,Nat.reduceAdd,bx,Y12];refine R0 (M104 (s:=sP es N set) ce O0 eo O0 (ea.ext a6) e6 (fun i hi=>by obtain⟨Ai,ci,h1,h2⟩:=d3 i hi;exact⟨Ai,ci,h1,h2.ext a6⟩) (dv.ext a6) (eg.ext a6) (fun v hv=>G83 aw hv)) ?_;rintro fh an E ⟨⟨bX,bY,t,Az,Cz,lz,kz,V,W,rfl,e0,en,hX,hY,hz⟩,bd⟩;have c9:=bd.le;have aa:=a6.trans bd;have b8:=(aa.gt nx).trans dy;have db:=(aa.gt (nx+1)).trans et;have c3:∀(a b c d e f g a' b' c' d' e' f' g':Value),B12 [a,b,c,d,e,f,g] 0 [a',b',c',d',e',f',g']=[a',b',c',d',e',f',g']:=fun _ _ _ _ _ _ _ _ _ _ _ _ _ _=>rfl
 have ah:D0 an E (hs (hs an E (O7 [O8 0,O6,O6,O6,.bool false,O6,O6])) E (O7 [O8 0,.slice (some ⟨bX,0,none⟩) (V5 N set).length (V5 N set).length,.slice (some ⟨bY,0,none⟩) (D16 es set).length (D16 es set).length,O6,.bool t,.slice Az lz kz,.slice Cz V W])) (E+1):=
  ((D0.refl _ _).nw _ (m:=E+1)).nw _
 have ab:J0 (hs (hs an E (O7 [O8 0,O6,O6,O6,.bool false,O6,O6])) E (O7 [O8 0,.slice (some ⟨bX,0,none⟩) (V5 N set).length (V5 N set).length,.slice (some ⟨bY,0,none⟩) (D16 es set).length (D16 es set).length,O6,.bool t,.slice Az lz kz,.slice Cz V W])) E=O7 [O8 0,.slice (some ⟨bX,0,none⟩) (V5 N set).length (V5 N set).length,.slice (some ⟨bY,0,none⟩) (D16 es set).length (D16 es set).length,O6,.bool t,.slice Az lz kz,.slice Cz V W]:=Z11 _ _ _;simp(config:={ maxSteps:=2000000 }) (disch:=omega)only[W0,Z0,Nat.reduceAdd,c3,ne_eq,not_true_eq_false,b8];generalize hs (hs an E (O7 [O8 0,O6,O6,O6,.bool false,O6,O6])) E (O7 [O8 0,.slice (some ⟨bX,0,none⟩) (V5 N set).length (V5 N set).length,.slice (some ⟨bY,0,none⟩) (D16 es set).length (D16 es set).length,O6,.bool t,.slice Az lz kz,.slice Cz V W])=H14 at *
 have b4:=(ah.gt nx).trans b8;have ao:D0 H14 (E+1) H14 (E+1+12):=D0.sf;refine R0 (M91 (n:=es.length) O0 _ _) ?_;rintro _ fg O ⟨rfl,hW,ei,ad⟩;have ax:=(ad.gt nx).trans b4;simp(config:={ maxSteps:=2000000 })only[W0,ax];refine R0 (M91 (n:=N) O0 _ _) ?_;rintro _ a7 Z ⟨rfl,hP,fd,ae⟩;have de:=hW.ext ae ei;have a4:D0 H14 (E+1) a7 Z:=(ao.trans ad).trans ae;have av:=(a4.gt E).trans ab;have da:=(ae.gt nx).trans ax;have bg:=((ao.trans ad).gt E).trans ab;have df:=(a4.gt (nx+1)).trans ((ah.gt _).trans db);have dq:∀ k0:VP,U11 [O6,O6,.bool false,O6,O6] [(0,1),(1,1),(2,3)] [(0,.slice (some ⟨E+1+12,0,none⟩) es.length es.length),(1,.slice (some ⟨O,0,none⟩) N N),(2,.agg ⟨[.bool t,.slice Az lz kz,.slice Cz V W]⟩)] k0 =
   k0 (.agg ⟨[.slice (some ⟨E+1+12,0,none⟩) es.length es.length,.slice (some ⟨O,0,none⟩) N N,.bool t,.slice Az lz kz,.slice Cz V W]⟩):=fun k0=>V14 _ _
 have ak:∀(a b c d e a' b' c' d' e':Value),B12 [a,b,c,d,e] 0 [a',b',c',d',e']=[a',b',c',d',e']:=fun _ _ _ _ _ _ _ _ _ _=>rfl
 simp(config:={ maxSteps:=2000000 })only[W0,Z0,Nat.reduceAdd,av,bg,E102,dq,ak];have co:D0 a7 (E+1) (hs (hs a7 (E+1+10) (O7 [O6,O6,.bool false,O6,O6])) (E+1+10) (O7 [.slice (some ⟨E+1+12,0,none⟩) es.length es.length,.slice (some ⟨O,0,none⟩) N N,.bool t,.slice Az lz kz,.slice Cz V W])) Z:=
  ((D0.sf).h0).h0
 have au:J0 (hs (hs a7 (E+1+10) (O7 [O6,O6,.bool false,O6,O6])) (E+1+10) (O7 [.slice (some ⟨E+1+12,0,none⟩) es.length es.length,.slice (some ⟨O,0,none⟩) N N,.bool t,.slice Az lz kz,.slice Cz V W])) (E+1+10) =
   O7 [.slice (some ⟨E+1+12,0,none⟩) es.length es.length,.slice (some ⟨O,0,none⟩) N N,.bool t,.slice Az lz kz,.slice Cz V W]:=Z11 _ _ _
 have U:∀ x,x≠E+1+10->J0 (hs (hs a7 (E+1+10) (O7 [O6,O6,.bool false,O6,O6])) (E+1+10) (O7 [.slice (some ⟨E+1+12,0,none⟩) es.length es.length,.slice (some ⟨O,0,none⟩) N N,.bool t,.slice Az lz kz,.slice Cz V W])) x=J0 a7 x:=fun x hx=>by
  rw[Z1 _ hx,Z1 _ hx]
 generalize hs (hs a7 (E+1+10) (O7 [O6,O6,.bool false,O6,O6])) (E+1+10) (O7 [.slice (some ⟨E+1+12,0,none⟩) es.length es.length,.slice (some ⟨O,0,none⟩) N N,.bool t,.slice Az lz kz,.slice Cz V W])=H20 at *
 have du:=ad.le;have ed:=ae.le;have a0:D0 an E H20 Z:=ah.trans (a4.both co);have d8:=hz.ext a0;have a9:=aa.trans a0;have cn:TC H20 O N:=by
  obtain⟨cs,h1,h2,h3⟩:=hP;exact⟨cs,(U _ O0).trans h1,h2,h3⟩
 have d5:TC H20 (E+1+12) es.length:=by
  obtain⟨cs,h1,h2,h3⟩:=de;exact⟨cs,(U _ O0).trans h1,h2,h3⟩
 have aj:J0 H20 E=_:=(U E O0).trans av;have dd:J0 H20 (nx+1)=_:=(U (nx+1) O0).trans df;obtain⟨ct,e7,fa,d0⟩:=hX;obtain⟨dl,ey,fb,cz⟩:=hY;have cg:=(a0.get bX e0).trans e7;have bv:=(a0.get bY en).trans ey;obtain⟨bM,oM,di,rfl,ew,cq,cc⟩:=dr.open (i:=0) (by rw[N81];omega);obtain⟨bF,oF,cx,rfl,eb,dk,bh⟩:=ee.open (i:=0) (by rw[N81];omega);have c8:Q5 H20 bM=some di:=(a9.row ew).trans cq;have bk:Q5 H20 bF=some cx:=(a9.row eb).trans dk;have al:D0 H nx H20 Z:=(ai.trans az).trans a9;have dn:ag+1<=E:=c9;refine B1 (m:=(V5 N set).length) (fun k L H' nx'=>∃ v:Nat,k+v=(V5 N set).length/\L=[O8 (v:Int)]/\Z<=nx'/\(∀ x,x<Z->x≠O->J0 H' x=J0 H20 x)/\TC H' O N/\RR H' nx' (.agg ⟨[.bool t,.slice Az lz kz,.slice Cz V W]⟩) (D73 es N set)) ?_
  ⟨0,O0,rfl,aD _,fun _ _ _=>rfl,cn,d8⟩
 rintro k1 fe L1 dp f7 ⟨v,fl,rfl,dc,Q,dz,b5⟩ ck
 by_cases hv:v<(V5 N set).length
 .have bt:(v:Int)<((V5 N set).length:Int):=O0
  obtain⟨w,hw⟩:∃ w,(V5 N set)[v]? = some w:=⟨(V5 N set)[v],aE hv⟩
  have ef:=(Q62.1 (aH hw)).1;have cy:(w:Int)<(N:Int):=O0;have c6:(U4 ((V5 N set).map fun(w:Nat)=>(w:Int)))[v]? = some (O8 (w:Int)):=by simp[U4,hw]
  have bo:Q5 dp bM=some di:=by unfold Q5;rw[Q bM O0 O0];exact c8
  have bz:=(Q (E+1+10) O0 O0).trans au;have cj:=(Q E O0 O0).trans aj;have dg:=(Q bX O0 O0).trans cg;obtain⟨cs,a8,bw,a5⟩:=dz;obtain⟨c,hc⟩:∃ c,ct[v]? = some c:=⟨ct[v]'O0,aE _⟩
  have a1:=d0 c (aH hc);have e3:w*3=3*w:=O0;have ep:B12 cs.flatten (w*3) c=(cs.set w c).flatten:=by rw[e3];exact M78 (fun d hd=>(a5 d hd).three) a1.three O0
  have el:w*3+3<=3*cs.length:=O0;simp(config:={ maxSteps:=2000000 }) (disch:=omega)only[W0,bt,X3 bo,cc v _ c6,bz,cj,dg,J22 (fun d hd=>(d0 d hd).three) hc,a1.three,a1.one,a8,W26 (fun d hd=>(a5 d hd).three),ep,el];refine ck (k1-1) _ _ _ O0 ⟨v+1,O0,O2,O0,fun x h1 h2=>by rw[Z1 _ h2];exact Q x h1 h2,TC.put a8 bw a5 a1,(b5.ext (D0.sf)).boxs a8 (N77 a5) (.inl rfl)⟩
 obtain rfl:v=(V5 N set).length:=O0;have bt:¬ ((V5 N set).length:Int)<((V5 N set).length:Int):=O0;simp(config:={ maxSteps:=2000000 })only[W0,bt];refine B1 (m:=(D16 es set).length) (fun k L H' nx'=>∃ v:Nat,k+v=(D16 es set).length/\L=[O8 (v:Int)]/\Z<=nx'/\(∀ x,x<Z->x≠O->x≠E+1+12->J0 H' x=J0 H20 x)/\TC H' (E+1+12) es.length/\RR H' nx' (.agg ⟨[.bool t,.slice Az lz kz,.slice Cz V W]⟩) (D73 es N set)) ?_
  ⟨0,O0,rfl,dc,fun x h1 h2 _=>Q x h1 h2,by
   obtain⟨cs,h1,h2,h3⟩:=d5;exact⟨cs,(Q _ O0 O0).trans h1,h2,h3⟩,b5⟩
 rintro k2 fc L2 e8 ez ⟨v,ff,rfl,f0,J,e1,bc⟩ d6;have ap:=(J (E+1+10) O0 O0 O0).trans au
 by_cases hv:v<(D16 es set).length
 .have aq:(v:Int)<((D16 es set).length:Int):=O0
  obtain⟨w,hw⟩:∃ w,fs[v]? = some w:=⟨fs[v]'O0,aE _⟩
  have ef:=em w (aH hw);have cy:(w:Int)<(es.length:Int):=O0;have c6:(U4 (fs.map fun(w:Nat)=>(w:Int)))[v]? = some (O8 (w:Int)):=by simp[U4,hw]
  have c7:Q5 e8 bF=some cx:=by unfold Q5;rw[J bF O0 O0 O0];exact bk
  have bu:=(J E O0 O0 O0).trans aj;have dm:=(J bY O0 O0 O0).trans bv;obtain⟨cs,a8,bw,a5⟩:=e1;obtain⟨c,hc⟩:∃ c,dl[v]? = some c:=⟨dl[v]'O0,aE _⟩
  have a1:=cz c (aH hc);have e3:w*3=3*w:=O0;have ep:B12 cs.flatten (w*3) c=(cs.set w c).flatten:=by rw[e3];exact M78 (fun d hd=>(a5 d hd).three) a1.three O0
  have el:w*3+3<=3*cs.length:=O0;simp(config:={ maxSteps:=2000000 }) (disch:=omega)only[W0,aq,X3 c7,bh v _ c6,ap,bu,dm,J22 (fun d hd=>(cz d hd).three) hc,a1.three,a1.one,a8,W26 (fun d hd=>(a5 d hd).three),ep,el];refine d6 (k2-1) _ _ _ O0 ⟨v+1,O0,O2,O0,fun x h1 h2 h3=>by rw[Z1 _ h3];exact J x h1 h2 h3,TC.put a8 bw a5 a1,(bc.ext (D0.sf)).boxs a8 (N77 a5) (.inl rfl)⟩
 obtain rfl:v=(D16 es set).length:=O0;have aq:¬ ((D16 es set).length:Int)<((D16 es set).length:Int):=O0;have ba:=(J (nx+1) O0 O0 O0).trans dd;simp(config:={ maxSteps:=2000000 })only[W0,Z0,Nat.reduceAdd,aq,X110,ap,E96,ba,ak];refine⟨⟨by have:=al.le;omega,fun x hx => ?_⟩,_,_,_,_,_,_,t,Az,Cz,lz,kz,V,W,rfl,bc.boxs ba (U47 rfl) (.inl rfl)⟩;rw[gN _,J x O0 O0 O0];exact al.get x hx
section
variable (a0 a1 a2:Value) (H:Y0) (nx:Nat) (k:EP)
def F88:Prop:=
 R4 a0 0 H fun b=>
 G3 (fun c d e f=>
 D10 .lss d.a b fun b=>
 K2 b (
 U6 a0 d.a e fun _ b=>
 M33 gQ a1 [b] e f fun b e f=>
 K2 b (
 Rt d.a e f k) (
 D10 .add d.a i1 fun b=>
 c [b] e f)) (
 Rt (.int .i64 (-1)) e f k)) [i0] H nx
def F58:Prop:=
 M12 a0 H nx fun b c d=>
 J1 b (some 2) c fun e=>
 Y2 gQ 27 [e] c d fun c d e=>
 D10 .neq c i0 fun c=>
 K2 c (
 Rt bF d e k) (
 R4 a1 0 d fun c=>
 G3 (fun d e f g=>
 D10 .lss e.b c fun c=>
 K2 c (
 U6 a1 e.b f fun _ c=>
 V4 (fun d=>
 D10 .lss c i0 fun h=>
 K3 false h (
 K7 b 0 f fun _ b=>
 D10 .geq c b fun b=>
 K3 false b (
 D10 .shr e.a c fun b=>
 D10 .and b u1 fun b=>
 D10 .eql b u1 fun b=>
 d [b] f g) (
 d [bT] f g)) (
 d [bT] f g)) (fun b f g=>
 K2 b.a (
 Rt bF f g k) (
 D10 .shl u1 c fun b=>
 D10 .or e.a b fun b=>
 D10 .add e.b i1 fun c=>
 d [b,c] f g))) (
 J1 b (some 2) f fun c=>
 Y2 gQ 29 [c] f g fun c d f=>
 wAl z32 d f fun d f g=>
 D5 d c 32 f fun c=>
 R4 a1 0 c fun f=>
 D10 .geq f (.int .i64 3) fun f=>
 R4 a1 0 c fun h=>
 D10 .geq h (.int .i64 4) fun h=>
 R4 a1 0 c fun i=>
 G3 (fun c f g h=>
 D10 .lss f.c i fun i=>
 K2 i (
 U6 a1 f.c g fun _ b=>
 G3 (fun e g h i=>
 D10 .lss g.c f.c fun j=>
 K2 j (
 V4 (fun c=>
 V4 (fun b=>
 D10 .sub f.c i1 fun c=>
 D10 .eql g.c c fun c=>
 K3 false c (
 D10 .eql g.c i0 fun c=>
 K3 true c (
 R4 a1 0 h fun c=>
 D10 .sub c i1 fun c=>
 D10 .eql f.c c fun c=>
 b [c] h i) (
 b [bF] h i)) (
 b [bT] h i)) (fun e f h=>
 M2 (h+11) fun h=>
 M3 d b (some 32) 1 fun b=>
 J1 b none f fun d=>
 U6 a1 g.c f fun i j=>
 D10 .shr d j fun l=>
 D10 .and l u1 fun l=>
 D10 .eql l u1 fun l=>
 wK ((tB (cE i none f j))/\(tB (tB (cE b none f d)))) (
 V4 (fun b=>
 K3 true g.a (
 b [l] f h) (
 b [bF] f h)) (fun b d f=>
 K3 true g.b (
 D9 (.eqb false) [l,e.a] fun e=>
 c [b.a,e] d f) (
 c [b.a,bF] d f))))) (fun b c d=>
 D10 .add g.c i1 fun f=>
 e [b.a,b.b,f] c d)) (
 D10 .add f.c i1 fun b=>
 c [g.a,g.b,b] h i)) [f.a,f.b,i0] g h) (
 K2 f.a (
 J1 b (some 2) g fun b=>
 Y2 gQ 90 [b,e.a] g h fun b c d=>
 G9 b 0 fun _=>
 G9 b 1 fun b=>
 wUn .not b fun b=>
 Rt b c d k) (
 Rt f.b g h k))) [f,h,i0] c g)) [u0,i0] d e)
def F59:Prop:=
 M12 a0 H nx fun b c d=>
 V4 (fun e=>
 J1 b (some 2) c fun b=>
 Y2 gQ 33 [b,a1] c d fun b c d=>
 D10 .neq b i0 fun b=>
 K3 false b (
 R4 a2 0 c fun b=>
 D10 .lss b (.int .i64 3) fun b=>
 e [b] c d) (
 e [bT] c d)) (fun c d e=>
 K2 c.a (
 Rt bF d e k) (
 R4 a2 0 d fun c=>
 G3 (fun d e f g=>
 D10 .lss e.b c fun c=>
 K2 c (
 U6 a2 e.b f fun _ c=>
 V4 (fun d=>
 D10 .lss c i0 fun h=>
 K3 false h (
 K7 b 0 f fun _ b=>
 D10 .geq c b fun b=>
 K3 false b (
 D10 .shr e.a c fun b=>
 D10 .and b u1 fun b=>
 D10 .eql b u1 fun b=>
 d [b] f g) (
 d [bT] f g)) (
 d [bT] f g)) (fun b f g=>
 K2 b.a (
 Rt bF f g k) (
 D10 .shl u1 c fun b=>
 D10 .or e.a b fun b=>
 D10 .add e.b i1 fun c=>
 d [b,c] f g))) (
 J1 b (some 2) f fun b=>
 Y2 gQ 34 [b] f g fun b c d=>
 wAl z32 c d fun c d e=>
 D5 c b 32 d fun b=>
 R4 a2 0 b fun d=>
 G3 (fun b e f g=>
 D10 .lss e.a d fun d=>
 K2 d (
 U6 a2 e.a f fun _ d=>
 V4 (fun b=>
 D10 .eql e.a i0 fun c=>
 K3 false c (
 R4 a2 0 f fun c=>
 D10 .sub c i1 fun c=>
 D10 .eql e.a c fun c=>
 b [c] f g) (
 b [bT] f g)) (fun f g h=>
 D10 .lss d a1 fun i=>
 D9 (.eqb true) [f.a,i] fun f=>
 K2 f (
 Rt bF g h k) (
 G3 (fun f g h i=>
 D10 .lss g.a e.a fun j=>
 K2 j (
 M2 (i+11) fun b=>
 M3 c d (some 32) 1 fun c=>
 J1 c none h fun d=>
 U6 a2 g.a h fun i j=>
 D10 .shr d j fun l=>
 D10 .and l u1 fun l=>
 D10 .eql l u1 fun l=>
 wK ((tB (cE i none h j))/\(tB (tB (cE c none h d)))) (
 D10 .sub e.a i1 fun c=>
 D10 .eql g.a c fun c=>
 D9 (.eqb true) [l,c] fun c=>
 K2 c (
 Rt bF h b k) (
 D10 .add g.a i1 fun c=>
 f [c] h b))) (
 D10 .add e.a i1 fun c=>
 b [c] h i)) [i0] g h))) (
 Rt bT f g k)) [i0] b e)) [u0,i0] d e))
def F60:Prop:=
 M12 a0 H nx fun b c d=>
 M12 a2 c d fun c d e=>
 V4 (fun f=>
 J1 b (some 2) d fun b=>
 Y2 gQ 74 [b,a1] d e fun b d e=>
 wUn .not b fun b=>
 K3 false b (
 M3 c i0 (some 3) 1 fun b=>
 J1 b none d fun b=>
 D10 .lss b i0 fun b=>
 K3 false b (
 M3 c i0 (some 3) 1 fun b=>
 J1 b none d fun b=>
 M3 c i1 (some 3) 1 fun g=>
 J1 g none d fun g=>
 D10 .geq b g fun b=>
 K3 false b (
 M3 c i1 (some 3) 1 fun b=>
 J1 b none d fun b=>
 M3 c (.int .i64 2) (some 3) 1 fun g=>
 J1 g none d fun g=>
 D10 .geq b g fun b=>
 K3 false b (
 M3 c (.int .i64 2) (some 3) 1 fun b=>
 J1 b none d fun b=>
 D10 .geq b a1 fun b=>
 f [b] d e) (
 f [bT] d e)) (
 f [bT] d e)) (
 f [bT] d e)) (
 f [bT] d e)) (fun d e f=>
 K2 d.a (
 Rt bF e f k) (
 M2 (f+8) fun d=>
 M3 c i0 (some 3) 1 fun f=>
 J1 f none e fun g=>
 D10 .shl u1 g fun h=>
 M3 c i1 (some 3) 1 fun i=>
 J1 i none e fun j=>
 D10 .shl u1 j fun l=>
 D10 .or h l fun h=>
 wK ((tB (cE i none e j))/\(tB (tB (cE f none e g)))) (
 J1 b (some 2) e fun f=>
 M3 c (.int .i64 2) (some 3) 1 fun g=>
 J1 g none e fun g=>
 Y2 gQ 70 [f,g] e d fun d e f=>
 D10 .and d h fun d=>
 D10 .eql d h fun d=>
 K3 true d (
 J1 b (some 2) e fun b=>
 M3 c i0 (some 3) 1 fun c=>
 J1 c none e fun c=>
 Y2 gQ 70 [b,c] e f fun b c d=>
 D10 .and b h fun b=>
 D10 .eql b u0 fun b=>
 Rt b c d k) (
 Rt bF e f k))))
def F57:Prop:=
 M12 a0 H nx fun b c d=>
 J1 b (some 2) c fun e=>
 Y2 gQ 76 [e,a1,a2] c d fun c d e=>
 G9 c 0 fun f=>
 G9 c 1 fun c=>
 D10 .neq c i0 fun c=>
 K2 c (
 Rt bF d e k) (
 R4 f 0 d fun c=>
 G3 (fun d e g h=>
 D10 .lss e.a c fun c=>
 K2 c (
 B15 f e.a 3 g fun _ c=>
 wAl [.int .i64 0,.int .u32 0,.int .i64 0] g h fun f g h=>
 D5 f c 3 g fun c=>
 M2 (h+9) fun g=>
 J1 b (some 2) c fun h=>
 J1 f (some 3) c fun i=>
 Y2 gQ 78 [i] c g fun g j l=>
 Y2 gQ 90 [h,g] j l fun g l m=>
 G9 g 0 fun _=>
 G9 g 1 fun g=>
 wK ((tA (tA (tB (cE f (some 3) c i))))/\(tB (tA ((cE b (some 2) j h)/\(tB (cE b (some 2) c h)))))) (
 wUn .not g fun b=>
 K2 b (
 Rt bF l m k) (
 D10 .add e.a i1 fun b=>
 d [b] l m))) (
 Rt bT g h k)) [i0] d e)
def F9:Prop:=
 M12 a0 H nx fun b c d=>
 K7 b 1 c fun _ e=>
 R4 e 0 c fun e=>
 D10 .leq e (.int .i64 8) fun e=>
 K3 true e (
 K7 b 0 c fun _ e=>
 D10 .leq e (.int .i64 6) fun e=>
 K3 false e (
 K7 b 0 c fun _ e=>
 D10 .gtr e (.int .i64 32) fun e=>
 K3 true e (
 K7 b 0 c fun _ b=>
 D10 .sub b a1 fun b=>
 D10 .leq b (.int .i64 4) fun b=>
 K3 false b (
 D10 .lss a1 i0 fun b=>
 Rt b c d k) (
 Rt bT c d k)) (
 Rt bF c d k)) (
 K7 b 0 c fun _ b=>
 D10 .sub b a1 fun b=>
 D10 .leq b (.int .i64 4) fun b=>
 K3 false b (
 D10 .lss a1 i0 fun b=>
 Rt b c d k) (
 Rt bT c d k))) (
 Rt bF c d k)
variable {a0 a1 a2 H nx k}
theorem spec88:F88 a0 a1 H nx k->Q2 gQ 88 [a0,a1] H nx k:=Q12 [] [[8]] []
theorem spec58:F58 a0 a1 H nx k->Q2 gQ 58 [a0,a1] H nx k:=Q12 [(12,[41]),(25,[9,10]),(27,[14]),(29,[9])] [[5,23],[9,10,57],[9,10,63]] [.one (.tst (.one (.tst (.one .nil) (.one .nil))) (.one (.one (.one .nil)))),.one (.tst (.tst (.one (.one .nil)) (.one (.one .nil))) (.one (.one (.one .nil)))),.one (.tst (.one .nil) (.one .nil)),.one (.tst (.one .nil) (.one .nil))]
theorem spec59:F59 a0 a1 a2 H nx k->Q2 gQ 59 [a0,a1,a2] H nx k:=Q12 [(2,[24]),(12,[45]),(21,[13])] [[7,27],[55],[75]] [.one (.tst (.one .nil) (.one .nil)),.one (.tst (.one (.tst (.one .nil) (.one .nil))) (.one (.one (.one .nil)))),.one (.tst (.one .nil) (.one .nil))]
theorem spec60:F60 a0 a1 a2 H nx k->Q2 gQ 60 [a0,a1,a2] H nx k:=Q12 [(2,[36])] [] [.one (.tst (.one (.tst (.one (.tst (.one (.tst (.one .nil) (.one .nil))) (.one (.one (.one .nil))))) (.one (.one (.one (.one (.one .nil))))))) (.one (.one (.one (.one (.one (.one (.one .nil)))))))),.one (.tst (.one .nil) (.one .nil))]
theorem spec57:F57 a0 a1 a2 H nx k->Q2 gQ 57 [a0,a1,a2] H nx k:=Q12 [] [[24]] []
theorem spec9:F9 a0 a1 H nx k->Q2 gQ 9 [a0,a1] H nx k:=Q12 [] [] [.one (.tst (.tst (.one (.one (.tst (.tst (.one (.one .nil)) (.one (.one .nil))) (.one (.one (.one .nil)))))) (.one (.one (.one (.tst (.one (.one .nil)) (.one (.one .nil))))))) (.one (.one (.one (.one (.one (.one (.one .nil))))))))]
end
theorem C69{n:Nat}(h:n<18446744073709551616):IntKind.u64.wrap (n:Int)=n:=by
 simp only[eY,eK,dW];simp;omega
theorem Z10{n:Nat}(h:n<18446744073709551616)(K:IntKind)(k:VP):W8 .u64 (.int K (n:Int)) k=k (.int .u64 (n:Int)):=by rw[Z32,C69 h]
theorem C108(a b:Int)(k:VP):D9 (.mm true) [O8 a,O8 b] k=k (O8 (if b > a then b else a)):=by
 unfold D9;rw[J8];rfl
theorem J72(neg a b:Bool)(k:VP):D9 (.eqb neg) [.bool a,.bool b] k=k (.bool (cond neg (!(a==b)) (a==b))):=by
 unfold D9;rw[J8];rfl
def R10(es:List Nat)(s:Nat):Bool:=es.any fun e=>decide (Z2 s e=0)
theorem N63{es:List Nat}{s e:Nat}(he:e ∈ es)(h:Z2 s e=0):R10 es s=true:=by
 unfold R10;rw[dY];exact⟨e,he,by simp[h]⟩
theorem N66{es:List Nat}{s:Nat}(h:∀(j e:Nat),j<es.length->es[j]? = some e->Z2 s e≠0):R10 es s=false:=by
 unfold R10;rw[List.any_eq_false];intro e he;obtain⟨i,hi,rfl⟩:=gL he;have:=h i _ hi (aE hi);simp[this]
theorem M32(e s:Nat):e &&& s=s<->Z2 s e=0:=by
 constructor
 .intro h
  apply bZ;intro i;have:=congrArg (fun x=>x.testBit i) h;simp only[bI] at this;rw[N1,jQ]
  revert this
  cases s.testBit i<;>cases e.testBit i<;>simp
 .intro h
  apply bZ;intro i;have:=congrArg (fun x=>x.testBit i) h;simp only[N1,jQ] at this;rw[bI]
  revert this
  cases s.testBit i<;>cases e.testBit i<;>simp
theorem G63{α:Type}{l:List α}(h:l.Nodup){i j:Nat}{x:α}(hi:l[i]? = some x)(hj:l[j]? = some x):i=j:=by
 have h1:=(aJ.1 hi).1;have h2:=(aJ.1 hj).1;rcases Nat.lt_trichotomy i j with hl | he | hg
 .have:=(fD.mp h) i j h1 h2 hl
  exact absurd (by rw[(aJ.mp hi).2,(aJ.mp hj).2]) this
 .exact he
 .have:=(fD.mp h) j i h2 h1 hg
  exact absurd (by rw[(aJ.mp hi).2,(aJ.mp hj).2]) this
theorem W53{s w:Nat}(E:s<4294967296)(hw:w<32)(H:Y0)(nx:Nat):Q2 gQ 55 [.int .u32 (s:Int),.int .i64 (w:Int)] H nx (Z56 (.bool (s.testBit w)) H nx):=by
 refine spec55 ?_;unfold F55;have h1:(w:Int) ≥ 0:=O0;have h2:(w:Int)<32:=O0;simp(disch:=try exact O4)only[W0,h1,h2,Z10];exact⟨rfl,rfl,rfl⟩
theorem B45{s:Nat}(a2:s<4294967296)(A:Option Addr)(es:List Nat)(cap:Nat)(H:Y0)(nx:Nat)(hS:Sl H nx A (K12 es))(W:U14 es)(a1:es.length<=64):
  Q2 gQ 62 [.slice A es.length cap,O9 (s:Int)] H nx fun r H' nx'=>r = .bool (R10 es s || decide (s=0))/\H=H'/\nx=nx':=by
 refine spec62 ?_;unfold F62;refine B1 (m:=es.length) (fun m L H' nx'=>∃ i:Nat,m+i=es.length/\L=[O8 (i:Int)]/\(∀(j e:Nat),j<i->es[j]? = some e->Z2 s e≠0)/\H=H'/\nx=nx') ?_ ⟨0,rfl,rfl,fun j e h=>O0,rfl,rfl⟩;rintro m ih L _ _ ⟨i,hm,rfl,Q,rfl,rfl⟩ Z;simp(disch:=omega)only[W0]
 by_cases hi:i<es.length
 .have E:(i:Int)<(es.length:Int):=O0
  obtain⟨e,he⟩:∃ e,es[i]? = some e:=⟨_,aE hi⟩
  obtain⟨b,o,row,rfl,hb,J,U⟩:=hS.open (i:=i) (by rw[E1];omega);have a0:=W.get he;have g0:=U _ _ (Q3 he)
  by_cases h:Z2 s e=0
  .have d:decide (((e &&& s:Nat):Int)=(s:Int))=true:=by
    have:=(M32 e s).2 h;simp only[decide_eq_true_eq];omega
   simp(disch:=omega)only[W0,E,X3 J,g0,d];rw[N63 (aH he) h];rfl
  .have d:decide (((e &&& s:Nat):Int)=(s:Int))=false:=by
    have:¬ (e &&& s=s):=fun q=>h ((M32 e s).1 q)
    simp only[decide_eq_false_iff_not];omega
   simp(disch:=omega)only[W0,E,X3 J,g0,d];refine Z (m-1) _ _ _ O0 ⟨i+1,O0,O2,fun j e' hj O => ?_,rfl,rfl⟩
   by_cases V:j=i
   .subst V;rw[he] at O;cases O;exact h
   .exact Q j e' O0 O
 .have E:¬ (i:Int)<(es.length:Int):=O0
  simp only[W0,E];rw[N66 fun j e hj he=>Q j e O0 he];rfl
theorem W111(f:Value)(p:Nat->Bool)(A:Option Addr)(es:List Nat)(cap:Nat)(H:Y0)(nx:Nat)(hS:Sl H nx A (K12 es))(Z:es.length<=64)(hf:∀ e ∈ es,∀ k:EP,k (.bool (p e)) H nx->M33 gQ f [O9 (e:Int)] H nx k):
  Q2 gQ 88 [.slice A es.length cap,f] H nx fun r H' nx'=>(∃ x:Int,r=O8 x/\(0<=x<->es.any p=true))/\H=H'/\nx=nx':=by
 refine spec88 ?_;unfold F88;simp only[W0];refine B1 (m:=es.length) (fun m L H' nx'=>∃ i:Nat,m+i=es.length/\L=[O8 (i:Int)]/\(∀(j e:Nat),j<i->es[j]? = some e->p e=false)/\H=H'/\nx=nx') ?_ ⟨0,rfl,rfl,fun j e h=>O0,rfl,rfl⟩;rintro m ih L _ _ ⟨i,hm,rfl,O,rfl,rfl⟩ W;simp(disch:=omega)only[W0]
 by_cases hi:i<es.length
 .have E:(i:Int)<(es.length:Int):=O0
  obtain⟨e,he⟩:∃ e,es[i]? = some e:=⟨_,aE hi⟩
  obtain⟨b,o,row,rfl,hb,U,Q⟩:=hS.open (i:=i) (by rw[E1];omega);have g0:=Q _ _ (Q3 he);simp(disch:=omega)only[W0,E,X3 U,g0];refine hf e (aH he) _ ?_
  cases hp:p e with
  | true=>
   simp only[W0];refine⟨_,rfl,⟨fun _ => ?_,fun _=>O0⟩⟩;rw[dY];exact⟨e,aH he,hp⟩
  | false=>
   simp only[W0];refine W (m-1) _ _ _ O0 ⟨i+1,O0,O2,fun j e' hj J => ?_,rfl,rfl⟩
   by_cases V:j=i
   .subst V;rw[he] at J;cases J;exact hp
   .exact O j e' O0 J
 .have E:¬ (i:Int)<(es.length:Int):=O0
  simp only[W0,E];refine⟨_,rfl,⟨fun h=>O0,fun h => ?_⟩⟩;rw[dY] at h;obtain⟨e,he,hp⟩:=h;obtain⟨j,hj,rfl⟩:=gL he;rw[O j _ O0 (aE hj)] at hp
  cases hp
theorem W78{e s q:Nat}(he:e<4294967296)(E:s<4294967296)(H:Y0)(nx:Nat)(hg:J0 H q=O7 [O9 (s:Int)]):
  Q2 gQ 106 [O9 (e:Int),.pointer (some ⟨q,0,none⟩)] H nx (Z56 (.bool (decide (Z2 s e=0))) H nx):=by
 refine spec106 ?_;unfold F106;simp(disch:=omega)only[W0,hg];exact⟨rfl,rfl,rfl⟩
theorem Z106{n s:Nat}(hn:n<=32)(U:s<4294967296)(A:Option Addr)(es:List Nat)(cap:Nat)(H:Y0)(nx:Nat)(hS:Sl H nx A (K12 es))(O:U14 es)(Q:es.length<=64)(V:N3 n es=0):
  Q2 gQ 90 [gv n A es.length cap,O9 (s:Int)] H nx fun r H' nx'=>(∃ x:Int,r = .tuple ⟨[O8 x,.bool (R10 es s)]⟩)/\D0 H nx H' nx':=by
 refine spec90 ?_;unfold F90;simp(disch:=omega)only[W0,Z0,Q0.val,C13];generalize hK:hs (hs H nx (O7 [O8 n,.slice A es.length cap])) (nx+1) (O7 [O9 (s:Int)])=K;have kG:J0 K nx=O7 [O8 n,.slice A es.length cap]:=by rw[<- hK,gN _,Z11]
 have kS:J0 K (nx+1)=O7 [O9 (s:Int)]:=by rw[<- hK,Z11]
 have J:D0 H nx K (nx+1+1):=by
  rw[<- hK];exact(((D0.refl H nx).nw _:D0 H nx _ (nx+1)).nw _)
 refine R0 (N11 n A es cap _ _ (hS.ext J) O) ?_;rintro _ H2 nx2 ⟨rfl,E⟩;have d1:decide (N3 n es≠0)=false:=by simp[V]
 have g2:=(E.gt nx).trans kG;have s2:=(E.gt (nx+1)).trans kS;simp only[W0,d1,g2];refine R0 (W111 _ (fun e=>decide (Z2 s e=0)) A es cap _ _ (hS.ext (J.trans E)) Q fun e he k hk=>V22 (W78 (O e he) U _ _ s2) ?_) ?_
 .rintro _ _ _ ⟨rfl,rfl,rfl⟩
  exact hk
 rintro _ _ _ ⟨⟨x,rfl,hx⟩,rfl,rfl⟩;have e1:decide (x ≥ 0)=R10 es s:=by
  rw[eX,decide_eq_true_eq];exact hx
 simp only[W0,C108,e1];exact⟨⟨_,rfl⟩,J.trans E⟩
end Go.Proofs.YtoiioigihocgbaaGreatDoor
namespace Go.Clo
def gr(x y:Rat):Rat:=if x<y then y else x
theorem E78{x y:Rat}{L:Nat}(hx:U15 x L)(hy:U15 y L):U15 (gr x y) L:=by unfold gr;split<;>assumption
theorem NN.boxm{H:Y0}{nx i n c:Nat}{v:Value}{es:List MapEntry}{b:Option V3}(h:NN H nx v n)(hg:J0 H i=some (.map es c)):NN (hs H i b) nx v n:=by
 obtain⟨A,c,rfl,hD⟩:=h;refine⟨A,c,rfl,?_,?_,hD.small,hD.le⟩
 .intro j x hx
  obtain⟨b,o,E,e1,e2,e3,e4⟩:=hD.sl j x hx;have hb:b≠i:=by
   rintro rfl;rw[Q5,hg] at e3;cases e3
  exact⟨b,o,E,e1,e2,by rw[Q5,Z1 _ hb];exact e3,e4⟩
 .rcases hD.sk with e | ⟨b,o,E,e1,e2,e3⟩
  .exact .inl e
  .have hb:b≠i:=by
    rintro rfl;rw[hg] at e3;rcases e3 with e3 | ⟨_,_,e3⟩<;>cases e3
   exact .inr ⟨b,o,E,e1,e2,by rw[Z1 _ hb];exact e3⟩
theorem RR.boxm{H:Y0}{nx i c:Nat}{v:Value}{x:Rat}{es:List MapEntry}{b:Option V3}(h:RR H nx v x)(hg:J0 H i=some (.map es c)):RR (hs H i b) nx v x:=
 let ⟨a,b,h1,h2,h3⟩:=h;⟨a,b,h1,NN.boxm h2 hg,NN.boxm h3 hg⟩
structure Kp (H:Y0) (nx p q:Nat) (H':Y0) (nx':Nat):Prop where
 le:nx<=nx'
 get:∀ x,x<nx->x≠p->x≠q->J0 H' x=J0 H x
theorem Kp.trans{H:Y0}{nx p q:Nat}{H1:Y0}{n1:Nat}{H2:Y0}{n2:Nat}(a:Kp H nx p q H1 n1)(b:Kp H1 n1 p q H2 n2):Kp H nx p q H2 n2:=
 ⟨bK a.le b.le,fun x h1 h2 h3=>(b.get x (aO h1 a.le) h2 h3).trans (a.get x h1 h2 h3)⟩
theorem D0.kp{H:Y0}{nx p q:Nat}{H':Y0}{nx':Nat}(e:D0 H nx H' nx'):Kp H nx p q H' nx':=⟨e.le,fun x h _ _=>e.get x h⟩
theorem Kp.hs{H:Y0}{nx p q:Nat}{H':Y0}{nx' i:Nat}{b:Option V3}(a:Kp H nx p q H' nx')(hi:nx<=i\/i=p\/i=q):Kp H nx p q (Go.Clo.hs H' i b) nx':=
 ⟨a.le,fun x h1 h2 h3=>by rw[gN _];exact a.get x h1 h2 h3⟩
theorem Kp.more{H:Y0}{nx p q:Nat}{H':Y0}{nx' m:Nat}(a:Kp H nx p q H' nx')(h:nx'<=m):Kp H nx p q H' m:=⟨bK a.le h,a.get⟩
def X51(H:Y0)(r:Nat):Prop:=∃ es c,J0 H r=some (.map es c)
theorem U29.is{H:Y0}{r:Nat}{M:Nat->Option Value}(h:U29 H r M):X51 H r:=let ⟨es,c,h1,_⟩:=h;⟨es,c,h1⟩
theorem X51.ne{H:Y0}{r b:Nat}(h:X51 H r){row:List Value}(hr:Q5 H b=some row):b≠r:=by
 rintro rfl;obtain⟨es,c,h1⟩:=h;rw[Q5,h1] at hr;cases hr
theorem NN.kp{H:Y0}{nx n p q:Nat}{v:Value}{H':Y0}{nx':Nat}(h:NN H nx v n)(e:Kp H nx p q H' nx')(hp:X51 H p)(hq:X51 H q):NN H' nx' v n:=by
 obtain⟨A,c,rfl,hD⟩:=h;refine⟨A,c,rfl,?_,?_,hD.small,hD.le⟩
 .intro j x hx
  obtain⟨b,o,E,e1,e2,e3,e4⟩:=hD.sl j x hx;refine⟨b,o,E,e1,aO e2 e.le,?_,e4⟩;unfold Q5;rw[e.get b e2 (hp.ne e3) (hq.ne e3)];exact e3
 .rcases hD.sk with h0 | ⟨b,o,E,e1,e2,e3⟩
  .exact .inl h0
  .have hr:∃ row,Q5 H b=some row:=by
    rcases e3 with h1 | ⟨_,_,h1⟩<;>exact⟨_,by rw[Q5,h1];rfl⟩
   obtain⟨row,hr⟩:=hr;exact .inr ⟨b,o,E,e1,aO e2 e.le,by rw[e.get b e2 (hp.ne hr) (hq.ne hr)];exact e3⟩
theorem RR.kp{H:Y0}{nx p q:Nat}{v:Value}{x:Rat}{H':Y0}{nx':Nat}(h:RR H nx v x)(e:Kp H nx p q H' nx')(hp:X51 H p)(hq:X51 H q):RR H' nx' v x:=
 let ⟨a,b,h1,h2,h3⟩:=h;⟨a,b,h1,h2.kp e hp hq,h3.kp e hp hq⟩
theorem Sl.kp{H:Y0}{nx p q:Nat}{A:Option Addr}{l:List Value}{H':Y0}{nx':Nat}(h:Sl H nx A l)(e:Kp H nx p q H' nx')(hp:X51 H p)(hq:X51 H q):Sl H' nx' A l:=by
 intro i v hv;obtain⟨b,o,row,e1,e2,e3,e4⟩:=h i v hv;refine⟨b,o,row,e1,aO e2 e.le,?_,e4⟩;unfold Q5;rw[e.get b e2 (hp.ne e3) (hq.ne e3)];exact e3
end Go.Clo
namespace Go.Proofs.YtoiioigihocgbaaGreatDoor
open Go.Clo
def Y74(es:List Nat)(N set:Nat):Rat:=if R10 es set then 1 else D73 es N set
theorem B109{x:Rat}(h:Lp.Sz (2^Lp.expN 8) x):U15 x 100000:=R87 h (by decide)
theorem Z100(es:List Nat)(N set:Nat)(h:es.length<=8):U15 (D73 es N set) 100000:=by
 have hm:(D16 es set).length<=8:=by have:=X79 set es [];simp[D16] at this ⊢;omega
 exact B109 ((Lp.tabK_sz hm (aD _)).2 _ O0)
def E75(N:Nat)(A:Option Addr)(len cap:Nat)(nb:List Nat)(rc rl:Nat):List Value := .int .i64 (N:Int) :: .slice A len cap :: (K12 nb++[.map (some rc),.map (some rl)])
theorem J107{N:Nat}{A:Option Addr}{len cap rc rl:Nat}{nb:List Nat}(h:nb.length=32):(E75 N A len cap nb rc rl)[34]? = some (.map (some rc)):=by
 unfold E75;rw[dK,dK,bS (by rw[E1];omega),E1,h];rfl
theorem Z97{N:Nat}{A:Option Addr}{len cap rc rl:Nat}{nb:List Nat}(h:nb.length=32):(E75 N A len cap nb rc rl)[35]? = some (.map (some rl)):=by
 unfold E75;rw[dK,dK,bS (by rw[E1];omega),E1,h];rfl
theorem U108{N:Nat}{A:Option Addr}{len cap rc rl u x:Nat}{nb:List Nat}(h:nb[u]? = some x):(E75 N A len cap nb rc rl)[2+u]? = some (O9 (x:Int)):=by
 unfold E75;rw[show 2+u=u+1+1 by omega,dK,dK,bQ (by rw[E1];exact(aJ.1 h).1)];exact Q3 h
structure SV (H:Y0) (nx p rc rl N:Nat) (A:Option Addr) (cap:Nat) (es nb:List Nat) (L:Nat->Rat):Prop where
 hp:J0 H p=some (.cells (E75 N A es.length cap nb rc rl) 0)
 pn:p<nx
 rcn:rc<nx
 rln:rl<nx
 nbl:nb.length=32
 es':Sl H nx A (K12 es)
 cm:∃ M,U29 H rc M/\∀ n v,M n=some v->RR H nx v (D73 es N n)
 lm:∃ M,U29 H rl M/\∀ n v,M n=some v->RR H nx v (L n)
 ne:rc≠rl
theorem SV.pc{H:Y0}{nx p rc rl N:Nat}{A:Option Addr}{cap:Nat}{es nb:List Nat}{L:Nat->Rat}(h:SV H nx p rc rl N A cap es nb L):p≠rc:=by
 obtain⟨M,h1,_⟩:=h.cm;exact h1.is.ne (row:=E75 N A es.length cap nb rc rl) (by rw[Q5,h.hp];rfl)
theorem SV.pl{H:Y0}{nx p rc rl N:Nat}{A:Option Addr}{cap:Nat}{es nb:List Nat}{L:Nat->Rat}(h:SV H nx p rc rl N A cap es nb L):p≠rl:=by
 obtain⟨M,h1,_⟩:=h.lm;exact h1.is.ne (row:=E75 N A es.length cap nb rc rl) (by rw[Q5,h.hp];rfl)
theorem SV.ic{H:Y0}{nx p rc rl N:Nat}{A:Option Addr}{cap:Nat}{es nb:List Nat}{L:Nat->Rat}(h:SV H nx p rc rl N A cap es nb L):X51 H rc:=let ⟨_,h1,_⟩:=h.cm;h1.is
theorem SV.il{H:Y0}{nx p rc rl N:Nat}{A:Option Addr}{cap:Nat}{es nb:List Nat}{L:Nat->Rat}(h:SV H nx p rc rl N A cap es nb L):X51 H rl:=let ⟨_,h1,_⟩:=h.lm;h1.is
theorem SV.ext{H:Y0}{nx p rc rl N:Nat}{A:Option Addr}{cap:Nat}{es nb:List Nat}{L:Nat->Rat}{H':Y0}{nx':Nat}(h:SV H nx p rc rl N A cap es nb L)(e:D0 H nx H' nx'):SV H' nx' p rc rl N A cap es nb L:=by
 have:=e.le;have h1:=h.pn;have h2:=h.rcn;have h3:=h.rln;refine⟨(e.get p h1).trans h.hp,O0,O0,O0,h.nbl,h.es'.ext e,?_,?_,h.ne⟩
 .obtain⟨M,a,b⟩:=h.cm
  exact⟨M,a.ext h2 e,fun n v hv=>(b n v hv).ext e⟩
 .obtain⟨M,a,b⟩:=h.lm
  exact⟨M,a.ext h3 e,fun n v hv=>(b n v hv).ext e⟩
theorem G82{v w:Value}{x y:Rat}{H:Y0}{nx:Nat}(hv:RR H nx v x)(hw:RR H nx w y)(hx:U15 x 100000)(hy:U15 y 100000):
  Q2 gQ 47 [v,w] H nx fun r H' nx'=>RR H' nx' r (gr x y)/\D0 H nx H' nx':=by
 obtain⟨c,rfl,hc⟩:=hv.num;obtain⟨d,rfl,hd⟩:=hw.num;refine spec47 ?_;unfold F47;have V:D0 H nx (hs (hs (hs H nx (O7 c)) (nx+1) (O7 d)) (nx+1+1) (O7 [.bool false,O6,O6])) (nx+1+1+1):=
  (((D0.refl _ _).nw _ (m:=nx+1)).nw _ (m:=nx+1+1)).nw _
 have g1:J0 (hs (hs (hs H nx (O7 c)) (nx+1) (O7 d)) (nx+1+1) (O7 [.bool false,O6,O6])) nx=O7 c:=by
  rw[gN _,gN _,Z11]
 have g2:J0 (hs (hs (hs H nx (O7 c)) (nx+1) (O7 d)) (nx+1+1) (O7 [.bool false,O6,O6])) (nx+1)=O7 d:=by
  rw[gN _,Z11]
 have g3:J0 (hs (hs (hs H nx (O7 c)) (nx+1) (O7 d)) (nx+1+1) (O7 [.bool false,O6,O6])) (nx+1+1)=O7 [.bool false,O6,O6]:=Z11 _ _ _;simp(disch:=omega)only[W0,Q0.val,hc.one,hd.one,X15 hc,X15 hd];generalize hs (hs (hs H nx (O7 c)) (nx+1) (O7 d)) (nx+1+1) (O7 [.bool false,O6,O6])=H3 at *
 refine R0 (X81 (hv.ext V) (hw.ext V) hx hy) ?_;rintro _ H4 a4 ⟨rfl,Q⟩;have a3:=Q.le;have E:=V.trans Q;have a0:=(Q.gt nx).trans g1;have a1:=(Q.gt (nx+1)).trans g2;have W:=(Q.gt (nx+1+1)).trans g3;have Z:∀ {z:Rat},U15 z 100000->U15 z 400000:=fun h=>⟨by have:=h.1;omega,by have:=h.2;omega⟩
 by_cases U:x<y
 .have hl:=D77.2 U
  simp only[W0,hl,a1,X15 hd];refine R0 (E71 (hw.ext E) (Z hy)) ?_;rintro r H5 a2 ⟨hr,O⟩;have J:=(O.gt (nx+1+1)).trans W;obtain⟨e,rfl,he⟩:=hr.num;simp only[W0,Nat.reduceAdd,he.three,he.one,J,G24 (show e.length=[dU false,O6,O6].length from he.three),X15 he];refine⟨?_,(E.trans O).h0⟩;unfold gr;rw[if_pos U];exact hr.boxs J (U47 rfl) (.inl rfl)
 .have hl:¬ N70 x y<0:=fun h=>U (D77.1 h)
  simp only[W0,hl,a0,X15 hc];refine R0 (E71 (hv.ext E) (Z hx)) ?_;rintro r H5 a2 ⟨hr,O⟩;have J:=(O.gt (nx+1+1)).trans W;obtain⟨e,rfl,he⟩:=hr.num;simp only[W0,Nat.reduceAdd,he.three,he.one,J,G24 (show e.length=[dU false,O6,O6].length from he.three),X15 he];refine⟨?_,(E.trans O).h0⟩;unfold gr;rw[if_neg U];exact hr.boxs J (U47 rfl) (.inl rfl)
theorem M93(N:Nat)(A:Option Addr)(len cap:Nat)(nb:List Nat)(rc rl:Nat)(k:VP):B10 (E75 N A len cap nb rc rl) 0 (some 2) k=k (.agg ⟨[O8 (N:Int),.slice A len cap]⟩):=by
 rw[X21];simp[E75]
theorem E100(a b x y z:Value)(k:VP):B10 [a,b,x,y,z] 2 (some 3) k=k (.agg ⟨[x,y,z]⟩):=by
 rw[X21];simp
theorem Y87{H:Y0}{nx p rc rl N cap set:Nat}{A:Option Addr}{es nb:List Nat}{L:Nat->Rat}(h:SV H nx p rc rl N A cap es nb L)(hN:N<=8)(a8:∀ e ∈ es,e<2^N)(ax:es.length<=8)(ac:set<2^N)(b5:0<(V5 N set).length)(al:∀ v,set.testBit v=true->∃ e ∈ es,e.testBit v=true):
  Q2 gQ 77 [.pointer (some ⟨p,0,none⟩),O9 (set:Int)] H nx fun v H' nx'=>RR H' nx' v (Y74 es N set)/\SV H' nx' p rc rl N A cap es nb L/\Kp H nx rc rl H' nx':=by
 have bh:2^N<4294967296:=Y18 O0;have a1:set<4294967296:=O0;have a7:U14 es:=fun e he=>by have:=a8 e he;omega
 have ba:N3 N es=0:=V11 O0 O0 fun i e he=>a8 e (aH he)
 refine spec77 ?_;unfold F77;have ak:D0 H nx (hs H nx (O7 [.bool false,O6,O6])) (nx+1):=(D0.refl _ _).nw _;have g1:J0 (hs H nx (O7 [.bool false,O6,O6])) nx=O7 [.bool false,O6,O6]:=Z11 _ _ _;have h1:=h.ext ak;simp only[W0,Q0.val,h1.hp,M93];generalize hs H nx (O7 [.bool false,O6,O6])=H1 at *
 refine R0 (Z106 O0 a1 A es cap _ _ h1.es' a7 O0 ba) ?_;rintro _ H2 nx2 ⟨⟨x,rfl⟩,aa⟩;have bo:=aa.le;have J:=ak.trans aa;have h2:=h.ext J;have g2:=(aa.gt nx).trans g1
 cases aj:R10 es set with
 | true=>
  simp only[W0];refine R0 (R73 (n:=1) O0 O0 _ _) ?_;rintro r H3 bu ⟨hr,ad⟩;obtain⟨c,rfl,hc⟩:=hr.num;have g3:=(ad.gt nx).trans g2;simp only[W0,Nat.reduceAdd,hc.three,hc.one,g3,G24 (show c.length=[dU false,O6,O6].length from hc.three),X15 hc];have hE:=(J.trans ad).hs (i:=nx) (b:=O7 c) (aD _);refine⟨?_,h.ext hE,hE.kp⟩;unfold Y74;rw[if_pos aj];exact hr.boxs g3 (U47 rfl) (.inl rfl)
 | false=>
  have ae:Y74 es N set=D73 es N set:=by unfold Y74;rw[if_neg (by simp[aj])]
  obtain⟨M,hM,b4⟩:=h2.cm;have W:=J107 (N:=N) (A:=A) (len:=es.length) (cap:=cap) (rc:=rc) (rl:=rl) h2.nbl
  cases hk:M set with
  | some v=>
   have hv:=b4 set v hk;obtain⟨c,rfl,hc⟩:=hv.num;simp(disch:=omega)only[W0,Nat.reduceAdd,h2.hp,W,hM.lkS hk,N13,hc.three,hc.one,G24 (show c.length=[dU false,O6,O6].length from hc.three),X15 hc,g2];have Z:D0 H2 nx2 (hs (hs H2 nx2 (O7 [.bool false,O6,O6])) nx2 (O7 c)) (nx2+1):=((D0.refl _ _).nw _ (m:=nx2+1)).nw _;have g6:=(Z.gt nx).trans g2;have hE:=(J.trans Z).hs (i:=nx) (b:=O7 c) (aD _);refine⟨?_,h.ext hE,hE.kp⟩;rw[ae];exact(hv.ext Z).boxs g6 (U47 rfl) (.inl rfl)
  | none=>
   have Z:D0 H2 nx2 (hs (hs H2 nx2 (O7 [.bool false,O6,O6])) nx2 (O7 [.bool false,O6,O6])) (nx2+1):=((D0.refl _ _).nw _ (m:=nx2+1)).nw _;have ay:J0 (hs (hs H2 nx2 (O7 [.bool false,O6,O6])) nx2 (O7 [.bool false,O6,O6])) nx2=O7 [.bool false,O6,O6]:=Z11 _ _ _;have h6:=h2.ext Z;simp only[W0,Z0,Nat.reduceAdd,h2.hp,W,hM.lkN hk,D7];generalize hs (hs H2 nx2 (O7 [.bool false,O6,O6])) nx2 (O7 [.bool false,O6,O6])=H6 at *
   simp only[W0,N13,h6.hp,M93];refine R0 (Z111 hN h6.es' a8 ax ac b5 al) ?_;rintro _ H8 E ⟨a9,AW,AP,lw,cw,lp,cp,t,Az,Cz,l,k,l',k',rfl,hz⟩;have bt:=a9.le;have ah:=(a9.gt nx2).trans ay;have a4:=Z.trans a9;have g8:=(a4.gt nx).trans g2;have a6:∀(a b c d e a' b' c' d' e':Value),B12 [a,b,c,d,e] 0 [a',b',c',d',e']=[a',b',c',d',e']:=fun _ _ _ _ _ _ _ _ _ _=>rfl
   have a0:D0 H8 E (hs (hs H8 E (O7 [O6,O6,.bool false,O6,O6])) E (O7 [.slice AW lw cw,.slice AP lp cp,.bool t,.slice Az l k,.slice Cz l' k'])) (E+1):=((D0.refl _ _).nw _ (m:=E+1)).nw _;have au:=(a0.gt nx2).trans ah;simp(disch:=omega)only[W0,Z0,Nat.reduceAdd,a6,E100,D7,ah,Y12];generalize hs (hs H8 E (O7 [O6,O6,.bool false,O6,O6])) E (O7 [.slice AW lw cw,.slice AP lp cp,.bool t,.slice Az l k,.slice Cz l' k'])=H10 at *
   have O:=a4.trans a0;have bz:=h2.ext O;have ag:=hz.ext a0;have c3:=(O.gt nx).trans g2;have U:D0 H2 nx2 (hs H10 nx2 (O7 [.bool t,.slice Az l k,.slice Cz l' k'])) (E+1):=O.h0;have a5:J0 (hs H10 nx2 (O7 [.bool t,.slice Az l k,.slice Cz l' k'])) nx2=O7 [.bool t,.slice Az l k,.slice Cz l' k']:=Z11 _ _ _;have a3:RR (hs H10 nx2 (O7 [.bool t,.slice Az l k,.slice Cz l' k'])) (E+1) (.agg ⟨[.bool t,.slice Az l k,.slice Cz l' k']⟩) (D73 es N set):=ag.boxs au (U47 rfl) (.inl rfl);have Q:=h2.ext U;have aw:=(U.gt nx).trans g2;generalize hs H10 nx2 (O7 [.bool t,.slice Az l k,.slice Cz l' k'])=H11 at *
   obtain⟨M',av,aq⟩:=Q.cm;obtain⟨ML,az,ap⟩:=Q.lm;have b8:=Q.pc;have bv:=Q.pl;have bg:=h2.rcn;have bw:=h.pn;have bd:=h.rcn;have bf:=h.rln;simp only[W0,Q.hp,W];refine av.put set _ fun a2 mc ai => ?_
   obtain⟨bk,bx,bc,_⟩:=av;have ao:J0 (hs H11 rc (some (.map a2 mc))) nx2=_:=(gN _).trans a5;have an:J0 (hs H11 rc (some (.map a2 mc))) nx=_:=(gN _).trans aw;simp only[W0,Z0,Nat.reduceAdd,ao,Y12,an,D7];have V:∀ {v:Value} {x:Rat},RR H11 (E+1) v x->RR (hs (hs H11 rc (some (.map a2 mc))) nx (O7 [.bool t,.slice Az l k,.slice Cz l' k'])) (E+1+7) v x:=fun hv=>
    ((hv.boxm bc).boxs an (U47 rfl) (.inl rfl)).ext (D0.sf)
   refine⟨by rw[ae];exact V a3,⟨?_,O0,O0,O0,h.nbl,?_,⟨_,ai.same (gN _),fun n v hv => ?_⟩,⟨ML,az.same ?_,fun n v hv=>V (ap n v hv)⟩,h.ne⟩,?_⟩
   .rw[gN _,Z1 _ b8];exact Q.hp
   .have b3:Kp H nx rc rl (hs (hs H11 rc (some (.map a2 mc))) nx (O7 [.bool t,.slice Az l k,.slice Cz l' k'])) (E+1+7):=((((J.trans U).kp).more O0).hs (.inr (.inl rfl))).hs (.inl (aD _))
    exact h.es'.kp b3 h.ic h.il
   .by_cases ab:n=set
    .subst ab
     simp only[if_true] at hv
     cases hv
     exact V a3
    .simp only[ab,if_false] at hv
     exact V (aq n v hv)
   .rw[gN _,Z1 _ (eT h.ne)]
   .exact((((J.trans U).kp).more O0).hs (.inr (.inl rfl))).hs (.inl (aD _))
end Go.Proofs.YtoiioigihocgbaaGreatDoor
namespace Go.Clo
def tz(x:Nat):Nat:=((aY 32).find? fun i=>x.testBit i).getD 32
end Go.Clo
namespace Go.Proofs.YtoiioigihocgbaaGreatDoor
section
open Go.RowKit Go.Shelf Go.Clo
attribute [local go_sem] Oper.semAt_some
def tzi(x:Nat):Nat:=(bits BinOp.and eW x (4294967296-x)*125613361%4294967296/134217728).toNat
theorem E70{x:Nat}(h0:0<x)(Q:x<64)(F:Fence)(n:Nat)(h:F.fn 73)(E:F.round=none)(w:World)(t:Nat)(hc:w.cell? ⟨0,tzi x,none⟩=some (.int .u8 (t:Int)))(ht:t<32):
  CallsIn F n gQ 73 #[.int .u32 (x:Int)] w fun e w'=>e = .returned (.int .i64 (t:Int))/\w'=w:=by
 have e1:eW.wrap (-(x:Int))=4294967296-(x:Int):=by
  simp only[eY,eK,dW];simp;omega
 have O:¬ (x:Int)=0:=O0;refine callsIn_of_wp Tryz.func73 rfl h ?_ E;simp only[Tryz.ntmps73,List.size_toArray,cV,List.length_nil,Nat.reduceAdd,Nat.reduceSub,Array.replicate_succ,Array.replicate_zero,List.push_toArray,List.append_toArray,eR,dL];have J:w.cell? ⟨0,(bits BinOp.and eW x (4294967296-x)*125613361%4294967296/134217728).toNat,none⟩=some (.int .u8 (t:Int)):=hc;have hw:IntKind.i64.wrap (t:Int)=(t:Int):=by
  simp only[eY,eK,dW];simp;omega
 gi_wp2
 go_ret
 exact⟨by simp[],rfl⟩
end
end Go.Proofs.YtoiioigihocgbaaGreatDoor
namespace Go.Clo
theorem M100{P:Program}{f:FuncId}{args:List Value}{v:Value}(hE:Enters P f)(ha:args.all M4=true)(hv:X7 v=true)(h:∀ w,GlW w->Calls P f args.toArray w fun e w'=>e = .returned v/\w'=w)(H:Y0)(nx:Nat):
  Q2 P f args H nx fun r H' nx'=>v=r/\H=H'/\nx=nx':=by
 refine⟨v,H,nx,⟨hE,fun F E w hh hl => ?_⟩,rfl,rfl,rfl⟩;have e:=J19 hl ha;subst e;refine(h w hh.gl.1).mono fun e w' ⟨he,hw⟩ => ?_
 subst hw;exact⟨v,F,he,C6 F v hv,N2.refl hh⟩
theorem N43:∀ x,x<64->0<x->x.testBit (tz x)=true/\tz x<6:=by decide
theorem V33{x:Nat}(h:x<64)(h0:0<x):x.testBit (tz x)=true:=(N43 x h h0).1
theorem B54{x N:Nat}(h:x<64)(h0:0<x)(hN:x<2^N):tz x<N:=by
 refine aI fun hn => ?_
 have h1:=V33 h h0;rw[dV (aO hN (aK (n:=2) O0 (show N<=tz x by omega)))] at h1
 cases h1
def Z65(nb:List Nat)(gone v:Nat):Nat->Nat->Nat->Nat
 | 0,r,_=>r
 | f+1,r,b=>if b=0 then r else
  if tz b=v\/gone.testBit (tz b)=true then Z65 nb gone v f (r ||| 2^tz b) (Z2 b (2^tz b) ||| Z2 (nb.getD (tz b) 0) (r ||| 2^tz b))
  else Z65 nb gone v f (r ||| 2^tz b) (Z2 b (2^tz b))
def C78(nb:List Nat)(N v comp left:Nat):Nat:=Z2 (Z65 nb (Z2 comp left) v N 0 (2^v)) (Z2 comp left)
theorem N50{N r u:Nat}(hu:u<N)(hr:r.testBit u=false):(V5 N (r ||| 2^u)).length=(V5 N r).length+1:=by
 induction N with
 | zero=>omega
 | succ N ih=>
  rw[N37,N37,aV,aR]
  by_cases e:u=N
  .subst e
   have h1:V5 u (r ||| 2^u)=V5 u r:=by
    unfold V5;apply List.filter_congr;intro v hv;have:v<u:=cW.1 hv;rw[aV,aR];simp[show ¬ u=v by omega]
   simp[hr,h1]
  .have:=ih O0
   cases hb:r.testBit N with
   | true=>simp[this]
   | false=>simp[show ¬ u=N from e,this]
theorem Q59{N r:Nat}(h:(V5 N r).length=N){v:Nat}(hv:v<N):r.testBit v=true:=by
 have h1:(V5 N r).length=(aY N).length:=by rw[h];simp
 have:=List.length_filter_eq_length_iff.1 h1;exact this v (cW.2 hv)
theorem Z26{a b N:Nat}(ha:a<2^N)(hb:b<2^N):a ||| b<2^N:=Nat.or_lt_two_pow ha hb
theorem R27{u N:Nat}(hu:u<N):2^u<2^N:=Nat.pow_lt_pow_right O0 hu
theorem X20{N b r:Nat}(hb:b<2^N)(hd:∀ v,b.testBit v=true->r.testBit v=false)(hf:(V5 N r).length=N):b=0:=by
 apply bZ;intro v;rw[jQ]
 cases E:b.testBit v with
 | false=>rfl
 | true=>
  have hv:v<N:=by
   refine aI fun hn => ?_
   rw[dV (aO hb (aK (n:=2) O0 (show N<=v by omega)))] at E
   cases E
  have:=hd v E;rw[Q59 hf hv] at this
  cases this
end Go.Clo
namespace Go.Proofs.YtoiioigihocgbaaGreatDoor
open Go.Clo
theorem G58:∀ x,x<64->0<x->deB[tzi x]? = some (tz x):=by decide
theorem N65{w:World}(h:GlW w){i n:Nat}(hi:deB[i]? = some n):w.cell? ⟨0,i,none⟩=some (.int .u8 (n:Int)):=
 (h _ (dJ.2 rfl)).2 i _ (by simp[hi])
theorem D101:Go.Clo.Enters gQ 73:=⟨_,_,Tryz.func73,rfl,by kernel_rfl⟩
theorem C109{x:Nat}(h0:0<x)(E:x<64)(H:Y0)(nx:Nat):Q2 gQ 73 [O9 (x:Int)] H nx fun r H' nx'=>O8 (tz x:Int)=r/\H=H'/\nx=nx':=by
 refine M100 D101 rfl rfl (fun w hg => ?_) H nx;exact callsIn_wide.1 (E70 h0 E _ 0 trivial rfl w (tz x) (N65 hg (G58 x E h0)) (by have:=(N43 x E h0).2;omega))
theorem V100{H:Y0}{nx p rc rl N cap v comp left:Nat}{A:Option Addr}{es nb:List Nat}{L:Nat->Rat}(h:SV H nx p rc rl N A cap es nb L)(hN:N<=6)(ah:∀(u x:Nat),nb[u]? = some x->x<2^N)(hv:v<N)(hc:comp<2^N)(hl:left<2^N):
  Q2 gQ 81 [.pointer (some ⟨p,0,none⟩),.int .i64 (v:Int),.int .u32 (comp:Int),.int .u32 (left:Int)] H nx fun r H' nx'=>r = .int .u32 (C78 nb N v comp left:Int)/\D0 H nx H' nx':=by
 have av:2^N<=64:=aK (n:=2) O0 hN;have hg:Z2 comp left<2^N:=Z6 hc;generalize O:Z2 comp left=gone at *
 have ay:comp<4294967296:=O0;have M44:left<4294967296:=O0;have aw:gone<4294967296:=O0;refine spec81 ?_;unfold F81;simp(disch:=first | omega | assumption | exact G0 O1 | exact U10 O1 | exact X0 O0 | fail  )only[W0,O];refine B1 (m:=N) (fun f L H' nx'=>∃ r b:Nat,L=[.int .u32 (r:Int),.int .u32 (b:Int)]/\f+(V5 N r).length=N/\r<2^N/\b<2^N/\(∀ w,b.testBit w=true->r.testBit w=false)/\Z65 nb gone v f r b=Z65 nb gone v N 0 (2^v)/\D0 H nx H' nx') ?_
  ⟨0,2^v,rfl,by simp[V5],aQ _,R27 hv,fun w _=>O2,rfl,D0.self O0⟩
 rintro f ih L1 H1 ac ⟨r,b,rfl,hf,hr,hb,hd,J,hE⟩ a9
 by_cases a1:b=0
 .subst a1
  have aa:r<4294967296:=O0;have a7:Z65 nb gone v N 0 (2^v)=r:=by
   rw[<- J]
   cases f with
   | zero=>rfl
   | succ f=>show(if 0=0 then r else _)=r;rw[if_pos rfl]
  simp(disch:=first | omega | assumption | exact G0 O1 | exact U10 O1 | exact X0 O0 | fail  )only[W0,ne_eq,not_true_eq_false];refine⟨?_,hE⟩;unfold C78;rw[O,a7]
 have a3:¬ (b:Int)=0:=O0;have Q:b<64:=O0;have hu:=B54 Q O0 hb;have ap:=V33 Q O0;have aq:=hd _ ap;simp(disch:=first | omega | assumption | exact G0 O1 | exact U10 O1 | exact X0 O0 | fail   )only[W0,ne_eq,a3,not_false_eq_true];refine R0 (C109 O0 Q _ _) ?_;rintro _ _ _ ⟨rfl,rfl,rfl⟩;generalize ad:tz b=u at *
 have az:f≠0:=by
  rintro rfl;exact a1 (X20 hb hd O0)
 obtain⟨f',rfl⟩:∃ f',f=f'+1:=⟨f-1,O0⟩
 have ax:=N50 hu aq;have aj:2^u<4294967296:=by have:=R27 hu;omega
 have aa:r<4294967296:=O0;have au:b<4294967296:=O0;have ab:r ||| 2^u<2^N:=Z26 hr (R27 hu);have an:r ||| 2^u<4294967296:=O0;have a2:Z2 b (2^u)<2^N:=Z6 hb;have ao:Z2 b (2^u)<4294967296:=O0;have a5:u<32:=O0;obtain⟨x,hx⟩:∃ x,nb[u]? = some x:=⟨nb[u]'(by rw[h.nbl];exact a5),aE _⟩
 have ak:=ah u x hx;have al:nb.getD u 0=x:=by simp[aP,hx]
 have a8:x<4294967296:=O0;have ai:Z2 x (r ||| 2^u)<4294967296:=U10 a8;have h1:=h.ext hE;have a4:∀ w,(Z2 b (2^u)).testBit w=true->(r ||| 2^u).testBit w=false:=fun w hw=>by
  rw[N1,aR] at hw;rw[aV,aR];simp at hw;rw[hd w hw.1];simp[hw.2]
 have ae:∀ w,(Z2 b (2^u) ||| Z2 x (r ||| 2^u)).testBit w=true->(r ||| 2^u).testBit w=false:=fun w hw=>by
  rw[aV] at hw
  cases h1:(Z2 b (2^u)).testBit w with
  | true=>exact a4 w h1
  | false=>
   rw[h1,N1] at hw;simpa using (by simpa using hw:x.testBit w=true/\_).2
 have Z:Z65 nb gone v (f'+1) r b=if u=v\/gone.testBit u=true then Z65 nb gone v f' (r ||| 2^u) (Z2 b (2^u) ||| Z2 x (r ||| 2^u)) else Z65 nb gone v f' (r ||| 2^u) (Z2 b (2^u)):=by
  show(if b=0 then r else _)=_;rw[if_neg a1,ad,al]
 rw[Z] at J;have U:=U108 (N:=N) (A:=A) (len:=es.length) (cap:=cap) (rc:=rc) (rl:=rl) hx
 by_cases W:u=v\/gone.testBit u=true
 .rw[if_pos W] at J
  have ag:Z2 b (2^u) ||| Z2 x (r ||| 2^u)<2^N:=Z26 a2 (Z6 ak);have E:=a9 f' [.int .u32 ((r ||| 2^u:Nat):Int),.int .u32 ((Z2 b (2^u) ||| Z2 x (r ||| 2^u):Nat):Int)] H1 ac O0 ⟨_,_,rfl,O0,ab,ag,ae,J,hE⟩
  by_cases a6:u=v
  .subst a6
   simp(disch:=first | omega | assumption | exact G0 O1 | exact U10 O1 | exact X0 O0 | fail  )only[W0,N13,h1.hp,U];exact E
  .have a0:gone.testBit u=true:=W.resolve_left a6
   have V:¬ (u:Int)=(v:Int):=O0;simp(disch:=try exact O4)only[W0,N13,V,a0,h1.hp,U];exact E
 .rw[if_neg W] at J
  have E:=a9 f' [.int .u32 ((r ||| 2^u:Nat):Int),.int .u32 ((Z2 b (2^u):Nat):Int)] H1 ac O0 ⟨_,_,rfl,O0,ab,a2,a4,J,hE⟩;have V:¬ (u:Int)=(v:Int):=O0;have a0:gone.testBit u=false:=by simpa using fun hh=>W (.inr hh)
  simp(disch:=try exact O4)only[W0,N13,V,a0];exact E
end Go.Proofs.YtoiioigihocgbaaGreatDoor
namespace Go.Clo
theorem Q41{x v:Nat}(h:x.testBit v=true):Z2 x (2^v)<x:=by
 have h1:Z2 x (2^v)<=x:=Nat.le_of_testBit fun i hi=>by
  rw[N1] at hi;simp at hi;exact hi.1
 have h2:Z2 x (2^v)≠x:=fun e=>by
  have:=N1 x (2^v) v;rw[e,h,aR] at this;simp at this
 omega
def Z75(w c:Rat)(acc:Option Rat):Option Rat:=match acc with
 | none=>some (gr w c)
 | some b=>if b<=w then some b else if gr w c<b then some (gr w c) else some b
def M45(N:Nat)(f:Nat->Nat->Rat)(left:Nat):Rat:=
 if left=0 then 0 else((aY N).foldl (fun acc v=>if h:left.testBit v=true then Z75 (M45 N f (Z2 left (2^v))) (f v left) acc else acc) none).getD 0
termination_by left
decreasing_by exact Q41 h
def M70(N:Nat)(f:Nat->Nat->Rat)(left i:Nat):Option Rat:=(aY i).foldl (fun acc v=>if left.testBit v=true then Z75 (M45 N f (Z2 left (2^v))) (f v left) acc else acc) none
theorem C77(N:Nat)(f:Nat->Nat->Rat)(left:Nat):M45 N f left=if left=0 then 0 else(M70 N f left N).getD 0:=by
 rw[M45]
 rfl
theorem M76(N:Nat)(f:Nat->Nat->Rat)(left i:Nat):M70 N f left (i+1)=if left.testBit i=true then Z75 (M45 N f (Z2 left (2^i))) (f i left) (M70 N f left i) else M70 N f left i:=by
 unfold M70;rw[List.range_succ,List.foldl_append]
 rfl
theorem U102 (w c : Rat) (acc : Option Rat) : ∃ b, Z75 w c acc = some b := by
  unfold Z75
  cases acc with
  | none => exact ⟨_, rfl⟩
  | some b => dsimp only; split; · exact ⟨_, rfl⟩
              split <;> exact ⟨_, rfl⟩
theorem Y84{N:Nat}{f:Nat->Nat->Rat}{left:Nat}:∀ {i:Nat},(∃ v,v<i/\left.testBit v=true)->∃ b,M70 N f left i=some b
 | 0,h=>by obtain⟨v,h,_⟩:=h;omega
 | i+1,h=>by
  rw[M76]
  by_cases hb:left.testBit i=true
  .rw[if_pos hb];exact U102 _ _ _
  .rw[if_neg hb]
   obtain⟨v,h1,h2⟩:=h;refine Y84 ⟨v,?_,h2⟩
   by_cases e:v=i
   .rw[e] at h2;exact absurd h2 hb
   .omega
theorem J99{w c:Rat}{acc:Option Rat}{L:Nat}(hw:U15 w L)(hc:U15 c L)(ha:∀ b,acc=some b->U15 b L):∀ b,Z75 w c acc=some b->U15 b L:=by
 intro b hb;unfold Z75 at hb
 cases acc with
 | none=>cases hb;exact E78 hw hc
 | some d=>
  dsimp only at hb
  split at hb
  .cases hb;exact ha _ rfl
  .split at hb
   .cases hb;exact E78 hw hc
   .cases hb;exact ha _ rfl
theorem K77{N:Nat}{f:Nat->Nat->Rat}{L:Nat}(h0:U15 0 L)(hf:∀ v l,U15 (f v l) L):∀(left:Nat),U15 (M45 N f left) L/\∀ i b,M70 N f left i=some b->U15 b L:=by
 intro left
 induction left using Nat.strongRecOn with
 | _ left ih=>
  have hS:∀ i b,M70 N f left i=some b->U15 b L:=by
   intro i
   induction i with
   | zero=>intro b hb;cases hb
   | succ i J=>
    intro b hb;rw[M76] at hb
    split at hb
    .rename_i E
     exact J99 (ih _ (Q41 E)).1 (hf _ _) J b hb
    .exact J b hb
  refine⟨?_,hS⟩;rw[C77]
  split
  .exact h0
  .cases hm:M70 N f left N with
   | none=>exact h0
   | some b=>exact hS N b hm
theorem R83(nb:List Nat)(gone v w:Nat):∀(f r b:Nat),r.testBit w=true->(Z65 nb gone v f r b).testBit w=true
 | 0,r,b,h=>h
 | f+1,r,b,h=>by
  show(if b=0 then r else _:Nat).testBit w=true
  split
  .exact h
  .have h2:(r ||| 2^tz b).testBit w=true:=by rw[aV,h];rfl
   split<;>exact R83 nb gone v w f _ _ h2
theorem N89{nb:List Nat}{N:Nat}(E:∀(u x:Nat),nb[u]? = some x->x<2^N)(J:2^N<=64)(gone v:Nat):∀(f r b:Nat),r<2^N->b<2^N->Z65 nb gone v f r b<2^N
 | 0,r,b,h,_=>h
 | f+1,r,b,h,hb=>by
  show(if b=0 then r else _:Nat)<2^N
  split
  .exact h
  .rename_i h0
   have hu:=R27 (B54 (show b<64 by omega) O0 hb);have h2:=Z26 h hu;have hx:nb.getD (tz b) 0<2^N:=by
    rw[aP]
    cases hg:nb[tz b]? with
    | none=>exact aQ _
    | some x=>exact E _ _ hg
   split
   .exact N89 E J gone v f _ _ h2 (Z26 (Z6 hb) (Z6 hx))
   .exact N89 E J gone v f _ _ h2 (Z6 hb)
theorem U101:∀ v,v<6->tz (2^v)=v:=by decide
theorem E92{nb:List Nat}{N v comp left:Nat}(hN:N<=6)(hv:v<N)(hl:left.testBit v=true):(C78 nb N v comp left).testBit v=true:=by
 unfold C78;rw[N1,N1,hl];obtain⟨n,rfl⟩:∃ n,N=n+1:=⟨N-1,O0⟩
 have:(Z65 nb (Z2 comp left) v (n+1) 0 (2^v)).testBit v=true:=by
  show(if 2^v=0 then 0 else _:Nat).testBit v=true;rw[if_neg (by have:=aQ v;omega),U101 v O0,if_pos (.inl rfl)];refine R83 nb _ v v n _ _ ?_;rw[Nat.zero_or,aR];simp
 rw[this];simp
theorem R96{nb:List Nat}{N v comp left:Nat}(E:∀(u x:Nat),nb[u]? = some x->x<2^N)(hN:N<=6)(hv:v<N):C78 nb N v comp left<2^N:=
 Z6 (N89 E (aK (n:=2) O0 hN) _ v N 0 _ (aQ _) (R27 hv))
theorem U43{N s v:Nat}(hv:v<N)(h:s.testBit v=true):0<(V5 N s).length:=List.length_pos_of_mem (Q62.2 ⟨hv,h⟩)
theorem R106{x y:Rat}:0<=N70 x y<->y<=x:=by
 have:=@D77 x y
 constructor
 .intro h
  have:¬ x<y:=fun hh=>by have:=this.2 hh;omega
  grind
 .intro h
  refine aI fun hn => ?_
  have:=this.1 O0
  grind
theorem J98{x y:Rat}:N70 x y<=0<->x<=y:=by
 unfold N70
 by_cases h:x<y
 .rw[if_pos h];simp;grind
 .rw[if_neg h]
  by_cases h2:y<x
  .rw[if_pos h2];simp;grind
  .rw[if_neg h2];simp;grind
end Go.Clo
namespace Go.Proofs.YtoiioigihocgbaaGreatDoor
open Go.Clo
theorem B65(es:List Nat)(N set:Nat)(h:es.length<=8):U15 (Y74 es N set) 100000:=by
 unfold Y74
 split
 .exact K84 _ O0
 .exact Z100 es N set h
theorem Y75(L:Nat)(h:1<L):U15 0 L:=by
 have h1:(D11 1).length<=1:=E29 O0;have h0:(D11 0).length<=1:=E29 O0;exact⟨by show(D11 0).length<_;omega,by show(D11 1).length<_;omega⟩
def Y25(es nb:List Nat)(N comp v left:Nat):Rat:=Y74 es N (C78 nb N v comp left)
theorem Y85{l c x:Nat}(h:∀ w,l.testBit w=true->c.testBit w=true):∀ w,(Z2 l x).testBit w=true->c.testBit w=true:=fun w hw=>by
 rw[N1] at hw;simp at hw;exact h w hw.1
theorem SV.box{H:Y0}{nx p rc rl N:Nat}{A:Option Addr}{cap:Nat}{es nb:List Nat}{L:Nat->Rat}(h:SV H nx p rc rl N A cap es nb L){i:Nat}{l l':List Value}(hg:J0 H i=O7 l)(hr:noU l=true)(O:i≠p)(V:∀ B,Q5 H i=some B->noU B=true->∀ v ∈ K12 es,v ∉ B):SV (hs H i (O7 l')) nx p rc rl N A cap es nb L:=by
 have U:i≠rc:=h.ic.ne (row:=l) (by rw[Q5,hg];rfl);have Q:i≠rl:=h.il.ne (row:=l) (by rw[Q5,hg];rfl);refine⟨by rw[Z1 _ (eT O)];exact h.hp,h.pn,h.rcn,h.rln,h.nbl,fun j v hv => ?_,?_,?_,h.ne⟩
 .obtain⟨b,o,row,e1,e2,e3,e4⟩:=h.es' j v hv
  refine⟨b,o,row,e1,e2,?_,e4⟩;have J:b≠i:=by
   rintro rfl;have E:row=l:=by rw[Q5,hg] at e3;exact(fA e3).symm
   subst E;exact V row e3 hr v (aH hv) (aH e4)
  rw[Q5,Z1 _ J];exact e3
 .obtain⟨M,a,b⟩:=h.cm
  exact⟨M,a.same (Z1 _ (eT U)),fun n v hv=>(b n v hv).boxs hg (U47 hr) (.inl rfl)⟩
 .obtain⟨M,a,b⟩:=h.lm
  exact⟨M,a.same (Z1 _ (eT Q)),fun n v hv=>(b n v hv).boxs hg (U47 hr) (.inl rfl)⟩
theorem SV.boxs{H:Y0}{nx p rc rl N:Nat}{A:Option Addr}{cap:Nat}{es nb:List Nat}{L:Nat->Rat}(h:SV H nx p rc rl N A cap es nb L){i:Nat}{l l':List Value}(hg:J0 H i=O7 l)(hr:noU l=true)(O:i≠p):SV (hs H i (O7 l')) nx p rc rl N A cap es nb L:=by
 refine h.box hg hr O fun B hB J v hv E => ?_
 obtain⟨e,_,rfl⟩:=gN.1 hv;have:=iE.1 J _ E
 cases this
theorem V7.noU{c:List Value}(h:V7 c):noU c=true:=by obtain⟨s,A,l,k,C,l',k',rfl⟩:=h;rfl
end Go.Proofs.YtoiioigihocgbaaGreatDoor
namespace Go.Clo
def Q4(aL:List Nat)(b:Nat):Nat->Nat
 | 0=>0
 | v+1=>if b.testBit v=true then Q4 aL b v ||| aL.getD v 0 else Q4 aL b v
theorem Y7{aL:List Nat}{b w:Nat}:∀ {n:Nat},(Q4 aL b n).testBit w=true<->∃ u,u<n/\b.testBit u=true/\(aL.getD u 0).testBit w=true
 | 0=>by simp[Q4]
 | n+1=>by
  have ih:=@Y7 aL b w n;show(if b.testBit n=true then _ else _:Nat).testBit w=true<->_
  grind
theorem Z14{aL:List Nat}{b N:Nat}(h:∀(u x:Nat),aL[u]? = some x->x<2^N):∀ n,Q4 aL b n<2^N
 | 0=>aQ _
 | n+1=>by
  show(if b.testBit n=true then _ else _:Nat)<2^N
  split
  .refine Z26 (Z14 h n) ?_
   grind
  .exact Z14 h n
def W7(aL:List Nat)(N:Nat):Nat->Nat->Nat->Nat
 | 0,c,_=>c
 | f+1,c,b=>if b=0 then c else W7 aL N f (c ||| b) (Z2 (Q4 aL b N) (c ||| b))
theorem K48(aL:List Nat)(N w:Nat):∀(f c b:Nat),c.testBit w=true->(W7 aL N f c b).testBit w=true
 | 0,c,b,h=>h
 | f+1,c,b,h=>by
  show(if b=0 then c else _:Nat).testBit w=true
  split
  .exact h
  .exact K48 aL N w f _ _ (by rw[aV,h];rfl)
theorem J50{aL:List Nat}{N:Nat}(h:∀(u x:Nat),aL[u]? = some x->x<2^N):∀(f c b:Nat),c<2^N->b<2^N->W7 aL N f c b<2^N
 | 0,c,b,hc,_=>hc
 | f+1,c,b,hc,hb=>by
  show(if b=0 then c else _:Nat)<2^N
  split
  .exact hc
  .exact J50 h f _ _ (Z26 hc hb) (Z6 (Z14 h N))
theorem R45{aL:List Nat}{N:Nat}(P:Nat->Prop)(hP:∀ u w,P u->(aL.getD u 0).testBit w=true->P w):∀(f c b:Nat),(∀ w,c.testBit w=true->P w)->(∀ w,b.testBit w=true->P w)->∀ w,(W7 aL N f c b).testBit w=true->P w
 | 0,c,b,hc,_=>hc
 | f+1,c,b,hc,hb=>by
  intro w hw;have E:(if b=0 then c else W7 aL N f (c ||| b) (Z2 (Q4 aL b N) (c ||| b)):Nat).testBit w=true:=hw
  split at E
  .exact hc w E
  .refine R45 P hP f _ _ (fun x hx => ?_) (fun x hx => ?_) w E
   .grind
   .rw[N1,aG] at hx
    grind[Y7]
theorem Z40{N a b:Nat}(h:∀ w,a.testBit w=true->b.testBit w=true):(V5 N a).length<=(V5 N b).length:=by
 unfold V5;rw[<- fS,<- fS];exact List.countP_mono_left fun x _ hx=>h x hx
theorem B14{b:Nat}(h:b≠0):∃ u,b.testBit u=true:=Nat.exists_testBit_of_ne_zero h
theorem R7{b N u:Nat}(hb:b<2^N)(h:b.testBit u=true):u<N:=by
 refine aI fun hn => ?_
 grind[dV,aO,aK]
theorem R25{N c b:Nat}(hb:b<2^N)(h0:b≠0)(hd:∀ w,b.testBit w=true->c.testBit w=false):(V5 N c).length+1<=(V5 N (c ||| b)).length:=by
 obtain⟨u,hu⟩:=B14 h0;rw[<- N50 (R7 hb hu) (hd u hu)];refine Z40 fun w hw => ?_
 grind
theorem Q28{aL:List Nat}{N:Nat}(h:∀(u x:Nat),aL[u]? = some x->x<2^N):∀(f c b:Nat),N<=f+(V5 N c).length->b<2^N->(∀ w,b.testBit w=true->c.testBit w=false) ->
  (∀ u w,c.testBit u=true->(aL.getD u 0).testBit w=true->c.testBit w=true\/b.testBit w=true) ->
  ∀ u w,(W7 aL N f c b).testBit u=true->(aL.getD u 0).testBit w=true->(W7 aL N f c b).testBit w=true
 | 0,c,b,hf,hb,hd,hc=>by
  have h0:b=0:=X20 hb hd (by have:=Q15 N c;omega);subst h0;intro u w hu hw;have J:c.testBit u=true:=hu;rcases hc u w J hw with h | h
  .exact h
  .simp at h
 | f+1,c,b,hf,hb,hd,hc=>by
  intro u w hu hw
  by_cases h0:b=0
  .grind[W7]
  .have e:W7 aL N (f+1) c b=W7 aL N f (c ||| b) (Z2 (Q4 aL b N) (c ||| b)):=if_neg h0
   rw[e] at hu ⊢;have hg:=R25 hb h0 hd;refine Q28 h f _ _ O0 (Z6 (Z14 h N)) (fun x hx => ?_) (fun x y hx hy => ?_) u w hu hw
   .grind[N1]
   .rw[aV,cO] at hx
    by_cases E:(c ||| b).testBit y=true
    .exact .inl E
    .right
     rw[N1];have O:(c ||| b).testBit y=false:=by simpa using E
     rw[O];rcases hx with hx | hx
     .grind
     .rw[Y7.2 ⟨x,R7 hb hx,hx,hy⟩];rfl
def R8(aL:List Nat)(N:Nat):Nat->Nat->List Nat
 | 0,_=>[]
 | f+1,l=>if l=0 then [] else W7 aL N N 0 (2^tz l) :: R8 aL N f (Z2 l (W7 aL N N 0 (2^tz l)))
theorem K52{aL:List Nat}{N v:Nat}(hN:0<N):(W7 aL N N 0 (2^v)).testBit v=true:=by
 obtain⟨n,rfl⟩:∃ n,N=n+1:=⟨N-1,O0⟩
 show(if 2^v=0 then 0 else _:Nat).testBit v=true
 grind[K48]
structure V53 (aL:List Nat) (N v c:Nat):Prop where
 lt:c<2^N
 self:c.testBit v=true
 closed:∀ u w,c.testBit u=true->(aL.getD u 0).testBit w=true->c.testBit w=true
 least:∀ P:Nat->Prop,P v->(∀ u w,P u->(aL.getD u 0).testBit w=true->P w)->∀ w,c.testBit w=true->P w
theorem E65{aL:List Nat}{N v:Nat}(h:∀(u x:Nat),aL[u]? = some x->x<2^N)(hv:v<N):V53 aL N v (W7 aL N N 0 (2^v)):=
 ⟨J50 h N 0 _ (aQ _) (R27 hv),K52 O0,Q28 h N 0 _ O0 (R27 hv) O2 O2,fun P h0 hP=>R45 P hP N 0 _ O2 (fun w hw=>by
  grind)⟩
theorem X35{N l c v:Nat}(hv:v<N)(hl:l.testBit v=true)(hc:c.testBit v=true):(V5 N (Z2 l c)).length<(V5 N l).length:=by
 have h1:(Z2 l c).testBit v=false:=by rw[N1,hl,hc];rfl
 have h2:=N50 hv h1;have h3:(V5 N (Z2 l c ||| 2^v)).length<=(V5 N l).length:=Z40 fun w hw=>by
  grind[N1]
 omega
theorem C33{aL:List Nat}{N:Nat}(h:∀(u x:Nat),aL[u]? = some x->x<2^N)(W:2^N<=64)(Q:∀ u w,(aL.getD u 0).testBit w=true->(aL.getD w 0).testBit u=true):
  ∀(f l:Nat),(V5 N l).length<=f->l<2^N->(∀ u w,l.testBit u=true->(aL.getD u 0).testBit w=true->l.testBit w=true) ->
  (∀ c ∈ R8 aL N f l,∃ v,v<N/\V53 aL N v c)/\(R8 aL N f l).Pairwise (fun c d=>∀ w,c.testBit w=true->d.testBit w=false) /\
  (∀ w,l.testBit w=true<->∃ c ∈ R8 aL N f l,c.testBit w=true)
 | 0,l,hf,hl,_=>by
  have h0:l=0:=by
   refine aI fun hn => ?_
   obtain⟨u,hu⟩:=B14 hn;have:=U43 (R7 hl hu) hu;omega
  subst h0;exact⟨by simp[R8],by simp[R8],by simp[R8]⟩
 | f+1,l,hf,hl,hcl=>by
  by_cases h0:l=0
  .have e:R8 aL N (f+1) l=[]:=if_pos h0
   simp_all
  have e:R8 aL N (f+1) l=W7 aL N N 0 (2^tz l) :: R8 aL N f (Z2 l (W7 aL N N 0 (2^tz l))):=if_neg h0;rw[e];have hv:=B54 (N:=N) O0 O0 hl;have O:=V33 (x:=l) O0 O0;have hI:=E65 h hv;generalize tz l=v at *
  generalize W7 aL N N 0 (2^v)=c at *
  have hm:=X35 hv O hI.self;have U:∀ u w,(Z2 l c).testBit u=true->(aL.getD u 0).testBit w=true->(Z2 l c).testBit w=true:=fun u w hu hw=>by
   rw[N1,aG] at hu;rw[N1,hcl u w hu.1 hw]
   cases J:c.testBit w with
   | false=>rfl
   | true=>
    have:=hI.closed w u J (Q u w hw);rw[this] at hu;simp at hu
  obtain⟨h1,h2,h3⟩:=C33 h W Q f (Z2 l c) O0 (Z6 hl) U;have V:∀ w,c.testBit w=true->l.testBit w=true:=hI.least _ O hcl;refine⟨fun d hd => ?_,?_,fun w => ?_⟩
  .grind
  .refine List.Pairwise.cons (fun d hd w hw => ?_) h2
   cases E:d.testBit w with
   | false=>rfl
   | true=>
    have:=(h3 w).2 ⟨d,hd,E⟩
    grind[N1]
  .constructor
   .intro hw
    cases J:c.testBit w with
    | true=>exact⟨c,O2,J⟩
    | false=>
     obtain⟨d,hd,E⟩:=(h3 w).1 (by rw[N1,hw,J];rfl)
     grind
   .rintro⟨d,hd,E⟩
    rcases aU.1 hd with rfl | hd
    .exact V w E
    .have:=(h3 w).2 ⟨d,hd,E⟩
     grind[N1]
def D14(es:List Nat)(s:Nat):List Nat:=es.filterMap fun e=>if e &&& s=0 then none else some (e &&& s)
theorem K46(es:List Nat)(s:Nat):(D14 es s).length<=es.length:=List.length_filterMap_le _ _
theorem U67{es:List Nat}{s N:Nat}(h:∀ e ∈ es,e<2^N):∀ e ∈ D14 es s,e<2^N:=by
 intro e he;obtain⟨x,hx,hy⟩:=List.mem_filterMap.1 he
 grind[iF,Nat.and_le_left]
end Go.Clo
namespace Go.Proofs.YtoiioigihocgbaaGreatDoor
open Go.Clo
theorem M58{es:List Nat}{i e:Nat}(s:Nat)(h:es[i]? = some e):D14 (es.take (i+1)) s=D14 (es.take i) s++(if e &&& s=0 then [] else [e &&& s]):=by
 unfold D14;rw[C7 h,List.filterMap_append]
 grind
end Go.Proofs.YtoiioigihocgbaaGreatDoor
namespace Go.Clo
theorem Kp.cell{H:Y0}{nx p q:Nat}{H':Y0}{nx':Nat}(e:Kp H nx p q H' nx')(hp:X51 H p)(hq:X51 H q){i s:Nat}{c:List Value}(hi:i<nx)(hg:J0 H i=some (.cells c s)):J0 H' i=some (.cells c s):=
 (e.get i hi (hp.ne (row:=c) (by rw[Q5,hg];rfl)) (hq.ne (row:=c) (by rw[Q5,hg];rfl))).trans hg
end Go.Clo
namespace Go.Proofs.YtoiioigihocgbaaGreatDoor
open Go.Clo
theorem C89(N:Nat)(A:Option Addr)(len cap:Nat)(nb:List Nat)(rc rl:Nat):(E75 N A len cap nb rc rl)[0]? = some (O8 (N:Int)):=rfl
structure V76 (H0:Y0) (nx p rc rl N:Nat) (A:Option Addr) (cap:Nat) (es nb:List Nat) (L:Nat->Rat) (acc:Option Rat) (H:Y0) (m:Nat):Prop where
 sv:SV H m p rc rl N A cap es nb L
 kp:Kp H0 nx rc rl H m
 b6:J0 H nx=some (.cells [.bool false,.slice none 0 0,.slice none 0 0] 0)
 b9:∃ c,V7 c/\J0 H (nx+1+1)=some (.cells c 0)/\∀ b,acc=some b->RR H m (.agg ⟨c⟩) b
 le:nx+1+1+1<=m
theorem V76.step{H0:Y0}{nx p rc rl N:Nat}{A:Option Addr}{cap:Nat}{es nb:List Nat}{L:Nat->Rat}{acc:Option Rat}{H:Y0}{m:Nat}{H':Y0}{m':Nat}(h:V76 H0 nx p rc rl N A cap es nb L acc H m)(e:Kp H m rc rl H' m')(s:SV H' m' p rc rl N A cap es nb L):V76 H0 nx p rc rl N A cap es nb L acc H' m':=by
 have J:=h.le;have E:=e.le;have hc:=h.sv.ic;have hl:=h.sv.il;obtain⟨c,h1,h2,h3⟩:=h.b9;refine⟨s,h.kp.trans e,?_,⟨c,h1,?_,fun b hb=>(h3 b hb).kp e hc hl⟩,O0⟩
 .rw[e.get nx O0 (hc.ne (row:=[.bool false,.slice none 0 0,.slice none 0 0]) (by rw[Q5,h.b6];rfl)) (hl.ne (row:=[.bool false,.slice none 0 0,.slice none 0 0]) (by rw[Q5,h.b6];rfl))]
  exact h.b6
 .rw[e.get _ O0 (hc.ne (row:=c) (by rw[Q5,h2];rfl)) (hl.ne (row:=c) (by rw[Q5,h2];rfl))]
  exact h2
theorem V76.ext{H0:Y0}{nx p rc rl N:Nat}{A:Option Addr}{cap:Nat}{es nb:List Nat}{L:Nat->Rat}{acc:Option Rat}{H:Y0}{m:Nat}{H':Y0}{m':Nat}(h:V76 H0 nx p rc rl N A cap es nb L acc H m)(e:D0 H m H' m'):V76 H0 nx p rc rl N A cap es nb L acc H' m':=h.step e.kp (h.sv.ext e)
theorem V76.set{H0:Y0}{nx p rc rl N:Nat}{A:Option Addr}{cap:Nat}{es nb:List Nat}{L:Nat->Rat}{acc:Option Rat}{H:Y0}{m:Nat}(h:V76 H0 nx p rc rl N A cap es nb L acc H m)(hp:p<nx){c:List Value}{x:Rat}(hc:V7 c)(hx:RR H m (.agg ⟨c⟩) x):V76 H0 nx p rc rl N A cap es nb L (some x) (hs H (nx+1+1) (O7 c)) m:=by
 obtain⟨d,h1,h2,h3⟩:=h.b9;refine⟨h.sv.boxs h2 (V7.noU h1) O0,h.kp.hs (.inl O0),?_,⟨c,hc,Z11 _ _ _,?_⟩,h.le⟩
 .rw[gN _];exact h.b6
 .intro b hb
  cases hb
  exact hx.boxs h2 (W81 h1) (.inl rfl)
theorem V88{p rc rl N cap comp:Nat}{A:Option Addr}{es nb:List Nat}{L:Nat->Rat}(hN:N<=6)(d1:∀ e ∈ es,e<2^N)(a8:es.length<=8)(ci:∀(u x:Nat),nb[u]? = some x->x<2^N)(bx:∀ w,w<N->∃ e ∈ es,e.testBit w=true)(hc:comp<2^N)(hL:∀ l,l≠0->(∀ w,l.testBit w=true->comp.testBit w=true)->L l=M45 N (Y25 es nb N comp) l):
  ∀(left:Nat),left<2^N->(∀ w,left.testBit w=true->comp.testBit w=true)->∀(H:Y0) (nx:Nat),SV H nx p rc rl N A cap es nb L ->
  Q2 gQ 48 [.pointer (some ⟨p,0,none⟩),.int .u32 (comp:Int),.int .u32 (left:Int)] H nx fun v H' nx'=>RR H' nx' v (M45 N (Y25 es nb N comp) left)/\SV H' nx' p rc rl N A cap es nb L/\Kp H nx rc rl H' nx':=by
 intro left
 induction left using Nat.strongRecOn with
 | _ left ih=>
 intro hl az H nx h;have df:2^N<=64:=aK (n:=2) O0 hN;have dt:comp<4294967296:=O0;have M44:left<4294967296:=O0;have cq:=h.pn;have al:∀ l,U15 (M45 N (Y25 es nb N comp) l) 100000:=fun l=>(K77 (Y75 _ O0) (fun v l=>B65 es N _ a8) l).1
 have ad:∀ i b,M70 N (Y25 es nb N comp) left i=some b->U15 b 100000:=(K77 (Y75 _ O0) (fun v l=>B65 es N _ a8) left).2;refine spec48 ?_;unfold F48;have ai:D0 H nx (hs H nx (some (.cells [.bool false,.slice none 0 0,.slice none 0 0] 0))) (nx+1):=(D0.refl _ _).new _ (aD _) O0;have g1:J0 (hs H nx (some (.cells [.bool false,.slice none 0 0,.slice none 0 0] 0))) nx=some (.cells [.bool false,.slice none 0 0,.slice none 0 0] 0):=Z11 _ _ _;have h1:=h.ext ai;simp only[W1];rw[Q37]
 by_cases h0:left=0
 .subst h0
  simp(disch:=first | omega | assumption | exact G0 O1 | exact U10 O1 | exact X0 O0 | fail   )only[W0,Q0.val];generalize hs H nx (some (.cells [.bool false,.slice none 0 0,.slice none 0 0] 0))=H1 at *
  refine R0 (R73 (n:=0) O0 O0 _ _) ?_;rintro r H3 E ⟨hr,bc⟩;obtain⟨c,rfl,V⟩:=hr.num;have g3:=(bc.get nx O0).trans g1;simp(disch:=first | omega | assumption | exact G0 O1 | exact U10 O1 | exact X0 O0 | fail   )only[W0,Nat.reduceAdd,V.three,V.one,g3,G24 (show c.length=[dU false,.slice none 0 0,.slice none 0 0].length from V.three),X15 V];have hE:=(ai.trans bc).hs (i:=nx) (b:=some (.cells c 0)) (aD _);refine⟨?_,h.ext hE,hE.kp⟩;rw[C77,if_pos rfl];exact hr.boxs g3 (U47 rfl) (.inl rfl)
 have cg:¬ (left:Int)=0:=O0;obtain⟨M,hM,d3⟩:=h1.lm;have aq:=Z97 (N:=N) (A:=A) (len:=es.length) (cap:=cap) (rc:=rc) (rl:=rl) h1.nbl
 cases hk:M left with
 | some v=>
  have hv:=d3 left v hk;rw[hL left h0 az] at hv;obtain⟨c,rfl,V⟩:=hv.num;simp(disch:=first | omega | assumption | exact G0 O1 | exact U10 O1 | exact X0 O0 | fail  )only[W0,Q0.val,Nat.reduceAdd,cg,h1.hp,aq,hM.lkS hk,V.three,V.one,G24 (show c.length=[dU false,.slice none 0 0,.slice none 0 0].length from V.three),X15 V,g1];generalize hs H nx (some (.cells [.bool false,.slice none 0 0,.slice none 0 0] 0))=H1 at *
  have Q:D0 H1 (nx+1) (hs (hs H1 (nx+1) (some (.cells [.bool false,.slice none 0 0,.slice none 0 0] 0))) (nx+1) (some (.cells c 0))) (nx+1+1):=((D0.refl _ _).new _ (aD _) (m:=nx+1+1) O0).new _ O0 O0;have g6:=(Q.get nx O0).trans g1;have hE:=(ai.trans Q).hs (i:=nx) (b:=some (.cells c 0)) (aD _);refine⟨?_,h.ext hE,hE.kp⟩;exact(hv.ext Q).boxs g6 (U47 rfl) (.inl rfl)
 | none=>
  simp(disch:=first | omega | assumption | exact G0 O1 | exact U10 O1 | exact X0 O0 | fail  )only[W0,Z0,Q0.val,Nat.reduceAdd,cg,h1.hp,aq,hM.lkN hk,D7];generalize hs H nx (some (.cells [.bool false,.slice none 0 0,.slice none 0 0] 0))=H1 at *
  have av:D0 H1 (nx+1) (hs (hs (hs H1 (nx+1) (some (.cells [.bool false,.slice none 0 0,.slice none 0 0] 0))) (nx+1) (some (.cells [.bool false,.slice none 0 0,.slice none 0 0] 0))) (nx+1+1) (some (.cells [.bool false,.slice none 0 0,.slice none 0 0] 0))) (nx+1+1+1):=
   (((D0.refl _ _).new _ (aD _) (m:=nx+1+1) O0).new _ O0 (m:=nx+1+1) O0).new _ O0 O0
  have g7:J0 (hs (hs (hs H1 (nx+1) (some (.cells [.bool false,.slice none 0 0,.slice none 0 0] 0))) (nx+1) (some (.cells [.bool false,.slice none 0 0,.slice none 0 0] 0))) (nx+1+1) (some (.cells [.bool false,.slice none 0 0,.slice none 0 0] 0))) (nx+1+1)=some (.cells [.bool false,.slice none 0 0,.slice none 0 0] 0):=Z11 _ _ _;have cz:=(av.get nx O0).trans g1;have h7:=h1.ext av;simp(disch:=first | omega | assumption | exact G0 O1 | exact U10 O1 | exact X0 O0 | fail   )only[W0,C89];generalize hs (hs (hs H1 (nx+1) (some (.cells [.bool false,.slice none 0 0,.slice none 0 0] 0))) (nx+1) (some (.cells [.bool false,.slice none 0 0,.slice none 0 0] 0))) (nx+1+1) (some (.cells [.bool false,.slice none 0 0,.slice none 0 0] 0))=H7 at *
  have a4:V76 H nx p rc rl N A cap es nb L none H7 (nx+1+1+1):=
   ⟨h7,(ai.trans av).kp,cz,⟨_,⟨_,_,_,_,_,_,_,rfl⟩,g7,fun b hb=>by cases hb⟩,aD _⟩
  have ca:([.bool false,.int .i64 0]:List Value)=[.bool (M70 N (Y25 es nb N comp) left 0).isSome,.int .i64 ((0:Nat):Int)]:=rfl;have cu:V76 H nx p rc rl N A cap es nb L (M70 N (Y25 es nb N comp) left 0) H7 (nx+1+1+1):=a4;rw[ca];clear ca a4;refine B1 (m:=N) (fun f L1 H' nx'=>∃ i,f+i=N/\L1=[.bool (M70 N (Y25 es nb N comp) left i).isSome,.int .i64 (i:Int)]/\V76 H nx p rc rl N A cap es nb L (M70 N (Y25 es nb N comp) left i) H' nx') ?_ ⟨0,O0,rfl,cu⟩;rintro f d0 L1 H2 nx2 ⟨i,hf,rfl,hI⟩ ay;have dm:∀ {c:List Value} (k:VP),V7 c->B10 c 0 (some 3) k=k (.agg ⟨c⟩):=fun k hc=>X15 hc k
  by_cases hi:i<N
  case neg=>
   obtain rfl:i=N:=O0;have au:¬ (i:Int)<(i:Int):=O0;obtain⟨u,hu⟩:=Nat.exists_testBit_of_ne_zero h0;have cy:u<i:=by
    refine aI fun hn => ?_
    rw[dV (aO hl (aK (n:=2) O0 (show i<=u by omega)))] at hu
    cases hu
   obtain⟨b,hb⟩:=Y84 (N:=i) (f:=Y25 es nb i comp) (left:=left) ⟨u,cy,hu⟩;have ap:M45 i (Y25 es nb i comp) left=b:=by rw[C77,if_neg h0,hb];rfl
   rw[hb] at hI;clear ay;have ae:=hI.ext (D0.self (m:=nx2+7) O0);obtain⟨c9,J,g9,a5⟩:=ae.b9;have a3:=a5 b rfl;have g6:=ae.b6;have a2:=ae.sv;have d6:=ae.kp;have dp:=hI.le;obtain⟨ML,bt,ce⟩:=a2.lm;obtain⟨MC,cx,c6⟩:=a2.cm;have aa:=Z97 (N:=i) (A:=A) (len:=es.length) (cap:=cap) (rc:=rc) (rl:=rl) a2.nbl;have dh:=h.rln;have dj:=h.rcn;simp(disch:=first | omega | assumption | exact G0 O1 | exact U10 O1 | exact X0 O0 | fail   )only[W0,au,a2.hp,aa,g9,X15 J];refine bt.put left _ fun ah mc bh => ?_
   obtain⟨dn,dw,dd,_⟩:=bt;have aj:J0 (hs H2 rl (some (.map ah mc))) (nx+1+1)=_:=(Z1 _ O0).trans g9;have bw:J0 (hs H2 rl (some (.map ah mc))) nx=_:=(Z1 _ O0).trans g6;simp(disch:=first | omega | assumption | exact G0 O1 | exact U10 O1 | exact X0 O0 | fail   )only[W0,Nat.reduceAdd,aj,X15 J,J.three,J.one,bw,G24 (show c9.length=[dU false,.slice none 0 0,.slice none 0 0].length from J.three)];have a1:∀ {v:Value} {x:Rat},RR H2 (nx2+7) v x->RR (hs (hs H2 rl (some (.map ah mc))) nx (some (.cells c9 0))) (nx2+7) v x:=fun hv=>
    (hv.boxm dd).boxs bw (U47 rfl) (.inl rfl)
   have c7:Kp H nx rc rl (hs (hs H2 rl (some (.map ah mc))) nx (some (.cells c9 0))) (nx2+7):=(d6.hs (.inr (.inr rfl))).hs (.inl (aD _));have co:=h.pl;rw[ap];refine⟨a1 a3,⟨?_,O0,O0,O0,h.nbl,h.es'.kp c7 h.ic h.il,⟨MC,cx.same ?_,fun n v hv=>a1 (c6 n v hv)⟩,⟨_,bh.same (Z1 _ O0),fun n v hv => ?_⟩,h.ne⟩,c7⟩
   .rw[Z1 _ O0,Z1 _ co];exact a2.hp
   .rw[Z1 _ O0,Z1 _ h.ne]
   .by_cases b5:n=left
    .subst b5
     simp only[if_true] at hv
     cases hv
     rw[hL n h0 az,ap];exact a1 a3
    .simp only[b5,if_false] at hv
     exact a1 (ce n v hv)
  have au:(i:Int)<(N:Int):=O0;have dl:i<32:=O0;simp(disch:=try exact O4)only[W0,au];refine N5 (fun L' H' nx'=>L'=[.bool (M70 N (Y25 es nb N comp) left (i+1)).isSome]/\V76 H nx p rc rl N A cap es nb L (M70 N (Y25 es nb N comp) left (i+1)) H' nx') (fun j hj => ?_) ?_
  case refine_2=>
   rintro _ H3 E ⟨rfl,Z⟩;simp(disch:=first | omega | assumption | exact G0 O1 | exact U10 O1 | exact X0 O0 | fail   )only[W0];exact ay (f-1) _ _ _ O0 ⟨i+1,O0,O2,Z⟩
  clear ay d0
  cases hb:left.testBit i with
  | false=>
   have aw:M70 N (Y25 es nb N comp) left (i+1)=M70 N (Y25 es nb N comp) left i:=by rw[M76,if_neg (by simp[hb])]
   rw[aw] at hj;simp(disch:=first | omega | assumption | exact G0 O1 | exact U10 O1 | exact X0 O0 | fail   )only[W0];exact hj _ _ _ ⟨rfl,hI⟩
  | true=>
   have di:2^i<4294967296:=by have:=R27 hi;omega
   have da:Z2 left (2^i)<4294967296:=U10 M44;have b4:M70 N (Y25 es nb N comp) left (i+1)=Z75 (M45 N (Y25 es nb N comp) (Z2 left (2^i))) (Y25 es nb N comp i left) (M70 N (Y25 es nb N comp) left i):=by rw[M76,if_pos hb]
   rw[b4] at hj;have ao:=ad i;generalize M70 N (Y25 es nb N comp) left i=acc at *
   have ax:=al (Z2 left (2^i));simp(disch:=first | omega | assumption | exact G0 O1 | exact U10 O1 | exact X0 O0 | fail  )only[W0];refine R0 (ih _ (Q41 hb) (Z6 hl) (Y85 az) H2 nx2 hI.sv) ?_;generalize M45 N (Y25 es nb N comp) (Z2 left (2^i))=w at *
   rintro v3 H3 E ⟨cf,bu,cn⟩;have Z:=hI.step cn bu;have dg:=Z.le;obtain⟨c3,rfl,O⟩:=cf.num;simp(disch:=first | omega | assumption | exact G0 O1 | exact U10 O1 | exact X0 O0 | fail  )only[W0,Nat.reduceAdd,O.three,O.one,G24 (show c3.length=[dU false,.slice none 0 0,.slice none 0 0].length from O.three)];have a7:D0 H3 E (hs (hs H3 E (some (.cells [.bool false,.slice none 0 0,.slice none 0 0] 0))) E (some (.cells c3 0))) (E+1):=((D0.refl _ _).new _ (aD _) (m:=E+1) O0).hs (aD _);have g4:J0 (hs (hs H3 E (some (.cells [.bool false,.slice none 0 0,.slice none 0 0] 0))) E (some (.cells c3 0))) E=some (.cells c3 0):=Z11 _ _ _;generalize hs (hs H3 E (some (.cells [.bool false,.slice none 0 0,.slice none 0 0] 0))) E (some (.cells c3 0))=H4 at *
   have bf:=Z.ext a7;have bo:=cf.ext a7;refine N5 (fun L' H' nx'=>(∃ q,L'=[.bool q]/\(q=true<->∃ b,acc=some b/\b<=w))/\D0 H4 (E+1) H' nx') (fun j5 bv => ?_) ?_
   case refine_1=>
    cases acc with
    | none=>
     simp(disch:=first | omega | assumption | exact G0 O1 | exact U10 O1 | exact X0 O0 | fail   )only[W0,Option.isSome];exact bv _ _ _ ⟨⟨false,rfl,O2⟩,D0.refl _ _⟩
    | some b=>
     obtain⟨c9,J,g9,a5⟩:=Z.b9;have a3:=(a5 b rfl).ext a7;simp(disch:=first | omega | assumption | exact G0 O1 | exact U10 O1 | exact X0 O0 | fail   )only[W0,Option.isSome,g9,X15 O,X15 J];refine R0 (X81 bo a3 ax (ao _ rfl)) ?_;rintro _ H5 cd ⟨rfl,a6⟩;simp(disch:=first | omega | assumption | exact G0 O1 | exact U10 O1 | exact X0 O0 | fail   )only[W0];exact bv _ _ _ ⟨⟨_,rfl,by simp[R106]⟩,a6⟩
   rintro _ H5 cd ⟨⟨q,rfl,hq⟩,a6⟩;have cp:=bf.ext a6;have g5:=(a6.get E O0).trans g4;have dk:=a6.le
   cases q with
   | true=>
    obtain⟨b,rfl,ag⟩:=hq.1 rfl;simp(disch:=first | omega | assumption | exact G0 O1 | exact U10 O1 | exact X0 O0 | fail   )only[W0];refine hj _ _ _ ⟨?_,?_⟩
    .simp[Z75,ag]
    .rw[show Z75 w (Y25 es nb N comp i left) (some b)=some b from if_pos ag]
     exact cp
   | false=>
    have cj:∀ b,acc=some b->¬ b<=w:=fun b hb ag=>by have:=hq.2 ⟨b,hb,ag⟩;cases this
    have a0:D0 H4 (E+1) H5 (cd+10):=a6.more O0;have bg:=(bf.ext a0).sv;simp(disch:=first | omega | assumption | exact G0 O1 | exact U10 O1 | exact X0 O0 | fail   )only[W0,g5,X15 O];refine R0 (V100 bg hN ci hi hc hl) ?_;rintro _ H6 dv ⟨rfl,Q⟩;have h6:=bg.ext Q;have g6:=(Q.get E O0).trans g5;have du:=Q.le;have b8:=R96 (nb:=nb) (v:=i) (comp:=comp) (left:=left) ci hN hi;have d7:=E92 (nb:=nb) (comp:=comp) hN hi hb;refine R0 (Y87 h6 O0 d1 a8 b8 (U43 hi d7) fun v hv=>bx v ?_) ?_
    .refine aI fun hn => ?_
     rw[dV (aO b8 (aK (n:=2) O0 (show N<=v by omega)))] at hv
     cases hv
    rintro v7 H7 dx ⟨de,ct,ac⟩;have bz:=((bo.ext a0).ext Q).kp ac h6.ic h6.il;have g7:=ac.cell h6.ic h6.il O0 g6;have dr:=ac.le;refine R0 (G82 bz de ax (B65 _ _ _ a8)) ?_;rw[show Y74 es N (C78 nb N i comp left)=Y25 es nb N comp i left from rfl];have d9:U15 (Y25 es nb N comp i left) 100000:=B65 _ _ _ a8;generalize Y25 es nb N comp i left=cv at *
    rintro v8 H8 ak ⟨cc,ab⟩;obtain⟨c8,rfl,U⟩:=cc.num;have g8:=(ab.get E O0).trans g7;have ba:=ct.ext ab;have dq:=ab.le;simp(disch:=first | omega | assumption | exact G0 O1 | exact U10 O1 | exact X0 O0 | fail  )only[W0,U.three,U.one,g8,G24 (show c8.length=c3.length by rw[U.three,O.three]),g7,g6,X15 O];have dc:=Z.step ((((a7.kp.trans a0.kp).trans Q.kp).trans ac).trans ab.kp) ba;have d4:Kp H3 E rc rl (hs H8 E (some (.cells c8 0))) ak:=((((a7.kp.trans a0.kp).trans Q.kp).trans ac).trans ab.kp).hs (.inl (aD _));have d8:=ba.boxs (l':=c8) g8 (V7.noU O) (by have:=bu.pn;omega);have c4:=cc.boxs (row':=c8) g8 (W81 O) (.inl rfl) (s':=0);have d5:=Z.step d4 d8;have bk:∀ v x,RR H8 ak v x->RR (hs H8 E (some (.cells c8 0))) ak v x:=fun v x hh=>hh.boxs g8 (W81 O) (.inl rfl)
    have aj:J0 (hs H8 E (some (.cells c8 0))) E=some (.cells c8 0):=Z11 _ _ _;generalize hs H8 E (some (.cells c8 0))=H9 at *
    have ck:=E78 ax d9;refine⟨by rw[O.three];omega,?_⟩;refine N5 (fun L' H' nx'=>(∃ q,L'=[.bool q]/\(q=true<->∀ b,acc=some b->gr w cv<b))/\D0 H9 ak H' nx') (fun dy an => ?_) ?_
    case refine_1=>
     cases acc with
     | none=>
      simp(disch:=first | omega | assumption | exact G0 O1 | exact U10 O1 | exact X0 O0 | fail   )only[W0,Option.isSome];exact an _ _ _ ⟨⟨true,rfl,O2⟩,D0.refl _ _⟩
     | some b=>
      obtain⟨c9,J,g9,a5⟩:=dc.b9;have a3:=bk _ _ (a5 b rfl);simp(disch:=first | omega | assumption | exact G0 O1 | exact U10 O1 | exact X0 O0 | fail   )only[W0,Option.isSome,g9,X15 U,X15 J];refine R0 (X81 c4 a3 ck (ao _ rfl)) ?_;rintro _ db bd ⟨rfl,W⟩;simp(disch:=first | omega | assumption | exact G0 O1 | exact U10 O1 | exact X0 O0 | fail   )only[W0];exact an _ _ _ ⟨⟨_,rfl,by simp[D77]⟩,W⟩
    rintro _ db bd ⟨⟨q,rfl,b3⟩,W⟩;have a9:=d5.ext W;have d2:=(W.get E O0).trans aj
    cases q with
    | true=>
     have a4:Z75 w cv acc=some (gr w cv):=by
      cases acc with
      | none=>rfl
      | some b=>
       show(if b<=w then _ else _)=_;rw[if_neg (cj b rfl),if_pos (b3.1 rfl b rfl)]
     obtain⟨c9,J,g9,a5⟩:=a9.b9;simp(disch:=first | omega | assumption | exact G0 O1 | exact U10 O1 | exact X0 O0 | fail   )only[W0,d2,X15 U,U.three,U.one,g9,G24 (show c8.length=c9.length by rw[U.three,J.three])];refine⟨by rw[J.three];omega,hj _ _ _ ?_⟩;rw[a4];exact⟨rfl,a9.set cq U (c4.ext W)⟩
    | false=>
     have a4:Z75 w cv acc=acc:=by
      cases acc with
      | none=>have:=b3.2 O2;cases this
      | some b=>
       show(if b<=w then _ else _)=_;have:¬ gr w cv<b:=fun hh=>by have:=b3.2 (fun b' e=>by cases e;exact hh);cases this
       rw[if_neg (cj b rfl),if_neg this]
     simp(disch:=first | omega | assumption | exact G0 O1 | exact U10 O1 | exact X0 O0 | fail   )only[W0];refine hj _ _ _ ?_;rw[a4];exact⟨rfl,a9⟩
end Go.Proofs.YtoiioigihocgbaaGreatDoor
