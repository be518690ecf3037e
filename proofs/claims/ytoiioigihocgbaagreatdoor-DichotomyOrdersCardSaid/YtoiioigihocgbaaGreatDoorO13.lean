/-
  Contract: the solver's minimum.
  .
  Plain elimination;the program's Bags (texts of chapter 30,by name).
  Contract: the solver's freeWidth.
  Contract: OnesCount32 below 64.
  Contracts: hypergraph.Induced,hypergraph.Components.
-/
import Derived.Test.YtoiioigihocgbaaGreatDoorO12
import Derived.Test.YtoiioigihocgbaaGreatDoorO10
import Derived.Test.YtoiioigihocgbaaGreatDoorO11
set_option maxHeartbeats 8000000
set_option maxRecDepth 100000
set_option linter.all false
noncomputable section
open Bool renaming and_eq_true->aG
open Classical renaming byContradiction->aI
open Go.IntKind renaming bits->dW,signed->eK,u32->eW,wrap->eY
open Go.Value renaming bool->dU,int->cD
open List renaming all_eq_true->bW,drop_of_length_le->cM,getD_eq_getElem?_getD->aP,getElem?_append_left->bQ,getElem?_append_right->bS,getElem?_drop->dB,getElem?_eq_getElem->aE,getElem?_eq_some_iff->aJ,getElem?_map->cP,getElem?_of_mem->cH,getElem?_set->cQ,getElem_of_mem->gL,length_append->bH,length_map->gM,length_set->dO,length_take->cK,mem_append->dN,mem_cons->aU,mem_cons_of_mem->eJ,mem_map->gN,mem_of_getElem?->aH,mem_of_mem_drop->fO,mem_range->cW,mem_singleton->dJ,nil_append->eR,pairwise_iff_getElem->fD,range->aY,replicate->aF,take_of_length_le->gJ
open Nat renaming add_zero->eM,beq->bR,ble->dD,eq_of_testBit_eq->bZ,le_refl->aD,le_trans->bK,lt_of_lt_of_le->aO,mod_eq_of_lt->bV,pow_le_pow_right->aK,shiftRight_eq_div_pow->eO,testBit_lt_two_pow->dV,testBit_or->aV,testBit_two_pow->aR,two_pow_pos->aQ,zero_add->cF
open Ne renaming symm->eT
open Option renaming elim_some->aN,map_eq_some_iff->bU
namespace Go.Clo
theorem Kp.cell{H:Y0}{nx p q:Nat}{H':Y0}{nx':Nat}(e:Kp H nx p q H' nx')(hp:X51 H p)(hq:X51 H q){i s:Nat}{c:List Value}(hi:i<nx)(hg:J0 H i=some (.cells c s)):J0 H' i=some (.cells c s):=
 (e.get i hi (hp.ne (row:=c) (by rw[Q5,hg];rfl)) (hq.ne (row:=c) (by rw[Q5,hg];rfl))).trans hg
end Go.Clo
namespace Go.Proofs.YtoiioigihocgbaaGreatDoor
open Go.Clo
theorem C89(N:Nat)(A:Option Addr)(len cap:Nat)(nb:List Nat)(rc rl:Nat):(E75 N A len cap nb rc rl)[0]? = some (.int .i64 (N:Int)):=rfl
structure V76 (H0:Y0) (nx p rc rl N:Nat) (A:Option Addr) (cap:Nat) (es nb:List Nat) (L:Nat->Rat) (acc:Option Rat) (H:Y0) (m:Nat):Prop where
 sv:SV H m p rc rl N A cap es nb L
 kp:Kp H0 nx rc rl H m
 b6:J0 H nx=some (.cells [.bool false,.slice none 0 0,.slice none 0 0] 0)
 b9:∃ c,V7 c/\J0 H (nx+1+1)=some (.cells c 0)/\∀ b,acc=some b->RR H m (.agg ⟨c⟩) b
 le:nx+1+1+1<=m
theorem V76.step{H0:Y0}{nx p rc rl N:Nat}{A:Option Addr}{cap:Nat}{es nb:List Nat}{L:Nat->Rat}{acc:Option Rat}{H:Y0}{m:Nat}{H':Y0}{m':Nat}(h:V76 H0 nx p rc rl N A cap es nb L acc H m)
  (e:Kp H m rc rl H' m')(s:SV H' m' p rc rl N A cap es nb L):V76 H0 nx p rc rl N A cap es nb L acc H' m':=by
 have J:=h.le;have E:=e.le;have hc:=h.sv.ic;have hl:=h.sv.il;obtain⟨c,h1,h2,h3⟩:=h.b9;refine⟨s,h.kp.trans e,?_,⟨c,h1,?_,fun b hb=>(h3 b hb).kp e hc hl⟩,by omega⟩
 .rw[e.get nx (by omega) (hc.ne (row:=[.bool false,.slice none 0 0,.slice none 0 0]) (by rw[Q5,h.b6];rfl)) (hl.ne (row:=[.bool false,.slice none 0 0,.slice none 0 0]) (by rw[Q5,h.b6];rfl))]
  exact h.b6
 .rw[e.get _ (by omega) (hc.ne (row:=c) (by rw[Q5,h2];rfl)) (hl.ne (row:=c) (by rw[Q5,h2];rfl))]
  exact h2
theorem V76.ext{H0:Y0}{nx p rc rl N:Nat}{A:Option Addr}{cap:Nat}{es nb:List Nat}{L:Nat->Rat}{acc:Option Rat}{H:Y0}{m:Nat}{H':Y0}{m':Nat}(h:V76 H0 nx p rc rl N A cap es nb L acc H m)
  (e:D0 H m H' m'):V76 H0 nx p rc rl N A cap es nb L acc H' m':=h.step e.kp (h.sv.ext e)
theorem V76.set{H0:Y0}{nx p rc rl N:Nat}{A:Option Addr}{cap:Nat}{es nb:List Nat}{L:Nat->Rat}{acc:Option Rat}{H:Y0}{m:Nat}(h:V76 H0 nx p rc rl N A cap es nb L acc H m)(hp:p<nx)
  {c:List Value}{x:Rat}(hc:V7 c)(hx:RR H m (.agg ⟨c⟩) x):V76 H0 nx p rc rl N A cap es nb L (some x) (hs H (nx+1+1) (some (.cells c 0))) m:=by
 obtain⟨d,h1,h2,h3⟩:=h.b9;refine⟨h.sv.boxs h2 (V7.noU h1) (by omega),h.kp.hs (.inl (by omega)),?_,⟨c,hc,Z11 _ _ _,?_⟩,h.le⟩
 .rw[Z1 _ (by omega)];exact h.b6
 .intro b hb
  cases hb
  exact hx.boxs h2 (W81 h1) (.inl rfl)
theorem V88 {p rc rl N cap comp:Nat} {A:Option Addr} {es nb:List Nat} {L:Nat->Rat} (hN:N<=6) (hsm:∀ e ∈ es,e<2^N) (hle:es.length<=8) (hnb:∀ (u x:Nat),nb[u]? = some x->x<2^N)
  (hcov:∀ w,w<N->∃ e ∈ es,e.testBit w=true) (hc:comp<2^N) (hL:∀ l,l≠0->(∀ w,l.testBit w=true->comp.testBit w=true)->L l=M45 N (Y25 es nb N comp) l):
  ∀ (left:Nat),left<2^N->(∀ w,left.testBit w=true->comp.testBit w=true)->∀ (H:Y0) (nx:Nat),SV H nx p rc rl N A cap es nb L ->
  Q2 Tryz.prog 48 [.pointer (some ⟨p,0,none⟩),.int .u32 (comp:Int),.int .u32 (left:Int)] H nx fun v H' nx'=>RR H' nx' v (M45 N (Y25 es nb N comp) left)/\SV H' nx' p rc rl N A cap es nb L/\Kp H nx rc rl H' nx':=by
 intro left
 induction left using Nat.strongRecOn with
 | _ left ih=>
 intro hl hlc H nx h
 have hp64:2^N<=64:=Nat.pow_le_pow_right (n:=2) (by omega) hN
 have hc32:comp<4294967296:=by omega
 have M44:left<4294967296:=by omega
 have hpn:=h.pn
 have hshort:∀ l,U15 (M45 N (Y25 es nb N comp) l) 100000:=fun l=>(K77 (Y75 _ (by omega)) (fun v l=>B65 es N _ hle) l).1
 have hshortS:∀ i b,M70 N (Y25 es nb N comp) left i=some b->U15 b 100000:=(K77 (Y75 _ (by omega)) (fun v l=>B65 es N _ hle) left).2
 refine spec48 ?_
 unfold F48
 have hE1:D0 H nx (hs H nx (some (.cells [.bool false,.slice none 0 0,.slice none 0 0] 0))) (nx+1):=(D0.refl _ _).new _ (Nat.le_refl _) (by omega)
 have g1:J0 (hs H nx (some (.cells [.bool false,.slice none 0 0,.slice none 0 0] 0))) nx=some (.cells [.bool false,.slice none 0 0,.slice none 0 0] 0):=Z11 _ _ _
 have h1:=h.ext hE1
 simp only[W1]
 rw[Q37]
 by_cases h0:left=0
 .subst h0
  simp (disch:=first|omega|assumption|exact G0 (by assumption)|exact U10 (by assumption)|exact X0 (by omega)|fail) only[W0,Q0.val]
  generalize hs H nx (some (.cells [.bool false,.slice none 0 0,.slice none 0 0] 0))=H1 at *
  refine R0 (R73 (n:=0) (by omega) (by omega) _ _) ?_
  rintro r H3 nx3 ⟨hr,hE3⟩
  obtain⟨c,rfl,hcc⟩:=hr.num
  have g3:=(hE3.get nx (by omega)).trans g1
  simp (disch:=first|omega|assumption|exact G0 (by assumption)|exact U10 (by assumption)|exact X0 (by omega)|fail) only[W0,Nat.reduceAdd,hcc.three,hcc.one,g3,G24 (show c.length=[Value.bool false,.slice none 0 0,.slice none 0 0].length from hcc.three),X15 hcc]
  have hE:=(hE1.trans hE3).hs (i:=nx) (b:=some (.cells c 0)) (Nat.le_refl _)
  refine⟨?_,h.ext hE,hE.kp⟩
  rw[C77,if_pos rfl]
  exact hr.boxs g3 (U47 rfl) (.inl rfl)
 have h0':¬ (left:Int)=0:=by omega
 obtain⟨M,hM,hMv⟩:=h1.lm
 have hl35:=Z97 (N:=N) (A:=A) (len:=es.length) (cap:=cap) (rc:=rc) (rl:=rl) h1.nbl
 cases hk:M left with
 | some v=>
  have hv:=hMv left v hk
  rw[hL left h0 hlc] at hv
  obtain⟨c,rfl,hcc⟩:=hv.num
  simp (disch:=first|omega|assumption|exact G0 (by assumption)|exact U10 (by assumption)|exact X0 (by omega)|fail) only[W0,Q0.val,Nat.reduceAdd,h0',h1.hp,hl35,hM.lkS hk,hcc.three,hcc.one,G24 (show c.length=[Value.bool false,.slice none 0 0,.slice none 0 0].length from hcc.three),X15 hcc,g1]
  generalize hs H nx (some (.cells [.bool false,.slice none 0 0,.slice none 0 0] 0))=H1 at *
  have hE6:D0 H1 (nx+1) (hs (hs H1 (nx+1) (some (.cells [.bool false,.slice none 0 0,.slice none 0 0] 0))) (nx+1) (some (.cells c 0))) (nx+1+1):=((D0.refl _ _).new _ (Nat.le_refl _) (m:=nx+1+1) (by omega)).new _ (by omega) (by omega)
  have g6:=(hE6.get nx (by omega)).trans g1
  have hE:=(hE1.trans hE6).hs (i:=nx) (b:=some (.cells c 0)) (Nat.le_refl _)
  refine⟨?_,h.ext hE,hE.kp⟩
  exact (hv.ext hE6).boxs g6 (U47 rfl) (.inl rfl)
 | none=>
  simp (disch:=first|omega|assumption|exact G0 (by assumption)|exact U10 (by assumption)|exact X0 (by omega)|fail) only[W0,Z0,Q0.val,Nat.reduceAdd,h0',h1.hp,hl35,hM.lkN hk,D7]
  generalize hs H nx (some (.cells [.bool false,.slice none 0 0,.slice none 0 0] 0))=H1 at *
  have hE7:D0 H1 (nx+1) (hs (hs (hs H1 (nx+1) (some (.cells [.bool false,.slice none 0 0,.slice none 0 0] 0))) (nx+1) (some (.cells [.bool false,.slice none 0 0,.slice none 0 0] 0))) (nx+1+1) (some (.cells [.bool false,.slice none 0 0,.slice none 0 0] 0))) (nx+1+1+1):=
   (((D0.refl _ _).new _ (Nat.le_refl _) (m:=nx+1+1) (by omega)).new _ (by omega) (m:=nx+1+1) (by omega)).new _ (by omega) (by omega)
  have g7:J0 (hs (hs (hs H1 (nx+1) (some (.cells [.bool false,.slice none 0 0,.slice none 0 0] 0))) (nx+1) (some (.cells [.bool false,.slice none 0 0,.slice none 0 0] 0))) (nx+1+1) (some (.cells [.bool false,.slice none 0 0,.slice none 0 0] 0))) (nx+1+1)=some (.cells [.bool false,.slice none 0 0,.slice none 0 0] 0):=Z11 _ _ _
  have g76:=(hE7.get nx (by omega)).trans g1
  have h7:=h1.ext hE7
  simp (disch:=first|omega|assumption|exact G0 (by assumption)|exact U10 (by assumption)|exact X0 (by omega)|fail) only[W0,C89]
  generalize hs (hs (hs H1 (nx+1) (some (.cells [.bool false,.slice none 0 0,.slice none 0 0] 0))) (nx+1) (some (.cells [.bool false,.slice none 0 0,.slice none 0 0] 0))) (nx+1+1) (some (.cells [.bool false,.slice none 0 0,.slice none 0 0] 0))=H7 at *
  have hst:V76 H nx p rc rl N A cap es nb L none H7 (nx+1+1+1):=
   ⟨h7,(hE1.trans hE7).kp,g76,⟨_,⟨_,_,_,_,_,_,_,rfl⟩,g7,fun b hb=>by cases hb⟩,Nat.le_refl _⟩
  have hs0:([.bool false,.int .i64 0]:List Value)=[.bool (M70 N (Y25 es nb N comp) left 0).isSome,.int .i64 ((0:Nat):Int)]:=rfl
  have hm0:V76 H nx p rc rl N A cap es nb L (M70 N (Y25 es nb N comp) left 0) H7 (nx+1+1+1):=hst
  rw[hs0]
  clear hs0 hst
  refine B1 (m:=N) (fun f L1 H' nx'=>∃ i,f+i=N/\L1=[.bool (M70 N (Y25 es nb N comp) left i).isSome,.int .i64 (i:Int)]/\V76 H nx p rc rl N A cap es nb L (M70 N (Y25 es nb N comp) left i) H' nx') ?_ ⟨0,by omega,rfl,hm0⟩
  rintro f ih1 L1 H2 nx2 ⟨i,hf,rfl,hI⟩ hih
  have hnoc:∀ {c:List Value} (k:VP),V7 c->B10 c 0 (some 3) k=k (.agg ⟨c⟩):=fun k hc=>X15 hc k
  by_cases hi:i<N
  case neg=>
   obtain rfl:i=N:=by omega
   have hi':¬ (i:Int)<(i:Int):=by omega
   obtain⟨u,hu⟩:=Nat.exists_testBit_of_ne_zero h0
   have hu2:u<i:=by
    refine Classical.byContradiction fun hn => ?_
    rw[Nat.testBit_lt_two_pow (Nat.lt_of_lt_of_le hl (Nat.pow_le_pow_right (n:=2) (by omega) (show i<=u by omega)))] at hu
    cases hu
   obtain⟨b,hb⟩:=Y84 (N:=i) (f:=Y25 es nb i comp) (left:=left) ⟨u,hu2,hu⟩
   have hres:M45 i (Y25 es nb i comp) left=b:=by rw[C77,if_neg h0,hb];rfl
   rw[hb] at hI
   clear hih
   have hI':=hI.ext (D0.self (m:=nx2+7) (by omega))
   obtain⟨c9,hc9,g9,hb9⟩:=hI'.b9
   have hbR:=hb9 b rfl
   have g6:=hI'.b6
   have hsv:=hI'.sv
   have hkp:=hI'.kp
   have hle2:=hI.le
   obtain⟨ML,hML,hMLv⟩:=hsv.lm
   obtain⟨MC,hMC,hMCv⟩:=hsv.cm
   have hl35':=Z97 (N:=i) (A:=A) (len:=es.length) (cap:=cap) (rc:=rc) (rl:=rl) hsv.nbl
   have hrl0:=h.rln
   have hrc0:=h.rcn
   simp (disch:=first|omega|assumption|exact G0 (by assumption)|exact U10 (by assumption)|exact X0 (by omega)|fail) only[W0,hi',hsv.hp,hl35',g9,X15 hc9]
   refine hML.put left _ fun mes mc hput => ?_
   obtain⟨mes0,mc0,hgm,_⟩:=hML
   have g9':J0 (hs H2 rl (some (.map mes mc))) (nx+1+1)=_:=(Z1 _ (by omega)).trans g9
   have g6':J0 (hs H2 rl (some (.map mes mc))) nx=_:=(Z1 _ (by omega)).trans g6
   simp (disch:=first|omega|assumption|exact G0 (by assumption)|exact U10 (by assumption)|exact X0 (by omega)|fail) only[W0,Nat.reduceAdd,g9',X15 hc9,hc9.three,hc9.one,g6',G24 (show c9.length=[Value.bool false,.slice none 0 0,.slice none 0 0].length from hc9.three)]
   have hbox:∀ {v:Value} {x:Rat},RR H2 (nx2+7) v x->RR (hs (hs H2 rl (some (.map mes mc))) nx (some (.cells c9 0))) (nx2+7) v x:=fun hv=>
    (hv.boxm hgm).boxs g6' (U47 rfl) (.inl rfl)
   have hk2:Kp H nx rc rl (hs (hs H2 rl (some (.map mes mc))) nx (some (.cells c9 0))) (nx2+7):=(hkp.hs (.inr (.inr rfl))).hs (.inl (Nat.le_refl _))
   have hpl:=h.pl
   rw[hres]
   refine⟨hbox hbR,⟨?_,by omega,by omega,by omega,h.nbl,h.es'.kp hk2 h.ic h.il,⟨MC,hMC.same ?_,fun n v hv=>hbox (hMCv n v hv)⟩,⟨_,hput.same (Z1 _ (by omega)),fun n v hv => ?_⟩,h.ne⟩,hk2⟩
   .rw[Z1 _ (by omega),Z1 _ hpl];exact hsv.hp
   .rw[Z1 _ (by omega),Z1 _ h.ne]
   .by_cases hns:n=left
    .subst hns
     simp only[if_true] at hv
     cases hv
     rw[hL n h0 hlc,hres]
     exact hbox hbR
    .simp only[hns,if_false] at hv
     exact hbox (hMLv n v hv)
  have hi':(i:Int)<(N:Int):=by omega
  have hi32:i<32:=by omega
  simp (disch:=first|omega|assumption|exact G0 (by assumption)|exact U10 (by assumption)|exact X0 (by omega)|fail) only[W0,hi']
  refine N5 (fun L' H' nx'=>L'=[.bool (M70 N (Y25 es nb N comp) left (i+1)).isSome]/\V76 H nx p rc rl N A cap es nb L (M70 N (Y25 es nb N comp) left (i+1)) H' nx') (fun j hj => ?_) ?_
  case refine_2=>
   rintro _ H3 nx3 ⟨rfl,hI3⟩
   simp (disch:=first|omega|assumption|exact G0 (by assumption)|exact U10 (by assumption)|exact X0 (by omega)|fail) only[W0]
   exact hih (f-1) _ _ _ (by omega) ⟨i+1,by omega,by simp,hI3⟩
  clear hih ih1
  cases hb:left.testBit i with
  | false=>
   have hsame:M70 N (Y25 es nb N comp) left (i+1)=M70 N (Y25 es nb N comp) left i:=by rw[M76,if_neg (by simp[hb])]
   rw[hsame] at hj
   simp (disch:=first|omega|assumption|exact G0 (by assumption)|exact U10 (by assumption)|exact X0 (by omega)|fail) only[W0]
   exact hj _ _ _ ⟨rfl,hI⟩
  | true=>
   have hp32:2^i<4294967296:=by have:=R27 hi;omega
   have hnd32:Z2 left (2^i)<4294967296:=U10 M44
   have hnext:M70 N (Y25 es nb N comp) left (i+1)=Z75 (M45 N (Y25 es nb N comp) (Z2 left (2^i))) (Y25 es nb N comp i left) (M70 N (Y25 es nb N comp) left i):=by rw[M76,if_pos hb]
   rw[hnext] at hj
   have hacS:=hshortS i
   generalize M70 N (Y25 es nb N comp) left i=acc at *
   have hwS:=hshort (Z2 left (2^i))
   simp (disch:=first|omega|assumption|exact G0 (by assumption)|exact U10 (by assumption)|exact X0 (by omega)|fail) only[W0]
   refine R0 (ih _ (Q41 hb) (Z6 hl) (Y85 hlc) H2 nx2 hI.sv) ?_
   generalize M45 N (Y25 es nb N comp) (Z2 left (2^i))=w at *
   rintro v3 H3 nx3 ⟨hv3,hs3,hk3⟩
   have hI3:=hI.step hk3 hs3
   have hle3:=hI3.le
   obtain⟨c3,rfl,hc3⟩:=hv3.num
   simp (disch:=first|omega|assumption|exact G0 (by assumption)|exact U10 (by assumption)|exact X0 (by omega)|fail) only[W0,Nat.reduceAdd,hc3.three,hc3.one,G24 (show c3.length=[Value.bool false,.slice none 0 0,.slice none 0 0].length from hc3.three)]
   have hE4:D0 H3 nx3 (hs (hs H3 nx3 (some (.cells [.bool false,.slice none 0 0,.slice none 0 0] 0))) nx3 (some (.cells c3 0))) (nx3+1):=((D0.refl _ _).new _ (Nat.le_refl _) (m:=nx3+1) (by omega)).hs (Nat.le_refl _)
   have g4:J0 (hs (hs H3 nx3 (some (.cells [.bool false,.slice none 0 0,.slice none 0 0] 0))) nx3 (some (.cells c3 0))) nx3=some (.cells c3 0):=Z11 _ _ _
   generalize hs (hs H3 nx3 (some (.cells [.bool false,.slice none 0 0,.slice none 0 0] 0))) nx3 (some (.cells c3 0))=H4 at *
   have hI4:=hI3.ext hE4
   have hv4:=hv3.ext hE4
   refine N5 (fun L' H' nx'=>(∃ q,L'=[.bool q]/\(q=true<->∃ b,acc=some b/\b<=w))/\D0 H4 (nx3+1) H' nx') (fun j5 hj5 => ?_) ?_
   case refine_1=>
    cases acc with
    | none=>
     simp (disch:=first|omega|assumption|exact G0 (by assumption)|exact U10 (by assumption)|exact X0 (by omega)|fail) only[W0,Option.isSome]
     exact hj5 _ _ _ ⟨⟨false,rfl,by simp⟩,D0.refl _ _⟩
    | some b=>
     obtain⟨c9,hc9,g9,hb9⟩:=hI3.b9
     have hbR:=(hb9 b rfl).ext hE4
     simp (disch:=first|omega|assumption|exact G0 (by assumption)|exact U10 (by assumption)|exact X0 (by omega)|fail) only[W0,Option.isSome,g9,X15 hc3,X15 hc9]
     refine R0 (X81 hv4 hbR hwS (hacS _ rfl)) ?_
     rintro _ H5 nx5 ⟨rfl,hE5⟩
     simp (disch:=first|omega|assumption|exact G0 (by assumption)|exact U10 (by assumption)|exact X0 (by omega)|fail) only[W0]
     exact hj5 _ _ _ ⟨⟨_,rfl,by simp[R106]⟩,hE5⟩
   rintro _ H5 nx5 ⟨⟨q,rfl,hq⟩,hE5⟩
   have hI5:=hI4.ext hE5
   have g5:=(hE5.get nx3 (by omega)).trans g4
   have hle5:=hE5.le
   cases q with
   | true=>
    obtain⟨b,rfl,hbw⟩:=hq.1 rfl
    simp (disch:=first|omega|assumption|exact G0 (by assumption)|exact U10 (by assumption)|exact X0 (by omega)|fail) only[W0]
    refine hj _ _ _ ⟨?_,?_⟩
    .simp[Z75,hbw]
    .rw[show Z75 w (Y25 es nb N comp i left) (some b)=some b from if_pos hbw]
     exact hI5
   | false=>
    have hnq:∀ b,acc=some b->¬ b<=w:=fun b hb hbw=>by have:=hq.2 ⟨b,hb,hbw⟩;cases this
    have hE5':D0 H4 (nx3+1) H5 (nx5+10):=hE5.more (by omega)
    have h5':=(hI4.ext hE5').sv
    simp (disch:=first|omega|assumption|exact G0 (by assumption)|exact U10 (by assumption)|exact X0 (by omega)|fail) only[W0,g5,X15 hc3]
    refine R0 (V100 h5' hN hnb hi hc hl) ?_
    rintro _ H6 nx6 ⟨rfl,hE6⟩
    have h6:=h5'.ext hE6
    have g6:=(hE6.get nx3 (by omega)).trans g5
    have hle6:=hE6.le
    have hbl:=R96 (nb:=nb) (v:=i) (comp:=comp) (left:=left) hnb hN hi
    have hbs:=E92 (nb:=nb) (comp:=comp) hN hi hb
    refine R0 (Y87 h6 (by omega) hsm hle hbl (U43 hi hbs) fun v hv=>hcov v ?_) ?_
    .refine Classical.byContradiction fun hn => ?_
     rw[Nat.testBit_lt_two_pow (Nat.lt_of_lt_of_le hbl (Nat.pow_le_pow_right (n:=2) (by omega) (show N<=v by omega)))] at hv
     cases hv
    rintro v7 H7 nx7 ⟨hv7,hs7,hk7⟩
    have hv47:=((hv4.ext hE5').ext hE6).kp hk7 h6.ic h6.il
    have g7:=hk7.cell h6.ic h6.il (by omega) g6
    have hle7:=hk7.le
    refine R0 (G82 hv47 hv7 hwS (B65 _ _ _ hle)) ?_
    rw[show Y74 es N (C78 nb N i comp left)=Y25 es nb N comp i left from rfl]
    have hcS:U15 (Y25 es nb N comp i left) 100000:=B65 _ _ _ hle
    generalize Y25 es nb N comp i left=cv at *
    rintro v8 H8 nx8 ⟨hv8,hE8⟩
    obtain⟨c8,rfl,hc8⟩:=hv8.num
    have g8:=(hE8.get nx3 (by omega)).trans g7
    have hs8:=hs7.ext hE8
    have hle8:=hE8.le
    simp (disch:=first|omega|assumption|exact G0 (by assumption)|exact U10 (by assumption)|exact X0 (by omega)|fail) only[W0,hc8.three,hc8.one,g8,G24 (show c8.length=c3.length by rw[hc8.three,hc3.three]),g7,g6,X15 hc3]
    have hI8:=hI3.step ((((hE4.kp.trans hE5'.kp).trans hE6.kp).trans hk7).trans hE8.kp) hs8
    have hk9:Kp H3 nx3 rc rl (hs H8 nx3 (some (.cells c8 0))) nx8:=((((hE4.kp.trans hE5'.kp).trans hE6.kp).trans hk7).trans hE8.kp).hs (.inl (Nat.le_refl _))
    have hs9:=hs8.boxs (l':=c8) g8 (V7.noU hc3) (by have:=hs3.pn;omega)
    have hv9:=hv8.boxs (row':=c8) g8 (W81 hc3) (.inl rfl) (s':=0)
    have hI9:=hI3.step hk9 hs9
    have hb89:∀ v x,RR H8 nx8 v x->RR (hs H8 nx3 (some (.cells c8 0))) nx8 v x:=fun v x hh=>hh.boxs g8 (W81 hc3) (.inl rfl)
    have g9':J0 (hs H8 nx3 (some (.cells c8 0))) nx3=some (.cells c8 0):=Z11 _ _ _
    generalize hs H8 nx3 (some (.cells c8 0))=H9 at *
    have hgS:=E78 hwS hcS
    refine⟨by rw[hc3.three];omega,?_⟩
    refine N5 (fun L' H' nx'=>(∃ q,L'=[.bool q]/\(q=true<->∀ b,acc=some b->gr w cv<b))/\D0 H9 nx8 H' nx') (fun j10 hj10 => ?_) ?_
    case refine_1=>
     cases acc with
     | none=>
      simp (disch:=first|omega|assumption|exact G0 (by assumption)|exact U10 (by assumption)|exact X0 (by omega)|fail) only[W0,Option.isSome]
      exact hj10 _ _ _ ⟨⟨true,rfl,by simp⟩,D0.refl _ _⟩
     | some b=>
      obtain⟨c9,hc9,g9,hb9⟩:=hI8.b9
      have hbR:=hb89 _ _ (hb9 b rfl)
      simp (disch:=first|omega|assumption|exact G0 (by assumption)|exact U10 (by assumption)|exact X0 (by omega)|fail) only[W0,Option.isSome,g9,X15 hc8,X15 hc9]
      refine R0 (X81 hv9 hbR hgS (hacS _ rfl)) ?_
      rintro _ H10 nx10 ⟨rfl,hE10⟩
      simp (disch:=first|omega|assumption|exact G0 (by assumption)|exact U10 (by assumption)|exact X0 (by omega)|fail) only[W0]
      exact hj10 _ _ _ ⟨⟨_,rfl,by simp[D77]⟩,hE10⟩
    rintro _ H10 nx10 ⟨⟨q,rfl,hq2⟩,hE10⟩
    have hI10:=hI9.ext hE10
    have g10:=(hE10.get nx3 (by omega)).trans g9'
    cases q with
    | true=>
     have hst:Z75 w cv acc=some (gr w cv):=by
      cases acc with
      | none=>rfl
      | some b=>
       show (if b<=w then _ else _)=_
       rw[if_neg (hnq b rfl),if_pos (hq2.1 rfl b rfl)]
     obtain⟨c9,hc9,g9,hb9⟩:=hI10.b9
     simp (disch:=first|omega|assumption|exact G0 (by assumption)|exact U10 (by assumption)|exact X0 (by omega)|fail) only[W0,g10,X15 hc8,hc8.three,hc8.one,g9,G24 (show c8.length=c9.length by rw[hc8.three,hc9.three])]
     refine⟨by rw[hc9.three];omega,hj _ _ _ ?_⟩
     rw[hst]
     exact⟨rfl,hI10.set hpn hc8 (hv9.ext hE10)⟩
    | false=>
     have hst:Z75 w cv acc=acc:=by
      cases acc with
      | none=>have:=hq2.2 (by simp);cases this
      | some b=>
       show (if b<=w then _ else _)=_
       have:¬ gr w cv<b:=fun hh=>by have:=hq2.2 (fun b' e=>by cases e;exact hh);cases this
       rw[if_neg (hnq b rfl),if_neg this]
     simp (disch:=first|omega|assumption|exact G0 (by assumption)|exact U10 (by assumption)|exact X0 (by omega)|fail) only[W0]
     refine hj _ _ _ ?_
     rw[hst]
     exact⟨rfl,hI10⟩
section
variable {H:Y0} {a i n o top u v x:Nat} {l rest:List Nat} {p:Nat->Bool}
theorem N25{q:Nat->Bool}(h:∀ w,w<n->p w=q w):Q1 p n=Q1 q n:=by
 apply bZ;intro i;rw[E26,E26]
 by_cases hi:i<n
 .rw[h i hi]
 .simp[hi]
abbrev Nb:=Nat->Nat->Bool
def K9(N:Nb)(v:Nat)(rest:List Nat)(w:Nat):Bool:=N v w&&decide (w ∈ rest)
def U9(N:Nb)(v:Nat)(rest:List Nat):Nb:=fun a b=>N a b || (decide (a≠b)&&(K9 N v rest a&&K9 N v rest b))
def Y61(N:Nb)(v:Nat)(rest:List Nat):Int:=match rest.find? (N v) with
 | some w=>(w:Int)
 | none => -1
def J82(n:Nat)(N:Nb)(v:Nat)(rest:List Nat):Bag:=⟨v,Q1 (K9 N v rest) n,Y61 N v rest⟩
def Y72(n:Nat):List Bag->Nb->List Nat->List Bag
 | out,_,[]=>out
 | out,N,v :: rest=>Y72 n (out.set v (J82 n N v rest)) (U9 N v rest) rest
theorem V94(n:Nat):∀(E:List Nat) (out:List Bag) (N:Nb),(Y72 n out N E).length=out.length
 | [],_,_=>rfl
 | v :: rest,out,N=>by rw[Y72,V94 n rest];simp
theorem R19{n:Nat}(hn:n<=32)(p:Nat->Bool):Q1 p n<4294967296:=
 aO (G11 p n) (bK (aK (by omega) hn) (by decide))
theorem M27{n:Nat}(hn:n<=1000000)(z:List Value)(k:List Value->Nat->Nat->Prop):D30 (.int .i64 (n:Int)) (.int .i64 (n:Int)) z k=k (Q19 z n) n n:=by
 show cond (dD n n&&dD n 1000000) (Go.Clo.spine (Q19 z n) fun cs=>k cs n n) False=_;rw[V6 (aD n),V6 hn,V14];rfl
theorem C23:∀ n:Nat,Q19 [.int .u32 0] n=K12 (aF n 0)
 | 0=>rfl
 | n+1=>by rw[Q19,C23 n];rfl
def G50:Bag:=⟨0,0,0⟩
theorem Z89:∀ n:Nat,Q19 [.int .i64 0,.int .u32 0,.int .i64 0] n=R34 (aF n G50)
 | 0=>rfl
 | n+1=>by rw[Q19,Z89 n];rfl
theorem Z92{b:Bag}:∀ {bs:List Bag} {v:Nat},v<bs.length->B12 (R34 bs) (v*3) (W73 b)=R34 (bs.set v b)
 | [],v,h=>by simp at h
 | c :: bs,0,h=>by simp[R34,B12,W73]
 | c :: bs,v+1,h=>by
  have ih:=Z92 (b:=b) (bs:=bs) (v:=v) (by simpa using h);have e1:R34 (c :: bs)=W73 c++R34 bs:=rfl;have e2:R34 ((c :: bs).set (v+1) b)=W73 c++R34 (bs.set v b):=rfl;have e3:(v+1)*3=3+v*3:=by omega
  rw[e1,e2,<- ih,e3];unfold B12;have hc:(W73 c).length=3:=rfl;rw[List.take_append,List.drop_append,hc,gJ (by rw[hc];omega),List.drop_eq_nil_of_le (by rw[hc];omega)];have a1:3+v*3-3=v*3:=by omega
  have a2:3+v*3+(W73 b).length-3=v*3+(W73 b).length:=by omega
  rw[a1,a2];simp
theorem Z19{α:Type}{l:List α}{x:α}(h:l[i]? = some x):l.drop i=x :: l.drop (i+1):=by
 have hi:=N12 h;rw[List.drop_eq_getElem_cons hi];congr 1;exact(aJ.mp h).2
theorem Q44(E:l.Nodup)(h:l[i]? = some x):x ∉ l.drop (i+1):=by
 have h1:(l.drop i).Nodup:=E.sublist (List.drop_sublist _ _);rw[Z19 h] at h1;exact(List.nodup_cons.mp h1).1
structure Z44 (N:Nb):Prop where
 symm:∀ a b,N a b=N b a
 irr:∀ a,N a a=false
theorem Y70(es:List Nat):Z44 (adj es):=⟨Z43 es,E43 es⟩
theorem Y66{N:Nb}(h:Z44 N)(v:Nat)(rest:List Nat):Z44 (U9 N v rest):=by
 refine⟨fun a b => ?_,fun a => ?_⟩
 .unfold U9
  rw[h.symm a b,Bool.and_comm (K9 N v rest a)];have:decide (a≠b)=decide (b≠a):=by congr 1;apply propext;exact ne_comm
  rw[this]
 .simp[U9,h.irr]
theorem G105{N:Nb}(h:Z44 N)(v n:Nat)(rest:List Nat):Q1 (K9 N v (v :: rest)) n=Q1 (K9 N v rest) n:=
 N25 fun w _=>by
  unfold K9
  by_cases hw:w=v
  .subst hw;simp[h.irr]
  .simp[hw]
theorem K107{N:Nb}(h:Z44 N){v:Nat}(hu:u ∈ rest)(hk:K9 N v rest u=false):Q1 (K9 N u (v :: rest)) n=Q1 (K9 (U9 N v rest) u rest) n:=
 N25 fun w _=>by
  have E:N v u=false:=by simpa [K9,hu] using hk
  have J:N u v=false:=by rw[h.symm];exact E
  simp only[K9,U9,E,aU,Bool.false_and,Bool.and_false,Bool.or_false]
  by_cases hw:w=v
  .subst hw;simp[J]
  .simp[hw]
theorem N107{N:Nb}(h:Z44 N){v:Nat}(U:v ∉ rest)(hk:K9 N v rest u=true):
  Z2 (Q1 (K9 N u (v :: rest)) n ||| Q1 (K9 N v rest) n) (2^u ||| 2^v)=Q1 (K9 (U9 N v rest) u rest) n:=by
 apply bZ;intro w;rw[N1,aV,aV,E26,E26,E26,aR,aR];have O:=hk;simp only[K9,aG,decide_eq_true_eq] at O
 by_cases E:w<n
 .simp only[E,decide_true,Bool.true_and]
  by_cases Q:w=u
  .subst Q
   simp[K9,U9,h.irr]
  .have e1:decide (u=w)=false:=by simp;omega
   have e3:decide (u≠w)=true:=by simp;omega
   by_cases J:w=v
   .subst J
    simp[K9,U]
   .have e2:decide (v=w)=false:=by simp;omega
    simp only[e1,e2,Bool.or_false,Bool.not_false,Bool.and_true];simp only[K9,U9,e3,aU,J,false_or,Bool.true_and];have:(N v u&&decide (u ∈ rest))=true:=hk;rw[this,Bool.true_and]
    cases decide (w ∈ rest)<;>simp
 .simp[E]
def R99(N:Nb)(v:Nat)(E rest:List Nat)(u:Nat)(par:Int):Prop:=
 (par = -1/\∀ w,w<u->K9 N v rest w=false)\/∃ p jp:Nat,par=p/\E[jp]? = some p/\K9 N v rest p=true/\∀ w jw:Nat,w<u->E[jw]? = some w->K9 N v rest w=true->jp<=jw
theorem B43(h:l.Nodup){j:Nat}(hi:l[i]? = some x)(hj:l[j]? = some x):i=j:=by
 rcases Nat.lt_trichotomy i j with hl | he | hg
 .have:=(fD.mp h) i j (N12 hi) (N12 hj) hl
  exact absurd (by rw[(aJ.mp hi).2,(aJ.mp hj).2]) this
 .exact he
 .have:=(fD.mp h) j i (N12 hj) (N12 hi) hg
  exact absurd (by rw[(aJ.mp hi).2,(aJ.mp hj).2]) this
theorem D107{N:Nb}{E:List Nat}{par:Int}(a2:E.Nodup)(a0:∀ w ∈ E,w<n)(h:R99 N v E (E.drop (i+1)) n par):par=Y61 N v (E.drop (i+1)):=by
 unfold Y61
 cases hf:(E.drop (i+1)).find? (N v) with
 | none=>
  rw[List.find?_eq_none] at hf;rcases h with ⟨h,_⟩ | ⟨p,jp,_,_,hk,_⟩
  .exact h
  .simp only[K9,aG,decide_eq_true_eq] at hk
   exact absurd hk.1 (hf p hk.2)
 | some w0=>
  obtain⟨a3,t,ht,W,J⟩:=List.find?_eq_some_iff_getElem.mp hf;have h0:E[i+1+t]? = some w0:=by
   rw[<- W,<- dB];exact aE ht
  have Q:w0 ∈ E.drop (i+1):=W ▸ List.getElem_mem ht;have U:K9 N v (E.drop (i+1)) w0=true:=by simp[K9,a3,Q]
  have O:=a0 w0 (fO Q);rcases h with ⟨_,h⟩ | ⟨p,jp,rfl,a4,hk,Z⟩
  .rw[h w0 O] at U;cases U
  .have a6:=Z w0 _ O h0 U
   simp only[K9,aG,decide_eq_true_eq] at hk;obtain⟨s,hs,V⟩:=gL hk.2;have a5:E[i+1+s]? = some p:=by
    rw[<- V,<- dB];exact aE hs
   have hj:=B43 a2 a4 a5
   by_cases a1:s<t
   .have:=J s a1
    rw[V] at this;simp[hk.1] at this
   .have:s=t:=by omega
    subst this;rw[<- V,W]
theorem E107:[cD .i64 0,.int .i64 0,.int .i64 0,.int .i64 0,.int .i64 0,.int .i64 0,.int .i64 0,.int .i64 0,.int .i64 0,.int .i64 0,.int .i64 0,.int .i64 0,.int .i64 0,.int .i64 0,.int .i64 0,.int .i64 0,.int .i64 0,.int .i64 0,.int .i64 0,.int .i64 0,.int .i64 0,.int .i64 0,.int .i64 0,.int .i64 0,.int .i64 0,.int .i64 0,.int .i64 0,.int .i64 0,.int .i64 0,.int .i64 0,.int .i64 0,.int .i64 0]=U4 (aF 32 0):=rfl
theorem C107(b:Nat)(k:VP):D90 (.pointer (some ⟨b,0,none⟩)) 32 1 none none none k=k (.slice (some ⟨b,0,none⟩) 32 32):=by
 have e:B26 (some ⟨b,0,none⟩) 32 32 1 none none none false=some (.slice (some ⟨b,0,none⟩) 32 32):=rfl;unfold D90;simp only[e,E7]
theorem Q100{l:List Int}(h:l.length<=32):B12 (U4 (aF 32 0)) 0 (U4 l)=U4 (l++aF (32-l.length) 0):=by
 simp only[B12,U4,List.map_replicate,List.take_zero,eR,List.drop_replicate,List.map_append,gM,cF]
theorem N88{f:Nat}:∀ {m i:Nat},i<m->(R6 f m)[i]? = some ((f:Int)-1-i)
 | 0,i,h=>by omega
 | m+1,i,h=>by
  unfold R6
  by_cases hi:i<m
  .rw[bQ (by rw[Y17];exact hi)];exact N88 hi
  .have:i=m:=by omega
   subst this;rw[bS (by rw[Y17];omega),Y17];simp
theorem Q77{f:Nat}:∀ {m:Nat} {x:Int},x ∈ R6 f m->∃ i:Nat,i<m/\x=(f:Int)-1-i
 | 0,x,h=>by simp[R6] at h
 | m+1,x,h=>by
  unfold R6 at h;simp only[dN,dJ] at h;rcases h with h | h
  .obtain⟨i,hi,e⟩:=Q77 h;exact⟨i,by omega,e⟩
  .exact⟨m,by omega,h⟩
theorem R84{f:Nat}:∀ m:Nat,(R6 f m).Nodup
 | 0=>by simp[R6]
 | m+1=>V89 (R84 m) fun h=>by obtain⟨i,hi,e⟩:=Q77 h;omega
theorem R85:∀{l:List Int},(∀ x ∈ l,0<=x)->l.Nodup->(l.map Int.toNat).Nodup
 | [],_,_=>by simp
 | x :: l,h0,h=>by
  rw[List.nodup_cons] at h;rw[List.map_cons,List.nodup_cons];refine⟨fun hm => ?_,R85 (fun y hy=>h0 y (eJ _ hy)) h.2⟩;obtain⟨y,hy,e⟩:=gN.mp hm;have h1:=h0 x List.mem_cons_self;have h2:=h0 y (eJ _ hy);have:y=x:=by omega
  subst this;exact h.1 hy
theorem J77{l:List Int}{f:Nat}(h:V72 l f n):∃ E:List Nat,(l++R6 f f=E.map fun(w:Nat)=>(w:Int))/\E.Nodup/\(∀ w ∈ E,w<n)/\E.length=n:=by
 obtain⟨h1,h2,h3⟩:=h;have J:∀ x ∈ l++R6 f f,0<=x/\x<n:=by
  intro x hx;rcases dN.mp hx with hx | hx
  .have:=h2 x hx;omega
  .obtain⟨i,hi,e⟩:=Q77 hx;omega
 refine⟨(l++R6 f f).map Int.toNat,?_,R85 (fun x hx=>(J x hx).1) ?_,?_,?_⟩
 .rw[List.map_map]
  conv=>lhs;rw[<- List.map_id (l++R6 f f)]
  exact List.map_congr_left fun x hx=>by have:=(J x hx).1;simp;omega
 .rw[List.nodup_append]
  exact⟨h3,R84 f,fun a ha b hb e=>by
   subst e;have:=h2 a ha;obtain⟨i,hi,e⟩:=Q77 hb;omega⟩
 .intro w hw
  obtain⟨x,hx,rfl⟩:=gN.mp hw;have:=J x hx;omega
 .simp[Y17];omega
theorem Q58{E:List Nat}{w:Nat}(O:E.Nodup)(J:∀ w ∈ E,w<n)(Q:E.length=n)(hw:w<n):w ∈ E:=by
 refine aI fun h => ?_
 have h1:(w :: E).Nodup:=List.nodup_cons.mpr ⟨h,O⟩;have h2:=List.Nodup.length_le_of_subset (l₂:=aY n) h1 fun x hx=>by
  rw[cW];rcases aU.mp hx with rfl | hx
  .exact hw
  .exact J x hx
 simp at h2;omega
def refuse(c:Int):Value := .tuple ⟨[.slice none 0 0,.int .i64 c]⟩
structure M13 (K:Y0) (top a o:Nat) (near:List Nat) (out:List Bag) (H:Y0):Prop where
 near:J0 H a=some (.cells (K12 near) 0)
 out:J0 H o=some (.cells (R34 out) 0)
 same:∀ q,q<top->q≠a->q≠o->J0 H q=J0 K q
theorem M13.setNear{K:Y0}{top a o:Nat}{near:List Nat}{out:List Bag}(h:M13 K top a o near out H)(E:a≠o)(l:List Nat):M13 K top a o l out (hs H a (some (.cells (K12 l) 0))):=
 ⟨Z11 _ _ _,by rw[Z1 _ (by omega)];exact h.out,fun q h0 h1 h2=>by rw[Z1 _ h1];exact h.same q h0 h1 h2⟩
theorem M13.setOut{K:Y0}{near:List Nat}{out:List Bag}(h:M13 K top a o near out H)(E:a≠o)(l:List Bag):M13 K top a o near l (hs H o (some (.cells (R34 l) 0))):=
 ⟨by rw[Z1 _ E];exact h.near,Z11 _ _ _,fun q h0 h1 h2=>by rw[Z1 _ h2];exact h.same q h0 h1 h2⟩
theorem M13.setNew{K:Y0}{near:List Nat}{out:List Bag}(h:M13 K top a o near out H){q:Nat}(hq:top<=q)(ha:a<top)(ho:o<top)(b:Option V3):M13 K top a o near out (hs H q b):=
 ⟨by rw[Z1 _ (by omega)];exact h.near,by rw[Z1 _ (by omega)];exact h.out,fun r h0 h1 h2=>by rw[Z1 _ (by omega)];exact h.same r h0 h1 h2⟩
theorem K109 (N0 free:Int) (A:Option Addr) (es:List Nat) (cap:Nat) (P:Option Addr) (l:List Int) (capP:Nat) (H:Y0) (nx:Nat) (hS:Sl H nx A (K12 es)) (hsm:U14 es)
  (hP:Sl H nx P (U4 l)) (hP0:Has H nx P) (hl:l.length<=40):
  Q2 Tryz.prog 76 [gv N0 A es.length cap,.int .i64 free,.slice P l.length capP] H nx fun r H' nx'=>D0 H nx H' nx' /\
   ((Q6 N0 free es≠0/\r=refuse (Q6 N0 free es))\/(∃ n f:Nat,N0=n/\free=f/\f<=n/\n<=32/\Q6 N0 free es=0 /\
    ((¬ V72 l f n/\r=refuse 1)\/(V72 l f n/\∃ order:List Nat,(l++R6 f f=order.map fun (w:Nat)=>(w:Int))/\order.Nodup/\(∀ w ∈ order,w<n)/\order.length=n /\
     ∃ R,r = .tuple ⟨[.slice R n n,.int .i64 0]⟩/\Sl H' nx' R (R34 (Y72 n (List.replicate n G50) (adj es) order))/\∃ o,R=some ⟨o,0,none⟩/\nx<=o/\o<nx'/\J0 H' o=some (.cells (R34 (Y72 n (List.replicate n G50) (adj es) order)) 0))))):=by
 refine spec76 ?_
 unfold F76
 have hE1:D0 H nx (hs H nx (some (.cells [.int .i64 N0,.slice A es.length cap] 0))) (nx+1):=(D0.refl H nx).new _ (Nat.le_refl _) (by omega)
 simp (config:={ maxSteps:=2000000 }) (disch:=first|omega|assumption|exact G0 (by assumption)|exact U10 (by assumption)|exact X0 (by omega)|fail) only[W0,Z0,Q0.val,C13,E107,Q27]
 refine R0 (U86 N0 free A es cap _ _ (hS.ext hE1) hsm) ?_
 rintro _ H2 nx2 ⟨rfl,hE2⟩
 have hEE2:=hE1.trans hE2
 have hg2:=hE2.get nx (by omega)
 rw[Z11] at hg2
 have hnx2:=hE2.le
 by_cases hfc:Q6 N0 free es=0
 case neg=>
  have d1:decide (Q6 N0 free es≠0)=true:=by simp[hfc]
  simp (disch:=first|omega|assumption|exact G0 (by assumption)|exact U10 (by assumption)|exact X0 (by omega)|fail) only[W0,d1]
  exact⟨hEE2,.inl ⟨hfc,rfl⟩⟩
 have d1:decide (Q6 N0 free es≠0)=false:=by simp[hfc]
 obtain⟨n,f,rfl,rfl,hn,hfn,hle,hes⟩:=U27 hfc
 simp (config:={ maxSteps:=2000000 }) (disch:=first|omega|assumption|exact G0 (by assumption)|exact U10 (by assumption)|exact X0 (by omega)|fail) only[W0,d1]
 have good:∀ {r:Value} {H':Y0} {nx':Nat},D0 H nx H' nx'->((¬ V72 l f n/\r=refuse 1)\/(V72 l f n/\∃ order:List Nat,(l++R6 f f=order.map fun (w:Nat)=>(w:Int))/\order.Nodup/\(∀ w ∈ order,w<n)/\order.length=n /\
     ∃ R,r = .tuple ⟨[.slice R n n,.int .i64 0]⟩/\Sl H' nx' R (R34 (Y72 n (List.replicate n G50) (adj es) order))/\∃ o,R=some ⟨o,0,none⟩/\nx<=o/\o<nx'/\J0 H' o=some (.cells (R34 (Y72 n (List.replicate n G50) (adj es) order)) 0))) ->
   D0 H nx H' nx'/\((Q6 (n:Int) (f:Int) es≠0/\r=refuse (Q6 (n:Int) (f:Int) es))\/(∃ n' f':Nat,(n:Int)=n'/\(f:Int)=f'/\f'<=n'/\n'<=32/\Q6 (n:Int) (f:Int) es=0 /\
    ((¬ V72 l f' n'/\r=refuse 1)\/(V72 l f' n'/\∃ order:List Nat,(l++R6 f' f'=order.map fun (w:Nat)=>(w:Int))/\order.Nodup/\(∀ w ∈ order,w<n')/\order.length=n' /\
     ∃ R,r = .tuple ⟨[.slice R n' n',.int .i64 0]⟩/\Sl H' nx' R (R34 (Y72 n' (List.replicate n' G50) (adj es) order))/\∃ o,R=some ⟨o,0,none⟩/\nx<=o/\o<nx'/\J0 H' o=some (.cells (R34 (Y72 n' (List.replicate n' G50) (adj es) order)) 0))))):=
  fun hE h=>⟨hE,.inr ⟨n,f,rfl,rfl,hfn,hn,hfc,h⟩⟩
 refine B1 (m:=l.length) (fun m L H' nx'=>∃ i seen:Nat,m+i=l.length/\L=[.int .u32 (seen:Int),.int .i64 (i:Int)]/\seen<4294967296/\(∀ w:Nat,seen.testBit w=decide ((w:Int) ∈ l.take i)) /\
  (∀ x ∈ l.take i,(f:Int)<=x/\x<(n:Int))/\(l.take i).Nodup/\H2=H'/\nx2=nx') ?_ ⟨0,0,rfl,rfl,by omega,by simp,by simp,by simp,rfl,rfl⟩
 rintro m ih L _ _ ⟨i,seen,hm,rfl,hseen,hbits,hin,hnd,rfl,rfl⟩ hih
 simp (config:={ maxSteps:=2000000 }) (disch:=first|omega|assumption|exact G0 (by assumption)|exact U10 (by assumption)|exact X0 (by omega)|fail) only[W0]
 by_cases hi:i<l.length
 case pos=>
  have hi':(i:Int)<(l.length:Int):=by omega
  obtain⟨x,hx⟩:∃ x,l[i]? = some x:=⟨_,List.getElem?_eq_getElem hi⟩
  obtain⟨B,o,row,rfl,hBn,hrow,hget⟩:=(hP.ext hEE2).open (i:=i) (by rw[X9];omega)
  have g0:=hget _ _ (Z9 hx)
  have bad:¬ ((f:Int)<=x/\x<(n:Int))->¬ V72 l f n:=fun h1 h2=>h1 (h2.2.1 x (List.mem_of_getElem? hx))
  simp (disch:=first|omega|assumption|exact G0 (by assumption)|exact U10 (by assumption)|exact X0 (by omega)|fail) only[W0,hi',N13,X3 hrow,g0,hg2]
  by_cases h1:x<(f:Int)
  .simp (disch:=first|omega|assumption|exact G0 (by assumption)|exact U10 (by assumption)|exact X0 (by omega)|fail) only[W0,h1]
   exact good hEE2 (.inl ⟨bad (by omega),rfl⟩)
  by_cases h2:x ≥ (n:Int)
  .simp (disch:=first|omega|assumption|exact G0 (by assumption)|exact U10 (by assumption)|exact X0 (by omega)|fail) only[W0,h1,h2]
   exact good hEE2 (.inl ⟨bad (by omega),rfl⟩)
  obtain⟨w,rfl⟩:∃ w:Nat,x=w:=⟨x.toNat,by omega⟩
  have hw:w<32:=by omega
  have hb:=hbits w
  cases hsw:seen.testBit w with
  | true=>
   simp (disch:=first|omega|assumption|exact G0 (by assumption)|exact U10 (by assumption)|exact X0 (by omega)|fail) only[W0,h1,h2,hsw]
   refine good hEE2 (.inl ⟨fun hp => ?_,rfl⟩)
   rw[hsw] at hb
   have hmem:(w:Int) ∈ l.take i:=by simpa using hb.symm
   obtain⟨j,hj,hje⟩:=List.getElem_of_mem hmem
   simp at hj
   have hj2:l[j]? = some (w:Int):=by rw[<- hje,List.getElem_take];exact List.getElem?_eq_getElem (by omega)
   have hne:=(List.pairwise_iff_getElem.mp hp.2.2) j i (by omega) hi (by omega)
   exact hne (by rw[(List.getElem?_eq_some_iff.mp hj2).2,(List.getElem?_eq_some_iff.mp hx).2])
  | false=>
   have hp32:2^w<4294967296:=Y18 hw
   rw[hsw] at hb
   have hnm:(w:Int) ∉ l.take i:=by simpa using hb.symm
   simp (disch:=first|omega|assumption|exact G0 (by assumption)|exact U10 (by assumption)|exact X0 (by omega)|fail) only[W0,h1,h2,hsw]
   refine hih (m-1) _ _ _ (by omega) ⟨i+1,seen ||| 2^w,by omega,by simp,M54 hseen hp32,fun u => ?_,?_,?_,rfl,rfl⟩
   .rw[Nat.testBit_or,hbits,Nat.testBit_two_pow,C7 hx]
    by_cases huw:u=w
    .subst huw;simp
    .have e1:decide (w=u)=false:=by simp;omega
     have e2:¬ (u:Int)=(w:Int):=by omega
     simp[e1,e2]
   .rw[C7 hx]
    intro z hz
    simp only[List.mem_append,List.mem_singleton] at hz
    rcases hz with hz | rfl
    .exact hin z hz
    .omega
   .rw[C7 hx];exact V89 hnd hnm
 have hi':¬ (i:Int)<(l.length:Int):=by omega
 rw[D23 hi] at hin hnd
 by_cases hlen:l.length+f=n
 case neg=>
  have d2:decide ((l.length:Int)≠(n:Int)-(f:Int))=true:=by simp;omega
  simp (disch:=first|omega|assumption|exact G0 (by assumption)|exact U10 (by assumption)|exact X0 (by omega)|fail) only[W0,hi',hg2,d2]
  exact good hEE2 (.inl ⟨fun hp=>hlen hp.1,rfl⟩)
 have d2:decide ((l.length:Int)≠(n:Int)-(f:Int))=false:=by simp;omega
 have hpok:V72 l f n:=⟨hlen,hin,hnd⟩
 simp (config:={ maxSteps:=2000000 }) (disch:=first|omega|assumption|exact G0 (by assumption)|exact U10 (by assumption)|exact X0 (by omega)|fail) only[W0,hi',hg2,d2]
 clear hih
 obtain⟨order,hord,hond,holt,holen⟩:=J77 hpok
 have M44:l.length<=32:=by omega
 generalize hK:hs (hs H2 nx2 (some (.cells (U4 (List.replicate 32 0)) 0))) (nx2+1) (some (.cells (U4 (List.replicate 32 0)) 0))=K
 have kO:J0 K nx2=some (.cells (U4 (List.replicate 32 0)) 0):=by rw[<- hK,Z1 _ (by omega),Z11]
 have kP:J0 K (nx2+1)=some (.cells (U4 (List.replicate 32 0)) 0):=by rw[<- hK,Z11]
 have hEK:D0 H2 nx2 K (nx2+1+1):=by rw[<- hK];exact ((D0.self (by omega):D0 H2 nx2 H2 (nx2+1+1)).hs (by omega)).hs (by omega)
 have kG:=(hEK.get nx (by omega)).trans hg2
 have z32:(U4 (List.replicate 32 0)).length=32:=by rw[X9];simp
 rw[C107,J79 kO (C27 (hP.ext (hEE2.trans hEK)) (hP0.ext (hEE2.trans hEK)) (by rw[X9];omega) (by omega)) M44 (K13 l) (by rw[X9,z32];exact M44),Q100 M44]
 refine B1 (m:=f) (fun m L H' nx'=>∃ (i:Nat) (ol:List Int),m+i=f/\L=[.int .i64 (i:Int)]/\ol.length=32/\(∀ j,j<l.length+i->ol[j]? = (l++R6 f f)[j]?) /\
  J0 H' nx2=some (.cells (U4 ol) 0)/\(∀ q,q≠nx2->J0 H' q=J0 K q)/\nx2+1+1=nx') ?_ ⟨0,l++List.replicate (32-l.length) 0,rfl,rfl,by simp;omega,fun j hj=>by
   rw[List.getElem?_append_left (by omega),List.getElem?_append_left (by omega)],Z11 _ _ _,fun q hq=>Z1 _ hq,rfl⟩
 rintro m3 ih3 L3 H3 _ ⟨i3,ol,hm3,rfl,holn,hov,hO3,hsame3,rfl⟩ hih3
 simp (config:={ maxSteps:=2000000 }) (disch:=first|omega|assumption|exact G0 (by assumption)|exact U10 (by assumption)|exact X0 (by omega)|fail) only[W0]
 by_cases hi3:i3<f
 case pos=>
  have hi3':(i3:Int)<(f:Int):=by omega
  have hidx:((l.length:Int)+(i3:Int)).toNat=l.length+i3:=by omega
  have hb3:l.length+i3<ol.length:=by omega
  have hol3:(U4 ol).length=32:=by rw[X9];exact holn
  simp (disch:=first|omega|assumption|exact G0 (by assumption)|exact U10 (by assumption)|exact X0 (by omega)|fail) only[W0,Nat.reduceLeDiff,hi3',hidx,hO3,J92 hb3,hol3]
  refine⟨by omega,hih3 (m3-1) _ _ _ (by omega) ⟨i3+1,ol.set (l.length+i3) ((f:Int)-1-i3),by omega,by simp,by rw[List.length_set];exact holn,fun j hj => ?_,Z11 _ _ _,fun q hq=>by rw[Z1 _ hq];exact hsame3 q hq,rfl⟩⟩
  rw[List.getElem?_set]
  by_cases hjj:l.length+i3=j
  .subst hjj
   rw[if_pos rfl,if_pos (by omega),List.getElem?_append_right (by omega),Nat.add_sub_cancel_left,N88 hi3]
  .rw[if_neg hjj];exact hov j (by omega)
 have hi3':¬ (i3:Int)<(f:Int):=by omega
 have hi3e:i3=f:=by omega
 subst hi3e
 have hon:∀ (j w:Nat),order[j]? = some w->ol[j]? = some (w:Int):=by
  intro j w hj
  rw[hov j (by have:=N12 hj;omega),hord]
  simp[hj]
 have hG3:=(hsame3 nx (by omega)).trans kG
 simp (config:={ maxSteps:=2000000 }) (disch:=first|omega|assumption|exact G0 (by assumption)|exact U10 (by assumption)|exact X0 (by omega)|fail) only[W0,hi3',hG3]
 clear hih3
 refine B1 (m:=n) (fun m L H' nx'=>∃ (i:Nat) (pl:List Int),m+i=n/\L=[.int .i64 (i:Int)]/\pl.length=32/\(∀ j w:Nat,order[j]? = some w->j<i->pl[w]? = some (j:Int)) /\
  J0 H' (nx2+1)=some (.cells (U4 pl) 0)/\(∀ q,q≠nx2+1->J0 H' q=J0 H3 q)/\nx2+1+1=nx') ?_ ⟨0,List.replicate 32 0,rfl,rfl,by simp,fun j w _ h=>by omega,by rw[hsame3 (nx2+1) (by omega)];exact kP,fun q hq=>rfl,rfl⟩
 rintro m4 ih4 L4 H4 _ ⟨i4,pl,hm4,rfl,hpln,hpv,hP4,hsame4,rfl⟩ hih4
 have hO4:=(hsame4 nx2 (by omega)).trans hO3
 have hG4:=(hsame4 nx (by omega)).trans hG3
 simp (config:={ maxSteps:=2000000 }) (disch:=first|omega|assumption|exact G0 (by assumption)|exact U10 (by assumption)|exact X0 (by omega)|fail) only[W0]
 by_cases hi4:i4<n
 case pos=>
  have hi4':(i4:Int)<(n:Int):=by omega
  obtain⟨w,hw⟩:∃ w,order[i4]? = some w:=⟨_,List.getElem?_eq_getElem (by omega)⟩
  have hwn:w<n:=holt w (List.mem_of_getElem? hw)
  have gw:=Z9 (hon i4 w hw)
  have hb4:w<pl.length:=by omega
  have hpl4:(U4 pl).length=32:=by rw[X9];exact hpln
  simp (disch:=first|omega|assumption|exact G0 (by assumption)|exact U10 (by assumption)|exact X0 (by omega)|fail) only[W0,Nat.reduceLeDiff,hi4',hO4,gw,hP4,J92 hb4,hpl4]
  refine⟨by omega,hih4 (m4-1) _ _ _ (by omega) ⟨i4+1,pl.set w (i4:Int),by omega,by simp,by rw[List.length_set];exact hpln,fun j u hj hji => ?_,Z11 _ _ _,fun q hq=>by rw[Z1 _ hq];exact hsame4 q hq,rfl⟩⟩
  rw[List.getElem?_set]
  by_cases huw:w=u
  .subst huw
   rw[if_pos rfl,if_pos (by omega),B43 hond hj hw]
  .rw[if_neg huw]
   refine hpv j u hj ?_
   have:j≠i4:=by intro e;subst e;rw[hw] at hj;cases hj;exact huw rfl
   omega
 have hi4':¬ (i4:Int)<(n:Int):=by omega
 have hi4e:i4=n:=by omega
 subst hi4e
 simp (config:={ maxSteps:=2000000 }) (disch:=first|omega|assumption|exact G0 (by assumption)|exact U10 (by assumption)|exact X0 (by omega)|fail) only[W0,hi4',hG4,C13]
 clear hih4
 have hE4:D0 H nx H4 (nx2+1+1):=⟨by omega,fun q hq=>by
  rw[hsame4 q (by omega),hsame3 q (by omega),hEK.get q (by omega)];exact hEE2.get q hq⟩
 have hgc:N3 i4 es=0:=by
  unfold Q6 at hfc
  split at hfc
  .assumption
  .rename_i h;exact Decidable.of_not_not h
 refine R0 (W106 hn A es cap _ _ (hS.ext hE4) hes hle hgc) ?_
 rintro _ H5 nx5 ⟨rfl,hE5⟩
 have hnx5:=hE5.le
 have e1:(K12 (B2 es i4)).length=32:=by rw[E1];exact N9 es i4
 have e2:(K12 (List.replicate 32 0)).length=32:=by rw[E1];simp
 have e3:=G24 (c:=K12 (List.replicate 32 0)) (vs:=K12 (B2 es i4)) (by rw[e1,e2])
 have e4:=W5 (B2 es i4)
 have hn6:i4<=1000000:=by omega
 have hG5:=(hE5.get nx (by omega)).trans hG4
 have hO5:=(hE5.get nx2 (by omega)).trans hO4
 have hP5:=(hE5.get (nx2+1) (by omega)).trans hP4
 simp (config:={ maxSteps:=2000000 }) (disch:=first|omega|assumption|exact G0 (by assumption)|exact U10 (by assumption)|exact X0 (by omega)|fail) only[W0,e1,e2,e3,e4,hG5,M27 hn6,Z89]
 generalize hK5:hs (hs (hs H5 nx5 (some (.cells (K12 (List.replicate 32 0)) 0))) nx5 (some (.cells (K12 (B2 es i4)) 0))) (nx5+1) (some (.cells (R34 (List.replicate i4 G50)) 0))=K5
 have hEK5:D0 H5 nx5 K5 (nx5+1+1):=by rw[<- hK5];exact (((D0.self (by omega):D0 H5 nx5 H5 (nx5+1+1)).hs (by omega)).hs (by omega)).hs (by omega)
 have m0:M13 K5 (nx5+1+1) nx5 (nx5+1) (B2 es i4) (List.replicate i4 G50) K5:=by
  refine⟨?_,?_,fun _ _ _ _=>rfl⟩
  .rw[<- hK5,Z1 _ (by omega),Z11]
  .rw[<- hK5,Z11]
 have hG6:=(hEK5.get nx (by omega)).trans hG5
 have hO6:=(hEK5.get nx2 (by omega)).trans hO5
 have hP6:=(hEK5.get (nx2+1) (by omega)).trans hP5
 have hEE5:D0 H nx K5 (nx5+1+1):=(hE4.trans hE5).trans hEK5
 refine B1 (m:=i4) (fun m L H' nx'=>∃ (i:Nat) (nl:List Nat) (out:List Bag) (N:Nb),m+i=i4/\L=[.int .i64 (i:Int)]/\M13 K5 (nx5+1+1) nx5 (nx5+1) nl out H'/\nl.length=32/\(∀ a ∈ order.drop i,nl[a]? = some (Q1 (K9 N a (order.drop i)) i4))/\Z44 N/\out.length=i4 /\
  Y72 i4 out N (order.drop i)=Y72 i4 (List.replicate i4 G50) (adj es) order/\nx5+1+1<=nx') ?_ ⟨0,B2 es i4,List.replicate i4 G50,adj es,rfl,rfl,m0,N9 es i4,fun a ha=>by
   have ha2:a ∈ order:=ha
   rw[V39 es hn (holt a ha2)]
   congr 1
   refine N25 fun w hw => ?_
   have:=Q58 hond holt holen hw
   simp[K9,this],Y70 es,by simp,rfl,Nat.le_refl _⟩
 rintro m7 ih7 L7 H7 nx7 ⟨j,nl,out,N,hm7,rfl,hM,hnll,hnv,hNb,hol,hout,hx7⟩ hih7
 simp (config:={ maxSteps:=2000000 }) (disch:=first|omega|assumption|exact G0 (by assumption)|exact U10 (by assumption)|exact X0 (by omega)|fail) only[W0]
 by_cases hj:j<i4
 case neg=>
  have hj':¬ (j:Int)<(i4:Int):=by omega
  simp (config:={ maxSteps:=2000000 }) (disch:=first|omega|assumption|exact G0 (by assumption)|exact U10 (by assumption)|exact X0 (by omega)|fail) only[W0,hj']
  rw[List.drop_of_length_le (by omega)] at hout
  refine good ⟨by have:=hEE5.le;omega,fun q hq=>by rw[hM.same q (by have:=hEE5.le;omega) (by omega) (by omega)];exact hEE5.get q hq⟩ (.inr ⟨hpok,order,hord,hond,holt,holen,_,rfl,fun q u hu=>⟨nx5+1,0,R34 out,rfl,by omega,by rw[Q5,hM.out];rfl,?_⟩,nx5+1,rfl,by have:=hE5.le;omega,by omega,?_⟩)
  .rw[Nat.zero_add]
   have:out=Y72 i4 (List.replicate i4 G50) (adj es) order:=hout
   rw[this];exact hu
  .have:out=Y72 i4 (List.replicate i4 G50) (adj es) order:=hout
   rw[<- this];exact hM.out
 have hj':(j:Int)<(i4:Int):=by omega
 obtain⟨v,hv⟩:∃ v,order[j]? = some v:=⟨_,List.getElem?_eq_getElem (by omega)⟩
 have hvn:v<i4:=holt v (List.mem_of_getElem? hv)
 have hdrop:=Z19 hv
 generalize hrest:order.drop (j+1)=rest at hdrop
 have hvr:v ∉ rest:=by rw[<- hrest];exact Q44 hond hv
 rw[hdrop] at hnv hout
 have hO7:=(hM.same nx2 (by omega) (by omega) (by omega)).trans hO6
 have hP7:=(hM.same (nx2+1) (by omega) (by omega) (by omega)).trans hP6
 have hG7:=(hM.same nx (by omega) (by omega) (by omega)).trans hG6
 have gv7:=Z9 (hon j v hv)
 have hkv:=hnv v List.mem_cons_self
 rw[G105 hNb] at hkv
 have gk7:=Q3 hkv
 have hbld:∀ kk,U11 [.int .i64 0,.int .u32 0,.int .i64 0] [(0,1),(1,1),(2,1)] [(0,.int .i64 (v:Int)),(1,.int .u32 ((Q1 (K9 N v rest) i4:Nat):Int)),(2,.int .i64 (-1))] kk=kk (.agg ⟨[.int .i64 (v:Int),.int .u32 ((Q1 (K9 N v rest) i4:Nat):Int),.int .i64 (-1)]⟩):=fun _=>rfl
 simp (config:={ maxSteps:=2000000 }) (disch:=first|omega|assumption|exact G0 (by assumption)|exact U10 (by assumption)|exact X0 (by omega)|fail) only[W0,Z0,Nat.reduceAdd,hj',hO7,gv7,hM.near,gk7,hbld,D7,hG7]
 have hkey32:=R19 hn (K9 N v rest)
 generalize hHB:hs (hs H7 nx7 (some (.cells [.int .i64 0,.int .u32 0,.int .i64 0] 0))) nx7 (some (.cells [.int .i64 (v:Int),.int .u32 ((Q1 (K9 N v rest) i4:Nat):Int),.int .i64 (-1)] 0))=HB
 have mB:M13 K5 (nx5+1+1) nx5 (nx5+1) nl out HB:=by rw[<- hHB];exact (hM.setNew hx7 (by omega) (by omega) _).setNew hx7 (by omega) (by omega) _
 have gB:J0 HB nx7=some (.cells [.int .i64 (v:Int),.int .u32 ((Q1 (K9 N v rest) i4:Nat):Int),.int .i64 (-1)] 0):=by rw[<- hHB,Z11]
 refine B1 (m:=i4) (fun m L H' nx'=>∃ (u:Nat) (nl:List Nat) (par:Int),m+u=i4/\L=[.int .i64 (u:Int)]/\M13 K5 (nx5+1+1) nx5 (nx5+1) nl out H'/\J0 H' nx7=some (.cells [.int .i64 (v:Int),.int .u32 ((Q1 (K9 N v rest) i4:Nat):Int),.int .i64 par] 0)/\nl.length=32 /\
  (∀ a ∈ rest,nl[a]? = some (Q1 (if a<u then K9 (U9 N v rest) a rest else K9 N a (v :: rest)) i4))/\R99 N v order rest u par/\nx7+1<=nx') ?_ ⟨0,nl,-1,rfl,rfl,mB,gB,hnll,fun a ha=>by rw[hnv a (List.mem_cons_of_mem _ ha)];simp,.inl ⟨rfl,fun w h=>by omega⟩,Nat.le_refl _⟩
 rintro m8 ih8 L8 H8 nx8 ⟨u,nl8,par,hm8,rfl,hM8,gB8,hnl8,hnv8,hpar,hx8⟩ hih8
 simp (config:={ maxSteps:=2000000 }) (disch:=first|omega|assumption|exact G0 (by assumption)|exact U10 (by assumption)|exact X0 (by omega)|fail) only[W0]
 by_cases hu:u<i4
 case neg=>
  have hu':¬ (u:Int)<(i4:Int):=by omega
  have hui:u=i4:=by omega
  subst hui
  have hpe:par=Y61 N v rest:=by rw[<- hrest] at hpar ⊢;exact D107 hond holt hpar
  have hset:B12 (R34 out) (v*3) [.int .i64 (v:Int),.int .u32 ((Q1 (K9 N v rest) u:Nat):Int),.int .i64 par]=R34 (out.set v (J82 u N v rest)):=by
   rw[hpe];exact Z92 (b:=J82 u N v rest) (by omega)
  have hbl:(R34 out).length=u*3:=by rw[N94,hol]
  simp (config:={ maxSteps:=2000000 }) (disch:=first|omega|assumption|exact G0 (by assumption)|exact U10 (by assumption)|exact X0 (by omega)|fail) only[W0,Z0,Nat.reduceAdd,hu',gB8,Y12,hM8.out,hset,hbl]
  refine⟨by omega,hih7 (m7-1) _ _ _ (by omega) ⟨j+1,nl8,_,U9 N v rest,by omega,by simp,hM8.setOut (by omega) _,hnl8,fun a ha => ?_,Y66 hNb v rest,by rw[List.length_set];exact hol,by rw[hrest,<- hout];rfl,by omega⟩⟩
  rw[hrest] at ha ⊢
  have han:a<u:=holt a (List.mem_of_mem_drop (hrest ▸ ha))
  rw[hnv8 a ha,if_pos han]
 have hu':(u:Int)<(i4:Int):=by omega
 have kbit:(Q1 (K9 N v rest) i4).testBit u=K9 N v rest u:=by rw[E26];simp[hu]
 simp (config:={ maxSteps:=2000000 }) (disch:=first|omega|assumption|exact G0 (by assumption)|exact U10 (by assumption)|exact X0 (by omega)|fail) only[W0,hu',gB8]
 rw[N13,kbit]
 cases hk:K9 N v rest u with
 | false=>
  simp (config:={ maxSteps:=2000000 }) (disch:=first|omega|assumption|exact G0 (by assumption)|exact U10 (by assumption)|exact X0 (by omega)|fail) only[W0]
  refine hih8 (m8-1) _ _ _ (by omega) ⟨u+1,nl8,par,by omega,by simp,hM8,gB8,hnl8,fun a ha => ?_,?_,hx8⟩
  .rw[hnv8 a ha]
   by_cases h1:a<u
   .rw[if_pos h1,if_pos (by omega)]
   .rw[if_neg h1]
    by_cases h2:a=u
    .subst h2;rw[if_pos (by omega),K107 hNb ha hk]
    .rw[if_neg (by omega)]
  .rcases hpar with ⟨h1,h2⟩ | ⟨p,jp,h1,h2,h3,h4⟩
   .refine .inl ⟨h1,fun w hw => ?_⟩
    by_cases hwu:w=u
    .subst hwu;exact hk
    .exact h2 w (by omega)
   .refine .inr ⟨p,jp,h1,h2,h3,fun w jw hw hjw hkw => ?_⟩
    by_cases hwu:w=u
    .subst hwu;rw[hk] at hkw;cases hkw
    .exact h4 w jw (by omega) hjw hkw
 | true=>
  simp (config:={ maxSteps:=2000000 }) (disch:=first|omega|assumption|exact G0 (by assumption)|exact U10 (by assumption)|exact X0 (by omega)|fail) only[W0]
  have hur:u ∈ rest:=by simp[K9] at hk;exact hk.2
  obtain⟨ju,hju⟩:∃ ju,order[ju]? = some u:=List.getElem?_of_mem (List.mem_of_mem_drop (hrest ▸ hur))
  have hP8:=(hM8.same (nx2+1) (by omega) (by omega) (by omega)).trans hP6
  have gu:=Z9 (hpv ju u hju (by have:=N12 hju;omega))
  refine N5 (fun L H' nx'=>∃ par',L=[]/\M13 K5 (nx5+1+1) nx5 (nx5+1) nl8 out H'/\J0 H' nx7=some (.cells [.int .i64 (v:Int),.int .u32 ((Q1 (K9 N v rest) i4:Nat):Int),.int .i64 par'] 0)/\R99 N v order rest (u+1) par'/\nx7+1<=nx') ?_ ?_
  .intro jk hjk
   rw[N13]
   have hput:∀ a b c x:Value,B12 [a,b,c] 2 [x]=[a,b,x]:=fun _ _ _ _=>rfl
   have hnew:R99 N v order rest (u+1) u->∀ nx',nx7+1<=nx'->jk [] (hs H8 nx7 (some (.cells [.int .i64 (v:Int),.int .u32 ((Q1 (K9 N v rest) i4:Nat):Int),.int .i64 (u:Int)] 0))) nx':=
    fun h nx' hx=>hjk _ _ _ ⟨u,rfl,hM8.setNew hx7 (by omega) (by omega) _,Z11 _ _ _,h,hx⟩
   rcases hpar with ⟨rfl,h2⟩ | ⟨p,jp,rfl,h2,h3,h4⟩
   .have hneg:(-1:Int)<0:=by omega
    simp (config:={ maxSteps:=2000000 }) (disch:=first|omega|assumption|exact G0 (by assumption)|exact U10 (by assumption)|exact X0 (by omega)|fail) only[W0,Nat.reduceAdd,gB8,hneg,hput]
    refine hnew (.inr ⟨u,ju,rfl,hju,hk,fun w jw hw hjw hkw => ?_⟩) _ (by omega)
    by_cases hwu:w=u
    .subst hwu;rw[B43 hond hju hjw];exact Nat.le_refl _
    .rw[h2 w (by omega)] at hkw;cases hkw
   .have hpn:¬ (p:Int)<0:=by omega
    have hp4:p<i4:=holt p (List.mem_of_getElem? h2)
    have gp:=Z9 (hpv jp p h2 (by have:=N12 h2;omega))
    by_cases hlt:ju<jp
    .have hlt':(ju:Int)<(jp:Int):=by omega
     simp (config:={ maxSteps:=2000000 }) (disch:=first|omega|assumption|exact G0 (by assumption)|exact U10 (by assumption)|exact X0 (by omega)|fail) only[W0,Nat.reduceAdd,gB8,hpn,hP8,gu,gp,hlt',hput]
     refine hnew (.inr ⟨u,ju,rfl,hju,hk,fun w jw hw hjw hkw => ?_⟩) _ (by omega)
     by_cases hwu:w=u
     .subst hwu;rw[B43 hond hju hjw];exact Nat.le_refl _
     .have:=h4 w jw (by omega) hjw hkw;omega
    .have hlt':¬ (ju:Int)<(jp:Int):=by omega
     simp (config:={ maxSteps:=2000000 }) (disch:=first|omega|assumption|exact G0 (by assumption)|exact U10 (by assumption)|exact X0 (by omega)|fail) only[W0,Nat.reduceAdd,gB8,hpn,hP8,gu,gp,hlt']
     refine hjk _ _ _ ⟨p,rfl,hM8,gB8,.inr ⟨p,jp,rfl,h2,h3,fun w jw hw hjw hkw => ?_⟩,by omega⟩
     by_cases hwu:w=u
     .subst hwu;rw[<- B43 hond hju hjw];omega
     .exact h4 w jw (by omega) hjw hkw
  .rintro _ H9 nx9 ⟨par',rfl,hM9,gB9,hpar9,hx9⟩
   have hcur:=hnv8 u hur
   rw[if_neg (by omega)] at hcur
   have gcur:=Q3 hcur
   have hc32:=R19 hn (K9 N u (v :: rest))
   have hu32:2^u<4294967296:=Y18 (by omega)
   have hv32:2^v<4294967296:=Y18 (by omega)
   have ho1:=M54 hc32 hkey32
   have ho2:=M54 hu32 hv32
   have hul:u<nl8.length:=by omega
   have hlen9:(K12 nl8).length=32:=by rw[E1];exact hnl8
   have hnb:=N107 hNb (n:=i4) hvr hk
   simp (config:={ maxSteps:=2000000 }) (disch:=first|omega|assumption|exact G0 (by assumption)|exact U10 (by assumption)|exact X0 (by omega)|fail) only[W0,Nat.reduceLeDiff,hM9.near,gcur,gB9,V10 hul,hlen9]
   refine⟨by omega,hih8 (m8-1) _ _ _ (by omega) ⟨u+1,nl8.set u (Z2 (Q1 (K9 N u (v :: rest)) i4 ||| Q1 (K9 N v rest) i4) (2^u ||| 2^v)),par',by omega,by simp,hM9.setNear (by omega) _,by rw[Z1 _ (by omega)];exact gB9,by rw[List.length_set];exact hnl8,fun a ha => ?_,hpar9,by omega⟩⟩
   rw[List.getElem?_set]
   by_cases h2:u=a
   .subst h2;rw[if_pos rfl,if_pos hul,if_pos (by omega),hnb]
   .rw[if_neg h2,hnv8 a ha]
    by_cases h1:a<u
    .rw[if_pos h1,if_pos (by omega)]
    .rw[if_neg h1,if_neg (by omega)]
end
end Go.Proofs.YtoiioigihocgbaaGreatDoor
namespace Go.Clo
def upK(f i:Nat):List Int:=(aY i).map fun j=>((f+j:Nat):Int)
theorem Y91(f i:Nat):(upK f i).length=i:=by simp[upK]
theorem K105(f i:Nat):upK f (i+1)=upK f i++[((f+i:Nat):Int)]:=by simp[upK,List.range_succ]
theorem R107{lo:Nat}{H:Y0}{nx size:Nat}{v:Value}{n:Nat}{c:List Value}(h:Acc lo H nx size v n c):∃ A,v = .slice A n n/\Sl H nx A c/\Has H nx A:=by
 obtain⟨A,e,hs⟩:=h.sl;refine⟨A,e,hs,?_⟩;obtain⟨_,h1 | ⟨b,h1,h2,h3,h4⟩⟩:=h
 .obtain⟨h1,h2⟩:=h1
  rw[h2] at e
  cases e
  exact .inl rfl
 .rw[e] at h3
  cases h3
  exact .inr ⟨b,0,c,rfl,h2,by rw[Q5,h4];rfl⟩
theorem M108{H:Y0}{b o n c h size:Nat}{row:List Value}(hg:J0 H b=some (.cells row 0))(hh:h<=c)(k:VP):
  wSl (.slice (some ⟨b,o,none⟩) n c) size none (some (.int .i64 (h:Int))) none H k=k (.slice (some ⟨b,o,none⟩) h c):=by
 have e:B26 (some ⟨b,o,none⟩) n c size none (some (.int .i64 (h:Int))) none false=some (.slice (some ⟨b,o,none⟩) h c):=by
  have e1:Y13 none c=some c:=rfl;have e2:hiA (some (.int .i64 (h:Int))) none n c=some h:=V75 hh;have e3:loA none h=some 0:=rfl;simp only[B26,e1,e2,e3,V6 (Nat.zero_le c)]
  cases bR c 0<;>simp
 unfold wSl;dsimp only;rw[Y4,hg];simp only[aN,slB,N8,D13,cond_true];rw[e];exact E7 _ _
end Go.Clo
namespace Go.Proofs.YtoiioigihocgbaaGreatDoor
open Go.Clo
theorem B100{f n:Nat}(h:f<=n):V72 (upK f (n-f)) f n:=by
 refine⟨by rw[Y91];omega,fun x hx => ?_,?_⟩
 .simp only[upK,gN,cW] at hx
  obtain⟨j,hj,rfl⟩:=hx;omega
 .unfold List.Nodup upK
  rw[List.pairwise_map];refine List.Pairwise.imp (fun {a b} h => ?_) List.nodup_range;intro e;exact h (by omega)
theorem B98(n:Nat):∀(E:List Nat) (out:List Bag) (N:Nb) (i:Nat) (b:Bag),(Y72 n out N E)[i]? = some b->(out[i]? = some b/\i ∉ E)\/(b.var=i/\b.key<2^n)
 | [],out,N,i,b,h => .inl ⟨h,by simp⟩
 | v :: rest,out,N,i,b,h=>by
  rcases B98 n rest (out.set v (J82 n N v rest)) _ i b h with ⟨h1,h2⟩ | h1
  .rw[cQ] at h1
   split at h1
   .rename_i e
    subst e
    split at h1
    .cases h1
     exact .inr ⟨rfl,G11 _ _⟩
    .cases h1
   .rename_i e
    exact .inl ⟨h1,by simp[h2,eT e]⟩
  .exact .inr h1
def Z85(n f:Nat)(l:List Int):List Nat:=(l++R6 f f).map Int.toNat
def B50(es:List Nat)(n f:Nat)(l:List Int):List Bag:=Y72 n (aF n G50) (adj es) (Z85 n f l)
theorem Y88{n f:Nat}{l:List Int}{E:List Nat}(h:l++R6 f f=E.map fun(w:Nat)=>(w:Int)):E=Z85 n f l:=by
 unfold Z85;rw[h,List.map_map];simp[Function.comp_def]
theorem U74(es:List Nat)(n f:Nat)(l:List Int):(B50 es n f l).length=n:=by
 unfold B50;rw[V94];simp
theorem Q95{es:List Nat}{n f:Nat}{l:List Int}(hp:V72 l f n)(hf:f<=n){i:Nat}(hi:i<n):∃ b,(B50 es n f l)[i]? = some b/\b.var=i/\b.key<2^n:=by
 obtain⟨E,h1,h2,h3,h4⟩:=J77 hp;obtain rfl:=Y88 (n:=n) h1;obtain⟨b,hb⟩:∃ b,(B50 es n f l)[i]? = some b:=⟨_,aE (by rw[U74];exact hi)⟩
 refine⟨b,hb,?_⟩;rcases B98 n _ _ _ i b hb with ⟨_,h⟩ | h
 .exact absurd (Q58 h2 h3 h4 hi) h
 .exact h
theorem J93{b:Bag}{i n:Nat}(h1:b.var=i)(h2:b.key<2^n)(hi:i<n)(hn:n<=32):Y34 b=b.key ||| 2^i/\Y34 b<2^n/\(Y34 b).testBit i=true:=by
 have e:Y34 b=b.key ||| 2^i:=by
  unfold Y34;rw[if_neg (by omega),h1];rfl
 rw[e];exact⟨rfl,Z26 h2 (R27 hi),by rw[aV,aR];simp⟩
def fwI(es:List Nat)(N:Nat)(bs:List Bag)(i:Nat):Rat:=(bs.take i).foldl (fun w b=>gr w (Y74 es N (Y34 b))) 0
theorem X95{es:List Nat}{N:Nat}{bs:List Bag}{i:Nat}{b:Bag}(h:bs[i]? = some b):fwI es N bs (i+1)=gr (fwI es N bs i) (Y74 es N (Y34 b)):=by
 unfold fwI;rw[C7 h,List.foldl_append];rfl
theorem N84{es:List Nat}{N:Nat}{bs:List Bag}(h:es.length<=8):∀ i,i<=bs.length->U15 (fwI es N bs i) 100000
 | 0,_=>Y75 _ (by omega)
 | i+1,hi=>by
  rw[X95 (aE (show i<bs.length by omega))];exact E78 (N84 h i (by omega)) (B65 es N _ h)
theorem G95{H:Y0}{nx p rc rl N cap f:Nat}{A:Option Addr}{es nb:List Nat}{L:Nat->Rat}(h:SV H nx p rc rl N A cap es nb L)(hN:N<=6)(ai:∀ e ∈ es,e<2^N)(an:es.length<=8)
  (bh:∀ w,w<N->∃ e ∈ es,e.testBit w=true)(hf:f<=N):
  Q2 Tryz.prog 46 [.pointer (some ⟨p,0,none⟩),.int .i64 (f:Int)] H nx fun v H' nx'=>RR H' nx' v (fwI es N (B50 es N f (upK f (N-f))) f)/\SV H' nx' p rc rl N A cap es nb L/\Kp H nx rc rl H' nx':=by
 have cq:2^N<=64:=aK (n:=2) (by omega) hN;have d0:=h.pn;have co:=h.rcn;have cn:=h.rln;have ao:U14 es:=fun e he=>by have:=ai e he;omega
 have ae:∀ s,s<2^N->∀ v,s.testBit v=true->∃ e ∈ es,e.testBit v=true:=fun s hs v hv=>bh v (by
  refine aI fun hn => ?_
  rw[dV (aO hs (aK (n:=2) (by omega) (show N<=v by omega)))] at hv
  cases hv)
 refine spec46 ?_;unfold F46;have b8:D0 H nx (hs H nx (some (.cells [.bool false,.slice none 0 0,.slice none 0 0] 0))) (nx+1):=(D0.refl _ _).new _ (aD _) (by omega);have g1:J0 (hs H nx (some (.cells [.bool false,.slice none 0 0,.slice none 0 0] 0))) nx=some (.cells [.bool false,.slice none 0 0,.slice none 0 0] 0):=Z11 _ _ _;have h1:=h.ext b8;simp only[W1];rw[Q37];simp only[Q0.val];generalize hs H nx (some (.cells [.bool false,.slice none 0 0,.slice none 0 0] 0))=H1 at *
 refine B1 (m:=N-f) (fun m L H' nx'=>∃ i v,m+i=N-f/\L=[v,.int .i64 ((f+i:Nat):Int)]/\Acc (nx+1) H' nx' 1 v i (U4 (upK f i))/\D0 H1 (nx+1) H' nx') ?_
  ⟨0,.slice none 0 0,by omega,by simp,Acc.nil _ _ _ _,D0.refl _ _⟩
 rintro m dc L1 H2 nx2 ⟨i,v,hm,rfl,hA,a4⟩ a8;have cj:=a4.le;have h2:=h1.ext a4;have bw:∀(x:Int) k,K6 1 1 [.int .i64 0] [(0,.int .i64 x)] k=k [.int .i64 x]:=fun x k=>rfl
 by_cases hi:i<N-f
 .have ag:((f+i:Nat):Int)<(N:Int):=by omega
  simp(disch:=first|omega|assumption)only[W0,Q0.val,h2.hp,C89,ag,bw];have ay:D0 H2 nx2 (hs H2 nx2 (some (.cells [.int .i64 ((f+i:Nat):Int)] 0))) (nx2+1):=(D0.refl _ _).new _ (aD _) (by omega);refine Y20 (H0:=H1) (lo:=nx+1) (m:=1) (l:=[.int .i64 ((f+i:Nat):Int)]) (by omega) (hA.ext ay) (J9 (Z11 _ _ _) rfl (by omega)) (by omega) rfl (by omega) (by omega) (a4.trans ay) (by omega) ?_;intro v' H' bo c4 _;refine a8 (m-1) _ _ _ (by omega) ⟨i+1,v',by omega,by simp;omega,?_,c4⟩;have e:U4 (upK f (i+1))=U4 (upK f i)++[.int .i64 ((f+i:Nat):Int)]:=by rw[K105,Q96];rfl
  rw[e];exact bo
 have ag:¬ ((f+i:Nat):Int)<(N:Int):=by omega
 obtain rfl:i=N-f:=by omega
 clear a8;obtain⟨P,rfl,hP,bg⟩:=R107 hA;have a3:=b8.trans a4;have g2:=(a4.get nx (by omega)).trans g1;simp(disch:=first|omega|assumption)only[W0,Q0.val,h2.hp,C89,ag];refine R0 (R73 (n:=0) (by omega) (by omega) _ _) ?_;rintro r H5 E ⟨hr,a5⟩;obtain⟨c5,rfl,a7⟩:=hr.num;have ck:=a5.le;have h5:=h2.ext a5;have V:D0 H5 E (hs (hs H5 E (some (.cells [.bool false,.slice none 0 0,.slice none 0 0] 0))) E (some (.cells c5 0))) (E+1):=((D0.refl _ _).new _ (aD _) (m:=E+1) (by omega)).new _ (by omega) (by omega);have h7:=h5.ext V;have bz:J0 (hs (hs H5 E (some (.cells [.bool false,.slice none 0 0,.slice none 0 0] 0))) E (some (.cells c5 0))) E=some (.cells c5 0):=Z11 _ _ _;simp(disch:=first|omega|assumption)only[W0,Nat.reduceAdd,a7.three,a7.one,G24 (show c5.length=[dU false,.slice none 0 0,.slice none 0 0].length from a7.three),h5.hp,M93];generalize hs (hs H5 E (some (.cells [.bool false,.slice none 0 0,.slice none 0 0] 0))) E (some (.cells c5 0))=H7 at *
 have U:=a5.trans V;have aj:N-f=(upK f (N-f)).length:=(Y91 _ _).symm;have a6:=K109 (N:Int) (f:Int) A es cap P (upK f (N-f)) (N-f) H7 (E+1) h7.es' ao (hP.ext U) (bg.ext U) (by rw[Y91];omega);rw[<- aj] at a6;refine R0 a6 ?_;rintro r8 H8 c6 ⟨Q,h8⟩;have ct:=Q.le;have bt:Q6 (N:Int) (f:Int) es=0:=by
  unfold Q6;rw[V11 (by omega) (by omega) fun i e he=>ai e (aH he)];simp;omega
 rcases h8 with ⟨h0,_⟩ | ⟨n',f',en,ef,_,_,_,h8⟩
 .exact absurd bt h0
 obtain rfl:N=n':=by omega
 obtain rfl:f=f':=by omega
 rcases h8 with ⟨bf,_⟩ | ⟨d6,bu,ho,cx,d9,ci,R,rfl,hR,o,rfl,d5,d4,ak⟩
 .exact absurd (B100 hf) bf
 obtain rfl:=Y88 (n:=N) ho;have db:=U74 es N f (upK f (N-f));have bd:=fun i (hi:i<N)=>Q95 (es:=es) (B100 hf) hf hi
 rw[show Y72 N (aF N G50) (adj es) (Z85 N f (upK f (N-f)))=B50 es N f (upK f (N-f)) from rfl] at hR ak;generalize B50 es N f (upK f (N-f))=bs at *
 have c9:=(Q.get E (by omega)).trans bz;have h8:=h7.ext Q;have ax:=(a3.trans U).trans Q;have g8:=((U.trans Q).get nx (by omega)).trans g2;have cf:=(hr.ext V).ext Q;simp(disch:=first|omega|assumption)only[W0,M108 ak hf];have bx:=(a3.trans a5).kp (p:=rc) (q:=rl);have b4:=(V.trans Q).kp (p:=rc) (q:=rl);have g5:=(a5.get nx (by omega)).trans g2;clear Q U a3 V ax h7 h2 hA hP bg a6 ho hr;refine B1 (m:=f) (fun m L' H' nx'=>∃ i c,m+i=f/\L'=[.int .i64 (i:Int)]/\SV H' nx' p rc rl N A cap es nb L/\Kp H5 E rc rl H' nx'/\J0 H' o=some (.cells (R34 bs) 0)/\c6<=nx'/\V7 c/\J0 H' E=some (.cells c 0)/\RR H' nx' (.agg ⟨c⟩) (fwI es N bs i)) ?_
  ⟨0,c5,by omega,rfl,h8,b4,ak,aD _,a7,c9,cf⟩
 rintro m cz L2 H9 O ⟨i,c,da,rfl,h9,al,ba,cp,hc,a9,bc⟩ a8;have g9:=al.cell h5.ic h5.il (by omega) g5
 by_cases d8:i<f
 case neg=>
  obtain rfl:i=f:=by omega
  have b5:¬ (i:Int)<(i:Int):=by omega
  simp(disch:=first|omega|assumption)only[W0,Nat.reduceAdd,b5,a9,X15 hc,hc.three,hc.one,g9,G24 (show c.length=[dU false,.slice none 0 0,.slice none 0 0].length from hc.three)];have hk:=bx.trans al;refine⟨bc.boxs g9 (U47 rfl) (.inl rfl),h9.boxs g9 rfl (by omega),hk.hs (.inl (aD _))⟩
 have aq:(i:Int)<(f:Int):=by omega
 obtain⟨b,hb,cc,bv⟩:=bd i (by omega);obtain⟨d3,aw,ce⟩:=J93 cc bv (show i<N by omega) (by omega);have ah:b.key<4294967296:=by omega
 have c0:=M79 hb 0 (.int .i64 b.var) rfl;have c1:=M79 hb 1 (.int .u32 (b.key:Int)) rfl;have c2:=M79 hb 2 (.int .i64 b.par) rfl;rw[eM] at c0;simp(disch:=first|omega|assumption)only[W0,Z0,Nat.reduceAdd,aq,ba,Z108 c0 c1 c2,D7,Y12,a9,X15 hc];generalize hK:hs (hs H9 O (some (.cells [.int .i64 0,.int .u32 0,.int .i64 0] 0))) O (some (.cells [.int .i64 b.var,.int .u32 (b.key:Int),.int .i64 b.par] 0))=K;have kE:D0 H9 O K (O+1+7):=by rw[<- hK];exact(((D0.refl H9 O).new _ (aD _) (by omega):D0 H9 O _ (O+1+7)).hs (aD _))
 have kB:J0 K O=some (.cells [.int .i64 b.var,.int .u32 (b.key:Int),.int .i64 b.par] 0):=by rw[<- hK,Z11]
 have k7:=(kE.get E (by omega)).trans a9;refine R0 (M110 (b:=b) ah K (O+1+7)) ?_;rintro _ d2 cu ⟨rfl,b3⟩;have J:=kE.trans b3;have a2:=h9.ext J;have ab:=(J.get E (by omega)).trans a9;refine R0 (Y87 a2 (by omega) ai an aw (U43 (show i<N by omega) ce) (ae _ aw)) ?_;rintro d1 cy cv ⟨ap,cd,Z⟩;have c7:=J.le;have ca:=Z.le;have ad:=Z.cell a2.ic a2.il (by omega) ab;have au:=(bc.ext J).kp Z a2.ic a2.il;refine R0 (G82 au ap (N84 an i (by omega)) (B65 es N _ an)) ?_;rintro d7 c3 az ⟨ac,W⟩;obtain⟨av,rfl,a0⟩:=ac.num;have a1:=(W.get E (by omega)).trans ad;have c8:=cd.ext W;have aa:Kp H9 O rc rl c3 az:=(J.kp.trans Z).trans W.kp;simp(disch:=first|omega|assumption)only[W0,a1,ad,ab,X15 hc,a0.three,a0.one,G24 (show av.length=c.length by rw[a0.three,hc.three])];have cg:=W.le;have bk:=aa.cell h9.ic h9.il (by omega) ba;refine⟨by rw[hc.three];omega,a8 (m-1) _ _ _ (by omega) ⟨i+1,av,by omega,by simp,c8.boxs a1 (V7.noU hc) (by omega),(al.trans aa).hs (.inl (aD _)),?_,by omega,a0,Z11 _ _ _,?_⟩⟩
 .rw[Z1 _ (by omega)];exact bk
 .rw[X95 hb]
  exact ac.boxs a1 (W81 hc) (.inl rfl)
end Go.Proofs.YtoiioigihocgbaaGreatDoor
namespace Go.Clo
def E9(x:Nat):Nat:=(V5 6 x).length
theorem K50{s:ByteArray}{i b:Nat}{K:IntKind}(hg:s.data[i]? = some (UInt8.ofNat b))(hb:b<256)(k:VP):D9 .sidx [.string s,.int K (i:Int)] k=k (.int .u8 (b:Int)):=by
 have h:VF.ev .sidx [.string s,.int K (i:Int)]=some (.int .u8 (b:Int)):=by
  show J52 s (i:Int)=_;unfold J52;have e:s[((i:Int)).toNat]? = some (UInt8.ofNat b):=by
   rw[Int.toNat_natCast,<- hg];rfl
  rw[if_pos (by omega),e];simp only[Option.map_some];congr 2;show((UInt8.ofNat b).toNat:Int)=_;have:(UInt8.ofNat b).toNat=b%256:=UInt8.toNat_ofNat';rw[this,bV (by omega)]
 unfold D9;rw[h,J8];rfl
end Go.Clo
namespace Go.Proofs.YtoiioigihocgbaaGreatDoor
open Go.Clo
def N16:Array UInt8 := #[0,1,1,2,1,2,2,3,1,2,2,3,2,3,3,4,1,2,2,3,2,3,3,4,2,3,3,4,3,4,4,5,1,2,2,3,2,3,3,4,2,3,3,4,3,4,4,5,2,3,3,4,3,4,4,5,3,4,4,5,4,5,5,6,1,2,2,3,2,3,3,4,2,3,3,4,3,4,4,5,2,3,3,4,3,4,4,5,3,4,4,5,4,5,5,6,2,3,3,4,3,4,4,5,3,4,4,5,4,5,5,6,3,4,4,5,4,5,5,6,4,5,5,6,5,6,6,7,1,2,2,3,2,3,3,4,2,3,3,4,3,4,4,5,2,3,3,4,3,4,4,5,3,4,4,5,4,5,5,6,2,3,3,4,3,4,4,5,3,4,4,5,4,5,5,6,3,4,4,5,4,5,5,6,4,5,5,6,5,6,6,7,2,3,3,4,3,4,4,5,3,4,4,5,4,5,5,6,3,4,4,5,4,5,5,6,4,5,5,6,5,6,6,7,3,4,4,5,4,5,5,6,4,5,5,6,5,6,6,7,4,5,5,6,5,6,6,7,5,6,6,7,6,7,7,8]
theorem J68:∀ x,x<64->N16[x]? = some (UInt8.ofNat (E9 x))/\E9 x<7:=by
 have h:((aY 64).all fun i=>decide (N16[i]? = some (UInt8.ofNat (E9 i))/\E9 i<7))=true:=by decide +kernel
 intro i hi;have:=bW.1 h i (by simpa using hi);simpa using this
theorem R44{x:Nat}(hx:x<64)(H:Y0)(nx:Nat):Q2 Tryz.prog 44 [.int .u32 (x:Int)] H nx fun r H' nx'=>r = .int .i64 (E9 x:Int)/\D0 H nx H' nx':=by
 refine spec44 ?_;unfold F44;obtain⟨h1,h2⟩:=J68 x hx;have z1:x >>> 24=0:=by rw[eO];omega
 have z2:x >>> 16=0:=by rw[eO];omega
 have z3:x >>> 8=0:=by rw[eO];omega
 have z4:x &&& 255=x:=by rw[show(255:Nat)=2^8-1 from rfl,Nat.and_two_pow_sub_one_eq_mod];omega
 have s1:=fun k=>V15 (a:=x) (n:=24) (K := .u64) k (by omega)
 have s2:=fun k=>V15 (a:=x) (n:=16) (K := .u64) k (by omega)
 have s3:=fun k=>V15 (a:=x) (n:=8) (K := .u64) k (by omega)
 rw[z1] at s1;rw[z2] at s2;rw[z3] at s3;have p0:N16[0]? = some (UInt8.ofNat 0):=by decide +kernel
 have t0:∀(k:VP),D9 .sidx [.string ⟨N16⟩,.int .u32 0] k=k (.int .u8 0):=fun k=>K50 (s:=⟨N16⟩) (i:=0) (b:=0) p0 (by omega) k
 have tx:∀(k:VP),D9 .sidx [.string ⟨N16⟩,.int .u32 (x:Int)] k=k (.int .u8 (E9 x:Int)):=fun k=>K50 (s:=⟨N16⟩) (i:=x) h1 (by omega) k
 unfold N16 at t0 tx;have a0:∀(k:VP),D10 .and (.int .u32 0) (.int .u32 255) k=k (.int .u32 0):=fun k=>rfl
 have ax:∀(k:VP),D10 .and (.int .u32 (x:Int)) (.int .u32 255) k=k (.int .u32 (x:Int)):=fun k=>by
  have:=D17 (a:=x) (b:=255) k (by omega) (by omega);rw[z4] at this;exact this
 have b0:∀(k:VP),D10 .add (.int .u8 0) (.int .u8 0) k=k (.int .u8 0):=fun k=>rfl
 have bx:∀(k:VP),D10 .add (.int .u8 0) (.int .u8 (E9 x:Int)) k=k (.int .u8 (E9 x:Int)):=fun k=>by
  rw[X6];have e:IntKind.u8.wrap (0+(E9 x:Int))=(E9 x:Int):=by rw[Int.zero_add];exact G68 (by omega)
  show k (.int .u8 (IntKind.u8.wrap (0+(E9 x:Int))))=_;rw[e]
 have c0:∀(k:VP),W8 .i64 (.int .u8 (E9 x:Int)) k=k (.int .i64 (E9 x:Int)):=fun k=>K69 (by omega) _ k
 rw[G1,show(.int .u64 24:Value) = .int .u64 ((24:Nat):Int) from rfl,s1];rw[show(.int .u32 ((0:Nat):Int):Value) = .int .u32 0 from rfl,t0];rw[show(.int .u64 16:Value) = .int .u64 ((16:Nat):Int) from rfl,s2];rw[show(.int .u32 ((0:Nat):Int):Value) = .int .u32 0 from rfl,a0,t0,b0];rw[show(.int .u64 8:Value) = .int .u64 ((8:Nat):Int) from rfl,s3];rw[show(.int .u32 ((0:Nat):Int):Value) = .int .u32 0 from rfl,a0,t0,b0,ax,tx,bx,c0,c0];unfold wK tB;refine .inl ⟨⟨⟨rfl,trivial⟩,trivial⟩,?_⟩;rw[J80,Y5];exact⟨rfl,D0.self (by omega)⟩
end Go.Proofs.YtoiioigihocgbaaGreatDoor
namespace Go.Clo
theorem K67:∀ x,x<64->0<x->x &&& (4294967296-x)=2^tz x:=by decide +kernel
theorem G60{x:Nat}(h0:0<x)(h:x<4294967296)(k:VP):wUn .neg (.int .u32 (x:Int)) k=k (.int .u32 ((4294967296-x:Nat):Int)):=by
 have e:unV .neg (.int .u32 (x:Int))=some (.int .u32 (eW.wrap (0-(x:Int)))):=rfl;have e2:eW.wrap (0-(x:Int))=((4294967296-x:Nat):Int):=by
  simp only[eY,eK,dW];simp;omega
 unfold wUn;rw[e,e2,J8];rfl
theorem U59(x:Int)(k:VP):U11 [.int .i64 0,.slice none 0 0] [(0,1),(1,1)] [(0,.int .i64 x)] k=k (.agg ⟨[.int .i64 x,.slice none 0 0]⟩):=V14 _ _
theorem Y48(x:Int)(k:List Value->Prop):K6 1 1 [.int .u32 0] [(0,.int .u32 x)] k=k [.int .u32 x]:=rfl
theorem D0.thru{H:Y0}{nx:Nat}{K:Y0}{m:Nat}{H':Y0}{nx':Nat}(a:D0 H nx K m)(b:D0 K nx H' nx'):D0 H nx H' nx':=⟨b.le,fun q hq=>(b.get q hq).trans (a.get q hq)⟩
theorem Acc.low{lo:Nat}{H:Y0}{nx size:Nat}{v:Value}{n:Nat}{c:List Value}(h:Acc lo H nx size v n c){i:Nat}(hi:i<lo)(b:Option V3):Acc lo (Go.Clo.hs H i b) nx size v n c:=by
 obtain⟨hl,h | ⟨q,h1,h2,h3,h4⟩⟩:=h
 .exact⟨hl,.inl h⟩
 .exact⟨hl,.inr ⟨q,h1,h2,h3,by rw[Z1 _ (by omega)];exact h4⟩⟩
theorem K62(a b x:Value):B12 [a,b] 1 [x]=[a,x]:=rfl
theorem Y22(a b:List Nat):K12 (a++b)=K12 a++K12 b:=by simp[K12]
end Go.Clo
namespace Go.Proofs.YtoiioigihocgbaaGreatDoor
open Go.Clo
theorem Q49{N s cap:Nat}{A:Option Addr}{es:List Nat}{H:Y0}{nx:Nat}(hS:Sl H nx A (K12 es))(hN:N<=6)(ac:∀ e ∈ es,e<2^N)(ap:es.length<=8)(ak:s<4294967296):
  Q2 Tryz.prog 43 [gv N A es.length cap,.int .u32 (s:Int)] H nx fun r H' nx'=>(∃ B,r=gv N B (D14 es s).length (D14 es s).length/\Sl H' nx' B (K12 (D14 es s))/\∀ b o t,B=some ⟨b,o,t⟩->nx<=b)/\D0 H nx H' nx':=by
 have al:2^N<=64:=aK (n:=2) (by omega) hN;have Q:U14 es:=fun e he=>by have:=ac e he;omega
 have ai:N3 N es=0:=V11 (by omega) (by omega) fun i e he=>ac e (aH he)
 refine spec43 ?_;unfold F43;simp(disch:=first|omega|assumption)only[W0,Z0,Q0.val,C13];generalize hK:hs (hs H nx (some (.cells [.int .i64 N,.slice A es.length cap] 0))) (nx+1) (some (.cells [.int .i64 0,.slice none 0 0] 0))=K;have kG:J0 K nx=some (.cells [.int .i64 N,.slice A es.length cap] 0):=by rw[<- hK,Z1 _ (by omega),Z11]
 have kR:J0 K (nx+1)=some (.cells [.int .i64 0,.slice none 0 0] 0):=by rw[<- hK,Z11]
 have ae:D0 H nx K (nx+1+1):=by
  rw[<- hK];exact(((D0.refl H nx).new _ (by omega) (by omega):D0 H nx _ (nx+1)).new _ (by omega) (by omega))
 refine R0 (N11 N A es cap _ _ (hS.ext ae) Q) ?_;rintro _ H3 E ⟨rfl,V⟩;have d1:decide (N3 N es≠0)=false:=by simp[ai]
 have g3:=(V.get nx (by omega)).trans kG;have r3:=(V.get (nx+1) (by omega)).trans kR;have an:=V.le;simp(disch:=first|omega|assumption)only[W0,Z0,Nat.reduceAdd,d1,g3,U59,G26];generalize ab:hs (hs H3 E (some (.cells [.int .i64 0,.slice none 0 0] 0))) E (some (.cells [.int .i64 N,.slice none 0 0] 0))=K4;have k4:J0 K4 E=some (.cells [.int .i64 N,.slice none 0 0] 0):=by rw[<- ab,Z11]
 have a8:D0 H3 E K4 (E+1):=by rw[<- ab];exact((D0.refl _ _).new _ (aD _) (by omega):D0 H3 E _ (E+1)).hs (aD _)
 have g4:=(a8.get nx (by omega)).trans g3;refine B1 (m:=es.length) (fun m L H' nx'=>∃ i v,m+i=es.length/\L=[.int .i64 (i:Int)]/\Acc (E+1) H' nx' 1 v (D14 (es.take i) s).length (K12 (D14 (es.take i) s))/\J0 H' E=some (.cells [.int .i64 N,v] 0)/\D0 K4 E H' nx'/\E+1<=nx') ?_
  ⟨0,.slice none 0 0,by omega,rfl,Acc.nil _ _ _ _,k4,D0.self (by omega),by omega⟩
 rintro m ih L H5 U ⟨i,v,hm,rfl,hA,g5,Z,ad⟩ ah;have a0:D0 H nx H5 U:=(ae.trans V).trans (a8.thru Z);have r5:=((a8.thru Z).get (nx+1) (by omega)).trans r3
 by_cases hi:i<es.length
 case neg=>
  have W:¬ (i:Int)<(es.length:Int):=by omega
  rw[D23 hi] at hA;obtain⟨B,rfl,hB⟩:=hA.sl;simp(disch:=first|omega|assumption)only[W0,Z0,Nat.reduceAdd,W,g5,C13,r5,G26];refine⟨⟨B,rfl,?_,fun b o t e => ?_⟩,a0.hs (by omega)⟩
  rotate_left
  .rcases hA.2 with ⟨_,e2⟩ | ⟨q,a1,a2,a3,_⟩
   .rw[e] at e2;cases e2
   .rw[e] at a3
    injection a3 with a4;injection a4 with a5;injection a5 with a6;omega
  obtain⟨B',e,aj⟩:=(hA.low (i:=nx+1) (by omega) (some (.cells [.int .i64 N,.slice B (D14 es s).length (D14 es s).length] 0))).sl
  cases e
  exact aj
 have W:(i:Int)<(es.length:Int):=by omega
 obtain⟨e,he⟩:∃ e,es[i]? = some e:=⟨_,aE hi⟩
 obtain⟨A,oA,V63,rfl,aq,O,a7⟩:=(hS.ext a0).open (i:=i) (by rw[E1];omega);have ao:=Q.get he;have q0:=a7 _ _ (Q3 he);have J:=M58 s he;have au:(D14 (es.take i) s).length<=8:=by have:=K46 (es.take i) s;rw[cK] at this;omega
 by_cases h0:e &&& s=0
 .rw[if_pos h0,List.append_nil] at J
  simp(disch:=first|omega|assumption)only[W0,W,X3 O,q0,h0,N13,ne_eq,not_true_eq_false];exact ah (m-1) _ _ _ (by omega) ⟨i+1,v,by omega,by simp,by rw[J];exact hA,g5,Z,ad⟩
 .rw[if_neg h0] at J
  simp(disch:=first|omega|assumption)only[W0,W,X3 O,q0,h0,N13,ne_eq,not_false_eq_true,g5,Y48];have a9:D0 H5 U (hs H5 U (some (.cells [.int .u32 ((e &&& s:Nat):Int)] 0))) (U+1):=(D0.refl _ _).new _ (aD _) (by omega);have g6:=(a9.get E (by omega)).trans g5;refine Y20 (H0:=hs H5 U (some (.cells [.int .u32 ((e &&& s:Nat):Int)] 0))) (lo:=E+1) (m:=1) (l:=[.int .u32 ((e &&& s:Nat):Int)]) (by omega) (hA.ext a9) (J9 (Z11 _ _ _) rfl (by omega)) (by omega) rfl (by omega) (by omega) (D0.self (by omega)) (by omega) ?_;intro v' H' aa ag _;have g7:=(ag.get E (by omega)).trans g6;obtain⟨B',rfl,_⟩:=aa.sl;simp(disch:=first|omega|assumption)only[W0,Nat.reduceAdd,g7,K62];refine ah (m-1) _ _ _ (by omega) ⟨i+1,_,by omega,by simp,?_,Z11 _ _ _,?_,by omega⟩
  .rw[J,Y22,bH]
   exact aa.low (by omega) _
  .exact(Z.thru ⟨by omega,fun q hq=>(ag.get q (by omega)).trans (a9.get q (by omega))⟩).hs (aD _)
theorem V99{N s cap:Nat}{A:Option Addr}{es:List Nat}{H:Y0}{nx:Nat}(hS:Sl H nx A (K12 es))(hN:N<=6)(J:∀ e ∈ es,e<2^N)(O:es.length<=8)(E:s<4294967296):
  Q2 Tryz.prog 43 [gv N A es.length cap,.int .u32 (s:Int)] H nx fun r H' nx'=>(∃ B,r=gv N B (D14 es s).length (D14 es s).length/\Sl H' nx' B (K12 (D14 es s)))/\D0 H nx H' nx':=
 (Q49 hS hN J O E).mono fun _ _ _ ⟨⟨B,h1,h2,_⟩,h3⟩=>⟨⟨B,h1,h2⟩,h3⟩
def D19(es:List Nat)(N:Nat):List Nat:=R8 (B2 es N) N N (2^N-1)
theorem N30{es:List Nat}{N:Nat}:∀(u x:Nat),(B2 es N)[u]? = some x->x<2^N:=by
 intro u x h;simp only[B2,cP,bU] at h;obtain⟨v,_,rfl⟩:=h
 split
 .exact G11 _ _
 .exact aQ _
theorem U41 {N cap:Nat} {A:Option Addr} {es:List Nat} {H:Y0} {nx:Nat} (hS:Sl H nx A (K12 es)) (hN:N<=6) (hsm:∀ e ∈ es,e<2^N) (hle:es.length<=8):
  Q2 Tryz.prog 42 [gv N A es.length cap] H nx fun r H' nx'=>(∃ B,r = .slice B (D19 es N).length (D19 es N).length/\Sl H' nx' B (K12 (D19 es N)))/\D0 H nx H' nx':=by
 have hp64:2^N<=64:=Nat.pow_le_pow_right (n:=2) (by omega) hN
 have hp1:0<2^N:=Nat.two_pow_pos N
 have hsm32:U14 es:=fun e he=>by have:=hsm e he;omega
 have hgc:N3 N es=0:=V11 (by omega) (by omega) fun i e he=>hsm e (List.mem_of_getElem? he)
 have haL:=N30 (es:=es) (N:=N)
 refine spec42 ?_
 unfold F42
 have hE1:D0 H nx (hs H nx (some (.cells [.int .i64 N,.slice A es.length cap] 0))) (nx+1):=(D0.refl H nx).new _ (Nat.le_refl _) (by omega)
 have k1:J0 (hs H nx (some (.cells [.int .i64 N,.slice A es.length cap] 0))) nx=some (.cells [.int .i64 N,.slice A es.length cap] 0):=Z11 _ _ _
 simp (disch:=first|omega|assumption|exact G0 (by assumption)|exact U10 (by assumption)|exact X0 (by omega)|fail) only[W0,Z0,Q0.val,C13]
 generalize hs H nx (some (.cells [.int .i64 N,.slice A es.length cap] 0))=K at *
 refine R0 (N11 N A es cap _ _ (hS.ext hE1) hsm32) ?_
 rintro _ H2 nx2 ⟨rfl,hE2⟩
 have d1:decide (N3 N es≠0)=false:=by simp[hgc]
 have g2:=(hE2.get nx (by omega)).trans k1
 have hle2:=hE2.le
 simp (disch:=first|omega|assumption|exact G0 (by assumption)|exact U10 (by assumption)|exact X0 (by omega)|fail) only[W0,d1,g2,C13]
 refine R0 (Q65 (by omega) A es cap _ _ (hS.ext (hE1.trans hE2)) hsm (by omega)) ?_
 rintro _ H3 nx3 ⟨rfl,hE3⟩
 have g3:=(hE3.get nx (by omega)).trans g2
 have hle3:=hE3.le
 have e1:(K12 (B2 es N)).length=32:=by rw[E1];exact N9 es N
 have e2:(K12 (List.replicate 32 0)).length=32:=by rw[E1];simp
 have e3:=G24 (c:=K12 (List.replicate 32 0)) (vs:=K12 (B2 es N)) (by rw[e1,e2])
 have e4:=W5 (B2 es N)
 rw[Q27]
 simp (disch:=first|omega|assumption|exact G0 (by assumption)|exact U10 (by assumption)|exact X0 (by omega)|fail) only[W0,e1,e2,e3,e4,g3]
 have hE4:D0 H3 nx3 (hs (hs H3 nx3 (some (.cells (K12 (List.replicate 32 0)) 0))) nx3 (some (.cells (K12 (B2 es N)) 0))) (nx3+1):=((D0.refl _ _).new _ (Nat.le_refl _) (m:=nx3+1) (by omega)).hs (Nat.le_refl _)
 have g43:J0 (hs (hs H3 nx3 (some (.cells (K12 (List.replicate 32 0)) 0))) nx3 (some (.cells (K12 (B2 es N)) 0))) nx3=some (.cells (K12 (B2 es N)) 0):=Z11 _ _ _
 generalize hs (hs H3 nx3 (some (.cells (K12 (List.replicate 32 0)) 0))) nx3 (some (.cells (K12 (B2 es N)) 0))=H4 at *
 have g4:=(hE4.get nx (by omega)).trans g3
 refine R0 (C51 (n:=N) (by omega) _ _) ?_
 rintro _ _ _ ⟨rfl,rfl,rfl⟩
 have hE04:=((hE1.trans hE2).trans hE3).trans hE4
 generalize hL:B2 es N=aL at *
 have hLN:aL.length=32:=by rw[<- hL];exact N9 es N
 refine B1 (m:=N) (fun m L H' nx'=>∃ (l:Nat) (v:Value) (res:List Nat),L=[v,.int .u32 (l:Int)]/\(V5 N l).length<=m/\l<2^N/\res.length+m<=N+1/\res++R8 aL N m l=D19 es N/\Acc (nx3+1) H' nx' 1 v res.length (K12 res)/\D0 H4 (nx3+1) H' nx') ?_
  ⟨2^N-1,.slice none 0 0,[],rfl,Q15 _ _,by omega,by simp,by unfold D19;rw[hL];rfl,Acc.nil _ _ _ _,D0.refl _ _⟩
 rintro m ih L H5 nx5 ⟨l,v,res,rfl,hm,hl,hrm,hres,hA,hE5⟩ hih
 have g5:=(hE5.get nx (by omega)).trans g4
 have g53:=(hE5.get nx3 (by omega)).trans g43
 have hle5:=hE5.le
 have M44:l<4294967296:=by omega
 by_cases h0:l=0
 .subst h0
  have e:R8 aL N m 0=[]:=by cases m<;>rfl
  rw[e,List.append_nil] at hres
  obtain⟨B,rfl,hB⟩:=hA.sl
  simp (disch:=first|omega|assumption|exact G0 (by assumption)|exact U10 (by assumption)|exact X0 (by omega)|fail) only[W0,ne_eq,not_true_eq_false]
  rw[hres] at hB ⊢
  exact⟨⟨B,rfl,hB⟩,hE04.trans hE5⟩
 have h0':¬ (l:Int)=0:=by omega
 obtain⟨m',rfl⟩:∃ m',m=m'+1:=by
  cases m with
  | zero=>
   obtain⟨u,hu⟩:=B14 h0
   have:=U43 (R7 hl hu) hu
   omega
  | succ m=>exact⟨m,rfl⟩
 have e:R8 aL N (m'+1) l=W7 aL N N 0 (2^tz l) :: R8 aL N m' (Z2 l (W7 aL N N 0 (2^tz l))):=if_neg h0
 rw[e] at hres
 have hv:=B54 (N:=N) (by omega) (by omega) hl
 have hlv:=V33 (x:=l) (by omega) (by omega)
 have hlow:=K67 l (by omega) (by omega)
 have hI:=E65 (aL:=aL) haL hv
 have hn32:4294967296-l<4294967296:=by omega
 have hneg:=fun k=>G60 (x:=l) (by omega) M44 k
 simp (disch:=first|omega|assumption|exact G0 (by assumption)|exact U10 (by assumption)|exact X0 (by omega)|fail) only[W0,ne_eq,h0',not_false_eq_true,hneg,hlow]
 generalize tz l=t at *
 refine B1 (m:=N) (fun f L H' nx'=>∃ (c b:Nat),L=[.int .u32 (c:Int),.int .u32 (b:Int)]/\c<2^N/\b<2^N/\N<=f+(V5 N c).length/\(∀ w,b.testBit w=true->c.testBit w=false)/\W7 aL N f c b=W7 aL N N 0 (2^t)/\H5=H'/\nx5=nx') ?_
  ⟨0,2^t,rfl,hp1,R27 hv,by omega,by simp,rfl,rfl,rfl⟩
 rintro f ih6 L _ _ ⟨c,b,rfl,hc,hb,hf,hd,hcb,rfl,rfl⟩ hih6
 have hc32:c<4294967296:=by omega
 have hb32:b<4294967296:=by omega
 by_cases hb0:b=0
 .subst hb0
  have e5:W7 aL N f c 0=c:=by cases f<;>rfl
  rw[e5] at hcb
  rw[<- hcb] at hres hI
  have hm2:=X35 hv hlv hI.self
  have hnd32:Z2 l c<4294967296:=U10 M44
  have hE6:D0 H5 nx5 (hs H5 nx5 (some (.cells [.int .u32 (c:Int)] 0))) (nx5+1):=(D0.refl _ _).new _ (Nat.le_refl _) (by omega)
  simp (disch:=first|omega|assumption|exact G0 (by assumption)|exact U10 (by assumption)|exact X0 (by omega)|fail) only[W0,ne_eq,not_true_eq_false,Y48]
  refine Y20 (H0:=H4) (lo:=nx3+1) (m:=1) (l:=[.int .u32 (c:Int)]) (by omega) (hA.ext hE6) (J9 (Z11 _ _ _) rfl (by omega)) (by omega) rfl (by omega) (by omega) (hE5.trans hE6) (by omega) ?_
  intro v' H' hA' hE' _
  refine hih m' _ _ _ (by omega) ⟨Z2 l c,v',res++[c],rfl,by omega,Z6 hl,by simp;omega,by rw[List.append_assoc];exact hres,?_,hE'⟩
  rw[Y22,List.length_append]
  exact hA'
 have hb0':¬ (b:Int)=0:=by omega
 obtain⟨f',rfl⟩:∃ f',f=f'+1:=by
  cases f with
  | zero=>exact absurd (X20 hb hd (by have:=Q15 N c;omega)) hb0
  | succ f=>exact⟨f,rfl⟩
 have e6:W7 aL N (f'+1) c b=W7 aL N f' (c ||| b) (Z2 (Q4 aL b N) (c ||| b)):=if_neg hb0
 rw[e6] at hcb
 have hg:=R25 hb hb0 hd
 have hcb32:c ||| b<2^N:=Z26 hc hb
 simp (disch:=first|omega|assumption|exact G0 (by assumption)|exact U10 (by assumption)|exact X0 (by omega)|fail) only[W0,ne_eq,hb0',not_false_eq_true,g5]
 refine B1 (m:=N) (fun q L H' nx'=>∃ (j:Nat),q+j=N/\L=[.int .u32 (Q4 aL b j:Int),.int .i64 (j:Int)]/\H5=H'/\nx5=nx') ?_ ⟨0,by omega,rfl,rfl,rfl⟩
 rintro q ih7 L _ _ ⟨j,hq,rfl,rfl,rfl⟩ hih7
 have hnl:=Z14 (b:=b) haL
 by_cases hj:j<N
 case neg=>
  obtain rfl:j=N:=by omega
  have hj':¬ (j:Int)<(j:Int):=by omega
  have hnj:=hnl j
  have hx32:Q4 aL b j<4294967296:=by omega
  have hy32:c ||| b<4294967296:=by omega
  simp (disch:=first|omega|assumption|exact G0 (by assumption)|exact U10 (by assumption)|exact X0 (by omega)|fail) only[W0,hj']
  refine hih6 f' _ _ _ (by omega) ⟨c ||| b,Z2 (Q4 aL b j) (c ||| b),rfl,hcb32,Z6 hnj,by omega,fun w hw => ?_,hcb,rfl,rfl⟩
  rw[N1,Bool.and_eq_true] at hw
  simpa using hw.2
 have hj':(j:Int)<(N:Int):=by omega
 obtain⟨x,hx⟩:∃ x,aL[j]? = some x:=⟨aL[j]'(by omega),List.getElem?_eq_getElem _⟩
 have hx2:=haL j x hx
 have hx32:x<4294967296:=by omega
 have hnj:=hnl j
 have hn32:Q4 aL b j<4294967296:=by omega
 have hxD:aL.getD j 0=x:=by simp[List.getD_eq_getElem?_getD,hx]
 have gx:=Q3 hx
 have hstep:Q4 aL b (j+1)=if b.testBit j=true then Q4 aL b j ||| aL.getD j 0 else Q4 aL b j:=rfl
 rw[hxD] at hstep
 have hj32:j<32:=by omega
 cases hbj:b.testBit j with
 | false=>
  rw[hbj,if_neg (by simp)] at hstep
  simp (disch:=first|omega|assumption|exact G0 (by assumption)|exact U10 (by assumption)|exact X0 (by omega)|fail) only[W0,hj',N13,hbj]
  exact hih7 (q-1) _ _ _ (by omega) ⟨j+1,by omega,by rw[hstep];simp,rfl,rfl⟩
 | true=>
  rw[hbj,if_pos rfl] at hstep
  simp (disch:=first|omega|assumption|exact G0 (by assumption)|exact U10 (by assumption)|exact X0 (by omega)|fail) only[W0,hj',N13,hbj,g53,gx]
  exact hih7 (q-1) _ _ _ (by omega) ⟨j+1,by omega,by rw[hstep];simp,rfl,rfl⟩
end Go.Proofs.YtoiioigihocgbaaGreatDoor
