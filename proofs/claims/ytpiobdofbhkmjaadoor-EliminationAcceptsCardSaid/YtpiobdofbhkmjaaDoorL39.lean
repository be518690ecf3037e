/-
  Contract: the solver's minimum.
  The marked code of Bags lies in GE.
-/
import Derived.Test.YtpiobdofbhkmjaaDoorL38
import Derived.Test.YtpiobdofbhkmjaaDoorL21
set_option linter.unusedSimpArgs false
set_option linter.unusedVariables false
set_option linter.unusedSectionVars false
namespace Go.Clo
theorem Kp.cell {H:Y0} {nx p q:Nat} {H':Y0} {nx':Nat} (e:Kp H nx p q H' nx') (hp:J11 H p) (hq:J11 H q) {i s:Nat} {c:List Value} (hi:i<nx) (hg:X0 H i=some (.cells c s)):X0 H' i=some (.cells c s):=
 (e.get i hi (hp.ne (row:=c) (by rw[V3,hg];rfl)) (hq.ne (row:=c) (by rw[V3,hg];rfl))).trans hg
end Go.Clo
namespace Go.Proofs.YtpiobdofbhkmjaaDoor
open Go.Clo
theorem X50 (N:Nat) (A:Option Addr) (len cap:Nat) (nb:List Nat) (rc rl:Nat):(J24 N A len cap nb rc rl)[0]? = some (.int .i64 (N:Int)):=rfl
structure W25 (H0:Y0) (nx p rc rl N:Nat) (A:Option Addr) (cap:Nat) (es nb:List Nat) (L:Nat->Rat) (acc:Option Rat) (H:Y0) (m:Nat):Prop where
 sv:SV H m p rc rl N A cap es nb L
 kp:Kp H0 nx rc rl H m
 b6:X0 H nx=some (.cells [.bool false,.slice none 0 0,.slice none 0 0] 0)
 b9:∃ c,G9 c/\X0 H (nx+1+1)=some (.cells c 0)/\∀ b,acc=some b->RR H m (.agg ⟨c⟩) b
 le:nx+1+1+1<=m
theorem W25.step {H0:Y0} {nx p rc rl N:Nat} {A:Option Addr} {cap:Nat} {es nb:List Nat} {L:Nat->Rat} {acc:Option Rat} {H:Y0} {m:Nat} {H':Y0} {m':Nat} (h:W25 H0 nx p rc rl N A cap es nb L acc H m)
  (e:Kp H m rc rl H' m') (s:SV H' m' p rc rl N A cap es nb L):W25 H0 nx p rc rl N A cap es nb L acc H' m':=by
 have hle:=h.le
 have hle2:=e.le
 have hc:=h.sv.ic
 have hl:=h.sv.il
 obtain⟨c,h1,h2,h3⟩:=h.b9
 refine⟨s,h.kp.trans e,?_,⟨c,h1,?_,fun b hb=>(h3 b hb).kp e hc hl⟩,by omega⟩
 .rw[e.get nx (by omega) (hc.ne (row:=[.bool false,.slice none 0 0,.slice none 0 0]) (by rw[V3,h.b6];rfl)) (hl.ne (row:=[.bool false,.slice none 0 0,.slice none 0 0]) (by rw[V3,h.b6];rfl))]
  exact h.b6
 .rw[e.get _ (by omega) (hc.ne (row:=c) (by rw[V3,h2];rfl)) (hl.ne (row:=c) (by rw[V3,h2];rfl))]
  exact h2
theorem W25.ext {H0:Y0} {nx p rc rl N:Nat} {A:Option Addr} {cap:Nat} {es nb:List Nat} {L:Nat->Rat} {acc:Option Rat} {H:Y0} {m:Nat} {H':Y0} {m':Nat} (h:W25 H0 nx p rc rl N A cap es nb L acc H m)
  (e:D0 H m H' m'):W25 H0 nx p rc rl N A cap es nb L acc H' m':=h.step e.kp (h.sv.ext e)
theorem W25.set {H0:Y0} {nx p rc rl N:Nat} {A:Option Addr} {cap:Nat} {es nb:List Nat} {L:Nat->Rat} {acc:Option Rat} {H:Y0} {m:Nat} (h:W25 H0 nx p rc rl N A cap es nb L acc H m) (hp:p<nx)
  {c:List Value} {x:Rat} (hc:G9 c) (hx:RR H m (.agg ⟨c⟩) x):W25 H0 nx p rc rl N A cap es nb L (some x) (hs H (nx+1+1) (some (.cells c 0))) m:=by
 obtain⟨d,h1,h2,h3⟩:=h.b9
 refine⟨h.sv.boxs h2 (G9.noU h1) (by omega),h.kp.hs (.inl (by omega)),?_,⟨c,hc,Q0 _ _ _,?_⟩,h.le⟩
 .rw[M0 _ (by omega)];exact h.b6
 .intro b hb
  cases hb
  exact hx.boxs h2 (D23 h1) (.inl rfl)
theorem N53 {p rc rl N cap comp:Nat} {A:Option Addr} {es nb:List Nat} {L:Nat->Rat} (hN:N<=6) (hsm:∀ e ∈ es,e<2^N) (hle:es.length<=8) (hnb:∀ (u x:Nat),nb[u]? = some x->x<2^N)
  (hcov:∀ w,w<N->∃ e ∈ es,e.testBit w=true) (hc:comp<2^N) (hL:∀ l,l≠0->(∀ w,l.testBit w=true->comp.testBit w=true)->L l=V10 N (C6 es nb N comp) l):
  ∀ (left:Nat),left<2^N->(∀ w,left.testBit w=true->comp.testBit w=true)->∀ (H:Y0) (nx:Nat),SV H nx p rc rl N A cap es nb L ->
  J2 Tryd.prog 29 [.pointer (some ⟨p,0,none⟩),.int .u32 (comp:Int),.int .u32 (left:Int)] H nx fun v H' nx'=>RR H' nx' v (V10 N (C6 es nb N comp) left)/\SV H' nx' p rc rl N A cap es nb L/\Kp H nx rc rl H' nx':=by
 intro left
 induction left using Nat.strongRecOn with
 | _ left ih=>
 intro hl hlc H nx h
 have hp64:2^N<=64:=Nat.pow_le_pow_right (n:=2) (by omega) hN
 have hc32:comp<4294967296:=by omega
 have hl32:left<4294967296:=by omega
 have hpn:=h.pn
 have hshort:∀ l,X4 (V10 N (C6 es nb N comp) l) 100000:=fun l=>(M27 (Y20 _ (by omega)) (fun v l=>R12 es N _ hle) l).1
 have hshortS:∀ i b,E13 N (C6 es nb N comp) left i=some b->X4 b 100000:=(M27 (Y20 _ (by omega)) (fun v l=>R12 es N _ hle) left).2
 refine spec29 ?_
 unfold F29
 have hE1:D0 H nx (hs H nx (some (.cells [.bool false,.slice none 0 0,.slice none 0 0] 0))) (nx+1):=(D0.refl _ _).new _ (Nat.le_refl _) (by omega)
 have g1:X0 (hs H nx (some (.cells [.bool false,.slice none 0 0,.slice none 0 0] 0))) nx=some (.cells [.bool false,.slice none 0 0,.slice none 0 0] 0):=Q0 _ _ _
 have h1:=h.ext hE1
 rw[X18]
 by_cases h0:left=0
 .subst h0
  simp (disch:=first | omega | assumption | exact Y2 (by assumption) | exact Q1 (by assumption) | exact J1 (by omega) | fail) only[W0,B0.val]
  generalize hs H nx (some (.cells [.bool false,.slice none 0 0,.slice none 0 0] 0))=H1 at *
  refine K0 (V16 (n:=0) (by omega) (by omega) _ _) ?_
  rintro r H3 nx3 ⟨hr,hE3⟩
  obtain⟨c,rfl,hcc⟩:=hr.num
  have g3:=(hE3.get nx (by omega)).trans g1
  simp (disch:=first | omega | assumption | exact Y2 (by assumption) | exact Q1 (by assumption) | exact J1 (by omega) | fail) only[W0,Nat.reduceAdd,hcc.three,hcc.one,g3,Z5 (show c.length=[Value.bool false,.slice none 0 0,.slice none 0 0].length from hcc.three),Q3 hcc]
  have hE:=(hE1.trans hE3).hs (i:=nx) (b:=some (.cells c 0)) (Nat.le_refl _)
  refine⟨?_,h.ext hE,hE.kp⟩
  rw[E29,if_pos rfl]
  exact hr.boxs g3 (X8 rfl) (.inl rfl)
 have h0':¬ (left:Int)=0:=by omega
 obtain⟨M,hM,hMv⟩:=h1.lm
 have hl35:=M69 (N:=N) (A:=A) (len:=es.length) (cap:=cap) (rc:=rc) (rl:=rl) h1.nbl
 cases hk:M left with
 | some v=>
  have hv:=hMv left v hk
  rw[hL left h0 hlc] at hv
  obtain⟨c,rfl,hcc⟩:=hv.num
  simp (disch:=first | omega | assumption | exact Y2 (by assumption) | exact Q1 (by assumption) | exact J1 (by omega) | fail) only[W0,B0.val,Nat.reduceAdd,h0',h1.hp,hl35,hM.lkS hk,hcc.three,hcc.one,Z5 (show c.length=[Value.bool false,.slice none 0 0,.slice none 0 0].length from hcc.three),Q3 hcc,g1]
  generalize hs H nx (some (.cells [.bool false,.slice none 0 0,.slice none 0 0] 0))=H1 at *
  have hE6:D0 H1 (nx+1) (hs (hs H1 (nx+1) (some (.cells [.bool false,.slice none 0 0,.slice none 0 0] 0))) (nx+1) (some (.cells c 0))) (nx+1+1):=((D0.refl _ _).new _ (Nat.le_refl _) (m:=nx+1+1) (by omega)).new _ (by omega) (by omega)
  have g6:=(hE6.get nx (by omega)).trans g1
  have hE:=(hE1.trans hE6).hs (i:=nx) (b:=some (.cells c 0)) (Nat.le_refl _)
  refine⟨?_,h.ext hE,hE.kp⟩
  exact (hv.ext hE6).boxs g6 (X8 rfl) (.inl rfl)
 | none=>
  simp (disch:=first | omega | assumption | exact Y2 (by assumption) | exact Q1 (by assumption) | exact J1 (by omega) | fail) only[W0,Z0,B0.val,Nat.reduceAdd,h0',h1.hp,hl35,hM.lkN hk,G5]
  generalize hs H nx (some (.cells [.bool false,.slice none 0 0,.slice none 0 0] 0))=H1 at *
  have hE7:D0 H1 (nx+1) (hs (hs (hs H1 (nx+1) (some (.cells [.bool false,.slice none 0 0,.slice none 0 0] 0))) (nx+1) (some (.cells [.bool false,.slice none 0 0,.slice none 0 0] 0))) (nx+1+1) (some (.cells [.bool false,.slice none 0 0,.slice none 0 0] 0))) (nx+1+1+1):=
   (((D0.refl _ _).new _ (Nat.le_refl _) (m:=nx+1+1) (by omega)).new _ (by omega) (m:=nx+1+1) (by omega)).new _ (by omega) (by omega)
  have g7:X0 (hs (hs (hs H1 (nx+1) (some (.cells [.bool false,.slice none 0 0,.slice none 0 0] 0))) (nx+1) (some (.cells [.bool false,.slice none 0 0,.slice none 0 0] 0))) (nx+1+1) (some (.cells [.bool false,.slice none 0 0,.slice none 0 0] 0))) (nx+1+1)=some (.cells [.bool false,.slice none 0 0,.slice none 0 0] 0):=Q0 _ _ _
  have g76:=(hE7.get nx (by omega)).trans g1
  have h7:=h1.ext hE7
  simp (disch:=first | omega | assumption | exact Y2 (by assumption) | exact Q1 (by assumption) | exact J1 (by omega) | fail) only[W0,X50]
  generalize hs (hs (hs H1 (nx+1) (some (.cells [.bool false,.slice none 0 0,.slice none 0 0] 0))) (nx+1) (some (.cells [.bool false,.slice none 0 0,.slice none 0 0] 0))) (nx+1+1) (some (.cells [.bool false,.slice none 0 0,.slice none 0 0] 0))=H7 at *
  have hst:W25 H nx p rc rl N A cap es nb L none H7 (nx+1+1+1):=
   ⟨h7,(hE1.trans hE7).kp,g76,⟨_,⟨_,_,_,_,_,_,_,rfl⟩,g7,fun b hb=>by cases hb⟩,Nat.le_refl _⟩
  have hs0:([.bool false,.int .i64 0]:List Value)=[.bool (E13 N (C6 es nb N comp) left 0).isSome,.int .i64 ((0:Nat):Int)]:=rfl
  have hm0:W25 H nx p rc rl N A cap es nb L (E13 N (C6 es nb N comp) left 0) H7 (nx+1+1+1):=hst
  rw[hs0]
  clear hs0 hst
  refine E1 (m:=N) (fun f L1 H' nx'=>∃ i,f+i=N/\L1=[.bool (E13 N (C6 es nb N comp) left i).isSome,.int .i64 (i:Int)]/\W25 H nx p rc rl N A cap es nb L (E13 N (C6 es nb N comp) left i) H' nx') ?_ ⟨0,by omega,rfl,hm0⟩
  rintro f ih1 L1 H2 nx2 ⟨i,hf,rfl,hI⟩ hih
  have hnoc:∀ {c:List Value} (k:VP),G9 c->N9 c 0 (some 3) k=k (.agg ⟨c⟩):=fun k hc=>Q3 hc k
  by_cases hi:i<N
  case neg=>
   obtain rfl:i=N:=by omega
   have hi':¬ (i:Int)<(i:Int):=by omega
   obtain⟨u,hu⟩:=Nat.exists_testBit_of_ne_zero h0
   have hu2:u<i:=by
    refine Classical.byContradiction fun hn => ?_
    rw[Nat.testBit_lt_two_pow (Nat.lt_of_lt_of_le hl (Nat.pow_le_pow_right (n:=2) (by omega) (show i<=u by omega)))] at hu
    cases hu
   obtain⟨b,hb⟩:=Z40 (N:=i) (f:=C6 es nb i comp) (left:=left) ⟨u,hu2,hu⟩
   have hres:V10 i (C6 es nb i comp) left=b:=by rw[E29,if_neg h0,hb];rfl
   rw[hb] at hI
   clear hih
   have hI':=hI.ext (D0.self (m:=nx2+7) (by omega))
   obtain⟨c9,hc9,g9,hb9⟩:=hI'.b9
   have hbR:=hb9 b rfl
   have g6:=hI'.b6
   have hsv:=hI'.sv
   have hkp:=hI'.kp
   have hle2:=hI.le
   obtain⟨ML,hML,hMLv⟩:=hsv.lm
   obtain⟨MC,hMC,hMCv⟩:=hsv.cm
   have hl35':=M69 (N:=i) (A:=A) (len:=es.length) (cap:=cap) (rc:=rc) (rl:=rl) hsv.nbl
   have hrl0:=h.rln
   have hrc0:=h.rcn
   simp (disch:=first | omega | assumption | exact Y2 (by assumption) | exact Q1 (by assumption) | exact J1 (by omega) | fail) only[W0,hi',hsv.hp,hl35',g9,Q3 hc9]
   refine hML.put left _ fun mes mc hput => ?_
   obtain⟨mes0,mc0,hgm,_⟩:=hML
   have g9':X0 (hs H2 rl (some (.map mes mc))) (nx+1+1)=_:=(M0 _ (by omega)).trans g9
   have g6':X0 (hs H2 rl (some (.map mes mc))) nx=_:=(M0 _ (by omega)).trans g6
   simp (disch:=first | omega | assumption | exact Y2 (by assumption) | exact Q1 (by assumption) | exact J1 (by omega) | fail) only[W0,Nat.reduceAdd,g9',Q3 hc9,hc9.three,hc9.one,g6',Z5 (show c9.length=[Value.bool false,.slice none 0 0,.slice none 0 0].length from hc9.three)]
   have hbox:∀ {v:Value} {x:Rat},RR H2 (nx2+7) v x->RR (hs (hs H2 rl (some (.map mes mc))) nx (some (.cells c9 0))) (nx2+7) v x:=fun hv=>
    (hv.boxm hgm).boxs g6' (X8 rfl) (.inl rfl)
   have hk2:Kp H nx rc rl (hs (hs H2 rl (some (.map mes mc))) nx (some (.cells c9 0))) (nx2+7):=(hkp.hs (.inr (.inr rfl))).hs (.inl (Nat.le_refl _))
   have hpl:=h.pl
   rw[hres]
   refine⟨hbox hbR,⟨?_,by omega,by omega,by omega,h.nbl,h.es'.kp hk2 h.ic h.il,⟨MC,hMC.same ?_,fun n v hv=>hbox (hMCv n v hv)⟩,⟨_,hput.same (M0 _ (by omega)),fun n v hv => ?_⟩,h.ne⟩,hk2⟩
   .rw[M0 _ (by omega),M0 _ hpl];exact hsv.hp
   .rw[M0 _ (by omega),M0 _ h.ne]
   .by_cases hns:n=left
    .subst hns
     simp only[if_true] at hv
     cases hv
     rw[hL n h0 hlc,hres]
     exact hbox hbR
    .simp only[hns,if_false] at hv
     exact hbox (hMLv n v hv)
  have hi':(i:Int)<(N:Int):=by omega
  have hi32:i<32:=by omega
  simp (disch:=first | omega | assumption | exact Y2 (by assumption) | exact Q1 (by assumption) | exact J1 (by omega) | fail) only[W0,hi']
  refine J6 (fun L' H' nx'=>L'=[.bool (E13 N (C6 es nb N comp) left (i+1)).isSome]/\W25 H nx p rc rl N A cap es nb L (E13 N (C6 es nb N comp) left (i+1)) H' nx') (fun j hj => ?_) ?_
  case refine_2=>
   rintro _ H3 nx3 ⟨rfl,hI3⟩
   simp (disch:=first | omega | assumption | exact Y2 (by assumption) | exact Q1 (by assumption) | exact J1 (by omega) | fail) only[W0]
   exact hih (f-1) _ _ _ (by omega) ⟨i+1,by omega,by simp,hI3⟩
  clear hih ih1
  cases hb:left.testBit i with
  | false=>
   have hsame:E13 N (C6 es nb N comp) left (i+1)=E13 N (C6 es nb N comp) left i:=by rw[Z27,if_neg (by simp[hb])]
   rw[hsame] at hj
   simp (disch:=first | omega | assumption | exact Y2 (by assumption) | exact Q1 (by assumption) | exact J1 (by omega) | fail) only[W0]
   exact hj _ _ _ ⟨rfl,hI⟩
  | true=>
   have hp32:2^i<4294967296:=by have:=V11 hi;omega
   have hnd32:M2 left (2^i)<4294967296:=Q1 hl32
   have hnext:E13 N (C6 es nb N comp) left (i+1)=G23 (V10 N (C6 es nb N comp) (M2 left (2^i))) (C6 es nb N comp i left) (E13 N (C6 es nb N comp) left i):=by rw[Z27,if_pos hb]
   rw[hnext] at hj
   have hacS:=hshortS i
   generalize E13 N (C6 es nb N comp) left i=acc at *
   have hwS:=hshort (M2 left (2^i))
   simp (disch:=first | omega | assumption | exact Y2 (by assumption) | exact Q1 (by assumption) | exact J1 (by omega) | fail) only[W0]
   refine K0 (ih _ (V27 hb) (D7 hl) (M41 hlc) H2 nx2 hI.sv) ?_
   generalize V10 N (C6 es nb N comp) (M2 left (2^i))=w at *
   rintro v3 H3 nx3 ⟨hv3,hs3,hk3⟩
   have hI3:=hI.step hk3 hs3
   have hle3:=hI3.le
   obtain⟨c3,rfl,hc3⟩:=hv3.num
   simp (disch:=first | omega | assumption | exact Y2 (by assumption) | exact Q1 (by assumption) | exact J1 (by omega) | fail) only[W0,Nat.reduceAdd,hc3.three,hc3.one,Z5 (show c3.length=[Value.bool false,.slice none 0 0,.slice none 0 0].length from hc3.three)]
   have hE4:D0 H3 nx3 (hs (hs H3 nx3 (some (.cells [.bool false,.slice none 0 0,.slice none 0 0] 0))) nx3 (some (.cells c3 0))) (nx3+1):=((D0.refl _ _).new _ (Nat.le_refl _) (m:=nx3+1) (by omega)).hs (Nat.le_refl _)
   have g4:X0 (hs (hs H3 nx3 (some (.cells [.bool false,.slice none 0 0,.slice none 0 0] 0))) nx3 (some (.cells c3 0))) nx3=some (.cells c3 0):=Q0 _ _ _
   generalize hs (hs H3 nx3 (some (.cells [.bool false,.slice none 0 0,.slice none 0 0] 0))) nx3 (some (.cells c3 0))=H4 at *
   have hI4:=hI3.ext hE4
   have hv4:=hv3.ext hE4
   refine J6 (fun L' H' nx'=>(∃ q,L'=[.bool q]/\(q=true<->∃ b,acc=some b/\b<=w))/\D0 H4 (nx3+1) H' nx') (fun j5 hj5 => ?_) ?_
   case refine_1=>
    cases acc with
    | none=>
     simp (disch:=first | omega | assumption | exact Y2 (by assumption) | exact Q1 (by assumption) | exact J1 (by omega) | fail) only[W0,Option.isSome]
     exact hj5 _ _ _ ⟨⟨false,rfl,by simp⟩,D0.refl _ _⟩
    | some b=>
     obtain⟨c9,hc9,g9,hb9⟩:=hI3.b9
     have hbR:=(hb9 b rfl).ext hE4
     simp (disch:=first | omega | assumption | exact Y2 (by assumption) | exact Q1 (by assumption) | exact J1 (by omega) | fail) only[W0,Option.isSome,g9,Q3 hc3,Q3 hc9]
     refine K0 (N20 hv4 hbR hwS (hacS _ rfl)) ?_
     rintro _ H5 nx5 ⟨rfl,hE5⟩
     simp (disch:=first | omega | assumption | exact Y2 (by assumption) | exact Q1 (by assumption) | exact J1 (by omega) | fail) only[W0]
     exact hj5 _ _ _ ⟨⟨_,rfl,by simp[K70]⟩,hE5⟩
   rintro _ H5 nx5 ⟨⟨q,rfl,hq⟩,hE5⟩
   have hI5:=hI4.ext hE5
   have g5:=(hE5.get nx3 (by omega)).trans g4
   have hle5:=hE5.le
   cases q with
   | true=>
    obtain⟨b,rfl,hbw⟩:=hq.1 rfl
    simp (disch:=first | omega | assumption | exact Y2 (by assumption) | exact Q1 (by assumption) | exact J1 (by omega) | fail) only[W0]
    refine hj _ _ _ ⟨?_,?_⟩
    .simp[G23,hbw]
    .rw[show G23 w (C6 es nb N comp i left) (some b)=some b from if_pos hbw]
     exact hI5
   | false=>
    have hnq:∀ b,acc=some b->¬ b<=w:=fun b hb hbw=>by have:=hq.2 ⟨b,hb,hbw⟩;cases this
    have hE5':D0 H4 (nx3+1) H5 (nx5+10):=hE5.more (by omega)
    have h5':=(hI4.ext hE5').sv
    simp (disch:=first | omega | assumption | exact Y2 (by assumption) | exact Q1 (by assumption) | exact J1 (by omega) | fail) only[W0,g5,Q3 hc3]
    refine K0 (J83 h5' hN hnb hi hc hl) ?_
    rintro _ H6 nx6 ⟨rfl,hE6⟩
    have h6:=h5'.ext hE6
    have g6:=(hE6.get nx3 (by omega)).trans g5
    have hle6:=hE6.le
    have hbl:=E70 (nb:=nb) (v:=i) (comp:=comp) (left:=left) hnb hN hi
    have hbs:=K57 (nb:=nb) (comp:=comp) hN hi hb
    refine K0 (G48 h6 (by omega) hsm hle hbl (Y25 hi hbs) fun v hv=>hcov v ?_) ?_
    .refine Classical.byContradiction fun hn => ?_
     rw[Nat.testBit_lt_two_pow (Nat.lt_of_lt_of_le hbl (Nat.pow_le_pow_right (n:=2) (by omega) (show N<=v by omega)))] at hv
     cases hv
    rintro v7 H7 nx7 ⟨hv7,hs7,hk7⟩
    have hv47:=((hv4.ext hE5').ext hE6).kp hk7 h6.ic h6.il
    have g7:=hk7.cell h6.ic h6.il (by omega) g6
    have hle7:=hk7.le
    refine K0 (B37 hv47 hv7 hwS (R12 _ _ _ hle)) ?_
    rw[show Q21 es N (Z31 nb N i comp left)=C6 es nb N comp i left from rfl]
    have hcS:X4 (C6 es nb N comp i left) 100000:=R12 _ _ _ hle
    generalize C6 es nb N comp i left=cv at *
    rintro v8 H8 nx8 ⟨hv8,hE8⟩
    obtain⟨c8,rfl,hc8⟩:=hv8.num
    have g8:=(hE8.get nx3 (by omega)).trans g7
    have hs8:=hs7.ext hE8
    have hle8:=hE8.le
    simp (disch:=first | omega | assumption | exact Y2 (by assumption) | exact Q1 (by assumption) | exact J1 (by omega) | fail) only[W0,hc8.three,hc8.one,g8,Z5 (show c8.length=c3.length by rw[hc8.three,hc3.three]),g7,g6,Q3 hc3]
    have hI8:=hI3.step ((((hE4.kp.trans hE5'.kp).trans hE6.kp).trans hk7).trans hE8.kp) hs8
    have hk9:Kp H3 nx3 rc rl (hs H8 nx3 (some (.cells c8 0))) nx8:=((((hE4.kp.trans hE5'.kp).trans hE6.kp).trans hk7).trans hE8.kp).hs (.inl (Nat.le_refl _))
    have hs9:=hs8.boxs (l':=c8) g8 (G9.noU hc3) (by have:=hs3.pn;omega)
    have hv9:=hv8.boxs (row':=c8) g8 (D23 hc3) (.inl rfl) (s':=0)
    have hI9:=hI3.step hk9 hs9
    have hb89:∀ v x,RR H8 nx8 v x->RR (hs H8 nx3 (some (.cells c8 0))) nx8 v x:=fun v x hh=>hh.boxs g8 (D23 hc3) (.inl rfl)
    have g9':X0 (hs H8 nx3 (some (.cells c8 0))) nx3=some (.cells c8 0):=Q0 _ _ _
    generalize hs H8 nx3 (some (.cells c8 0))=H9 at *
    have hgS:=Z24 hwS hcS
    refine⟨by rw[hc3.three];omega,?_⟩
    refine J6 (fun L' H' nx'=>(∃ q,L'=[.bool q]/\(q=true<->∀ b,acc=some b->gr w cv<b))/\D0 H9 nx8 H' nx') (fun j10 hj10 => ?_) ?_
    case refine_1=>
     cases acc with
     | none=>
      simp (disch:=first | omega | assumption | exact Y2 (by assumption) | exact Q1 (by assumption) | exact J1 (by omega) | fail) only[W0,Option.isSome]
      exact hj10 _ _ _ ⟨⟨true,rfl,by simp⟩,D0.refl _ _⟩
     | some b=>
      obtain⟨c9,hc9,g9,hb9⟩:=hI8.b9
      have hbR:=hb89 _ _ (hb9 b rfl)
      simp (disch:=first | omega | assumption | exact Y2 (by assumption) | exact Q1 (by assumption) | exact J1 (by omega) | fail) only[W0,Option.isSome,g9,Q3 hc8,Q3 hc9]
      refine K0 (N20 hv9 hbR hgS (hacS _ rfl)) ?_
      rintro _ H10 nx10 ⟨rfl,hE10⟩
      simp (disch:=first | omega | assumption | exact Y2 (by assumption) | exact Q1 (by assumption) | exact J1 (by omega) | fail) only[W0]
      exact hj10 _ _ _ ⟨⟨_,rfl,by simp[Q22]⟩,hE10⟩
    rintro _ H10 nx10 ⟨⟨q,rfl,hq2⟩,hE10⟩
    have hI10:=hI9.ext hE10
    have g10:=(hE10.get nx3 (by omega)).trans g9'
    cases q with
    | true=>
     have hst:G23 w cv acc=some (gr w cv):=by
      cases acc with
      | none=>rfl
      | some b=>
       show (if b<=w then _ else _)=_
       rw[if_neg (hnq b rfl),if_pos (hq2.1 rfl b rfl)]
     obtain⟨c9,hc9,g9,hb9⟩:=hI10.b9
     simp (disch:=first | omega | assumption | exact Y2 (by assumption) | exact Q1 (by assumption) | exact J1 (by omega) | fail) only[W0,g10,Q3 hc8,hc8.three,hc8.one,g9,Z5 (show c8.length=c9.length by rw[hc8.three,hc9.three])]
     refine⟨by rw[hc9.three];omega,hj _ _ _ ?_⟩
     rw[hst]
     exact⟨rfl,hI10.set hpn hc8 (hv9.ext hE10)⟩
    | false=>
     have hst:G23 w cv acc=acc:=by
      cases acc with
      | none=>have:=hq2.2 (by simp);cases this
      | some b=>
       show (if b<=w then _ else _)=_
       have:¬ gr w cv<b:=fun hh=>by have:=hq2.2 (fun b' e=>by cases e;exact hh);cases this
       rw[if_neg (hnq b rfl),if_neg this]
     simp (disch:=first | omega | assumption | exact Y2 (by assumption) | exact Q1 (by assumption) | exact J1 (by omega) | fail) only[W0]
     refine hj _ _ _ ?_
     rw[hst]
     exact⟨rfl,hI10⟩
end Go.Proofs.YtpiobdofbhkmjaaDoor

namespace Go.Proofs.YtpiobdofbhkmjaaDoor
end Go.Proofs.YtpiobdofbhkmjaaDoor
