/-
  Contract: the closure of the solver's first.
  Contract: the solver's first.
-/
import Derived.Test.YtpiobdofbhkmjaaDoorL41
set_option linter.unusedSimpArgs false
set_option linter.unusedVariables false
set_option linter.unusedSectionVars false
namespace Go.Clo
theorem W60 {P:Program} {f:FuncId} {args:List Value} {E H:Y0} {nx p q:Nat} {k:EP} {Q:EP} (hsub:∀ i b,X0 E i=some b->X0 H i=some b) (hp:J11 E p) (hq:J11 E q) (h:J2 P f args E nx Q)
  (hQ:∀ v H0 nx',Q v H0 nx'->Kp E nx p q H0 nx') (hk:∀ v H' nx' H0,Q v H0 nx'->Kp H nx p q H' nx'->Sub H0 nx' H'->Top H' nx'->k v H' nx'):Z1 P f args H nx k:=by
 obtain⟨v,H0,nx',hc,hq'⟩:=h
 have hE:=hQ _ _ _ hq'
 obtain⟨ep,cp,hp⟩:=hp
 obtain⟨eq,cq,hq⟩:=hq
 obtain⟨H',h1,h2⟩:=K56 (fun i=>if i<nx/\X0 E i=none/\(X0 H i).isSome=true then X0 H i else X0 H0 i) nx'
 refine .inr ⟨v,H',nx',hc.beside hsub hE.le h1 h2,hk v H' nx' H0 hq' ⟨hE.le,fun i hi h3 h4 => ?_⟩ (fun i b hi hb => ?_) h2⟩
 .rw[h1 i (Nat.lt_of_lt_of_le hi hE.le)]
  split
  .rfl
  .rename_i hn
   rw[hE.get i hi h3 h4]
   cases hg:X0 E i with
   | some b=>rw[hsub i b hg]
   | none=>
    cases hg2:X0 H i with
    | none=>rfl
    | some b=>exact absurd ⟨hi,hg,by rw[hg2];rfl⟩ hn
 .rw[h1 i hi,if_neg]
  .exact hb
  .rintro⟨g1,g2,_⟩
   have h3:i≠p:=by rintro rfl;rw[hp] at g2;cases g2
   have h4:i≠q:=by rintro rfl;rw[hq] at g2;cases g2
   rw[hE.get i g1 h3 h4,g2] at hb
   cases hb
theorem J11.sub {E H:Y0} {p:Nat} (h:J11 E p) (hs:∀ i b,X0 E i=some b->X0 H i=some b):J11 H p:=let ⟨es,c,h1⟩:=h;⟨es,c,hs _ _ h1⟩
theorem J11.out {H:Y0} {p:Nat} {qs:List Nat} (h:J11 (U8 H qs) p):p ∉ qs:=fun hm=>by
 obtain⟨es,c,h1⟩:=h
 rw[V19 hm] at h1;cases h1
theorem R58 {P:Program} {f:FuncId} {args:List Value} {H:Y0} {nx p q:Nat} {qs:List Nat} {k:EP} {Q:EP} (hqs:∀ q ∈ qs,q<nx) (hp:J11 (U8 H qs) p) (hq:J11 (U8 H qs) q) (h:J2 P f args (U8 H qs) nx Q)
  (hQ:∀ v H0 nx',Q v H0 nx'->Kp (U8 H qs) nx p q H0 nx')
  (hk:∀ v H' nx' H0,Q v H0 nx'->Kp H nx p q H' nx'->Sub H0 nx' (U8 H' qs)->Top H' nx'->k v H' nx'):Z1 P f args H nx k:=by
 refine W60 X12 hp hq h hQ fun v H' nx' H0 hq' hE hS hT=>hk v H' nx' H0 hq' hE (fun i b hi hb => ?_) hT
 have hE0:=hQ _ _ _ hq'
 have h1:i ∉ qs:=fun hm=>by
  rw[hE0.get i (hqs i hm) (fun e=>hp.out (e ▸ hm)) (fun e=>hq.out (e ▸ hm)),V19 hm] at hb
  cases hb
 rw[W11 h1]
 exact hS i b hi hb
theorem Kp.er {H:Y0} {nx p q:Nat} {H':Y0} {nx':Nat} (a:Kp H nx p q H' nx') (qs:List Nat):Kp (U8 H qs) nx p q (U8 H' qs) nx':=⟨a.le,fun x h1 h2 h3=>by
 by_cases hx:x ∈ qs
 .rw[V19 hx,V19 hx]
 .rw[W11 hx,W11 hx];exact a.get x h1 h2 h3⟩
theorem D0.er {H:Y0} {nx:Nat} {H':Y0} {nx':Nat} (a:D0 H nx H' nx') (qs:List Nat):D0 (U8 H qs) nx (U8 H' qs) nx':=⟨a.le,fun x h1=>by
 by_cases hx:x ∈ qs
 .rw[V19 hx,V19 hx]
 .rw[W11 hx,W11 hx];exact a.get x h1⟩
theorem C8.sub {H:Y0} {nx r:Nat} {M:Nat->Option Value} {H':Y0} (h:C8 H r M) (hr:r<nx) (e:Sub H nx H'):C8 H' r M:=by
 obtain⟨es,c,h1,h2⟩:=h
 exact⟨es,c,e r _ hr h1,h2⟩
theorem Sl.sub' {H:Y0} {nx:Nat} {A:Option Addr} {l:List Value} {H':Y0} (h:Sl H nx A l) (e:Sub H nx H'):Sl H' nx A l:=by
 intro i v hv
 obtain⟨b,o,row,e1,e2,e3,e4⟩:=h i v hv
 refine⟨b,o,row,e1,e2,?_,e4⟩
 unfold V3 at e3 ⊢
 cases hg:X0 H b with
 | none=>rw[hg] at e3;cases e3
 | some x=>rw[hg] at e3;rw[e b x e2 hg];exact e3
end Go.Clo
namespace Go.Proofs.YtpiobdofbhkmjaaDoor
open Go.Clo
theorem SV.sub {H:Y0} {nx p rc rl N:Nat} {A:Option Addr} {cap:Nat} {es nb:List Nat} {L:Nat->Rat} {H':Y0} (h:SV H nx p rc rl N A cap es nb L) (e:Sub H nx H'):SV H' nx p rc rl N A cap es nb L:=by
 refine⟨e p _ h.pn h.hp,h.pn,h.rcn,h.rln,h.nbl,h.es'.sub' e,?_,?_,h.ne⟩
 .obtain⟨M,a,b⟩:=h.cm
  exact⟨M,a.sub h.rcn e,fun n v hv=>(b n v hv).sub e⟩
 .obtain⟨M,a,b⟩:=h.lm
  exact⟨M,a.sub h.rln e,fun n v hv=>(b n v hv).sub e⟩
noncomputable def V18 (es nb:List Nat) (N:Nat) (width:Rat) (c l v:Nat):Bool:=
 l.testBit v&&(decide (C6 es nb N c v l<=width)&&decide (V10 N (C6 es nb N c) (M2 l (2^v))<=width))
set_option maxHeartbeats 2000000 in
theorem K93 {H:Y0} {m p rc rl N cap:Nat} {A:Option Addr} {es nb:List Nat} {L:Nat->Rat} {qs:List Nat} (h:SV (U8 H qs) m p rc rl N A cap es nb L) (hqs:∀ q ∈ qs,q<m) (hN:N<=6) (hsm:∀ e ∈ es,e<2^N) (hle:es.length<=8)
  (hnb:∀ (u x:Nat),nb[u]? = some x->x<2^N) (hcov:∀ w,w<N->∃ e ∈ es,e.testBit w=true) {t3 t4 t5 t7 a:Nat} {lefts comps:List Nat} {CA:Option Addr} {kc:Nat} {c5:List Value} {width:Rat}
  (l3:t3<m) (l4:t4<m) (l5:t5<m) (l7:t7<m) (la:a<m)
  (g7:X0 H t7=some (.cells [.slice (some ⟨a,0,none⟩) lefts.length lefts.length] 0)) (ga:X0 H a=some (.cells (N1 lefts) 0)) (g3:X0 H t3=some (.cells [.pointer (some ⟨p,0,none⟩)] 0))
  (g4:X0 H t4=some (.cells [.slice CA comps.length kc] 0)) (gc:Sl H m CA (N1 comps)) (g5:X0 H t5=some (.cells c5 0)) (hc5:G9 c5) (hw:RR (U8 H qs) m (.agg ⟨c5⟩) width) (hws:X4 width 100000)
  {i v c l:Nat} (hi:lefts[i]? = some l) (hci:comps[i]? = some c) (hv:v<N) (hc:c<2^N) (hl:l<2^N) (hlc:∀ w,l.testBit w=true->c.testBit w=true)
  (hL:∀ l,l≠0->(∀ w,l.testBit w=true->c.testBit w=true)->L l=V10 N (C6 es nb N c) l):
  J2 Tryd.prog 51 [.int .i64 (i:Int),.int .i64 (v:Int),.pointer (some ⟨t7,0,none⟩),.pointer (some ⟨t3,0,none⟩),.pointer (some ⟨t4,0,none⟩),.pointer (some ⟨t5,0,none⟩)] H m
   fun r H' m'=>r = .bool (V18 es nb N width c l v)/\SV (U8 H' qs) m' p rc rl N A cap es nb L/\Kp H m rc rl H' m':=by
 have hp64:2^N<=64:=Nat.pow_le_pow_right (n:=2) (by omega) hN
 have hcovS:∀ s,s<2^N->∀ v,s.testBit v=true->∃ e ∈ es,e.testBit v=true:=fun s hs v hv=>hcov v (X11 hs hv)
 have hil:=Q12 hi
 have hil2:=Q12 hci
 have hl32:l<4294967296:=by omega
 have hc32:c<4294967296:=by omega
 have hv32:v<32:=by omega
 have gl:=G3 hi
 have gcc:=G3 hci
 have hshort:∀ l,X4 (V10 N (C6 es nb N c) l) 100000:=fun l=>(M27 (Y20 _ (by omega)) (fun v l=>R12 es N _ hle) l).1
 refine spec51 ?_
 unfold F51
 have hE0:D0 H m H (m+45):=D0.self (by omega)
 have h0:=h.ext (hE0.er qs)
 obtain⟨B,o,row,rfl,hBn,hrow,hget⟩:=gc.open (i:=i) (by rw[G1];omega)
 have q0:=hget _ _ gcc
 simp (disch:=first | omega | assumption | exact Y2 (by assumption) | exact Q1 (by assumption) | exact J1 (by omega) | fail) only[W0,g7,ga,gl]
 cases hlv:l.testBit v with
 | false=>
  simp (disch:=first | omega | assumption | exact Y2 (by assumption) | exact Q1 (by assumption) | exact J1 (by omega) | fail) only[W0]
  refine⟨?_,h0,hE0.kp⟩
  unfold V18
  rw[hlv];rfl
 | true=>
  have hp32:2^v<4294967296:=by have:=V11 hv;omega
  simp (disch:=first | omega | assumption | exact Y2 (by assumption) | exact Q1 (by assumption) | exact J1 (by omega) | fail) only[W0,g3,g4,Y3 hrow,q0]
  refine R16 (qs:=qs) (fun q hq=>by have:=hqs q hq;omega) (J83 h0 hN hnb hv hc hl) (fun _ _ _ h=>h.2) ?_
  rintro _ H2 m2 H0 ⟨rfl,hX2⟩ hE2 hS2 _
  have h2:=(h0.ext hX2).sub hS2
  have hbl:=E70 (nb:=nb) (v:=v) (comp:=c) (left:=l) hnb hN hv
  have hbs:=K57 (nb:=nb) (comp:=c) hN hv hlv
  have hle2:=hE2.le
  refine R58 (qs:=qs) (fun q hq=>by have:=hqs q hq;omega) h2.ic h2.il (G48 h2 (by omega) hsm hle hbl (Y25 hv hbs) (hcovS _ hbl)) (fun _ _ _ h=>h.2.2) ?_
  rintro v3 H3 m3 H0' ⟨hv3,hs3,hX3⟩ hK3 hS3 _
  have h3:=hs3.sub hS3
  have hr3:=hv3.sub hS3
  have hle3:=hK3.le
  have hic2:=h2.ic.sub X12
  have hil2:=h2.il.sub X12
  have g52:=(hE2.get t5 (by omega)).trans g5
  have g53:=hK3.cell hic2 hil2 (by omega) g52
  have g32:=(hE2.get t3 (by omega)).trans g3
  have hw3:=((hw.ext (hE0.er qs)).ext (hE2.er qs)).kp (hK3.er qs) h2.ic h2.il
  simp (disch:=first | omega | assumption | exact Y2 (by assumption) | exact Q1 (by assumption) | exact J1 (by omega) | fail) only[W0,g53,Q3 hc5]
  refine R16 (qs:=qs) (fun q hq=>by have:=hqs q hq;omega) (N20 hr3 hw3 (R12 es N _ hle) hws) (fun _ _ _ h=>h.2) ?_
  rintro _ H4 m4 H0'' ⟨rfl,hX4⟩ hE4 hS4 _
  have h4:=(h3.ext hX4).sub hS4
  have hle4:=hE4.le
  have hic3:=h3.ic.sub X12
  have hil3:=h3.il.sub X12
  have hE02:D0 H m H2 m2:=⟨by omega,fun q hq=>hE2.get q (by omega)⟩
  have hK4:Kp H m rc rl H4 m4:=(hE02.kp.trans hK3).trans hE4.kp
  have hicH:=h.ic.sub X12
  have hilH:=h.il.sub X12
  have g34:=hK4.cell hicH hilH l3 g3
  have g44:=hK4.cell hicH hilH l4 g4
  have g54:=hK4.cell hicH hilH l5 g5
  have g74:=hK4.cell hicH hilH l7 g7
  have ga4:=hK4.cell hicH hilH la ga
  have gc4:=gc.kp hK4 hicH hilH
  have hw4:=hw3.ext (hE4.er qs)
  have d3:decide (Q11 (C6 es nb N c v l) width<=0)=decide (C6 es nb N c v l<=width):=by rw[Bool.eq_iff_iff,decide_eq_true_eq,decide_eq_true_eq];exact G43
  rw[show Q21 es N (Z31 nb N v c l)=C6 es nb N c v l from rfl]
  cases hfit:decide (C6 es nb N c v l<=width) with
  | false=>
   rw[hfit] at d3
   simp (disch:=first | omega | assumption | exact Y2 (by assumption) | exact Q1 (by assumption) | exact J1 (by omega) | fail) only[W0,d3,g5,g52,g32,Q3 hc5]
   refine⟨?_,h4,hK4⟩
   unfold V18
   rw[hlv,hfit];rfl
  | true=>
   rw[hfit] at d3
   obtain⟨B',o',row',e',hBn',hrow',hget'⟩:=gc4.open (i:=i) (by rw[G1];omega)
   cases e'
   have q4:=hget' _ _ gcc
   have hnd32:M2 l (2^v)<4294967296:=Q1 hl32
   simp (disch:=first | omega | assumption | exact Y2 (by assumption) | exact Q1 (by assumption) | exact J1 (by omega) | fail) only[W0,d3,g34,g44,Y3 hrow',q4,g74,ga4,gl]
   refine R58 (qs:=qs) (fun q hq=>by have:=hqs q hq;omega) h4.ic h4.il (N53 hN hsm hle hnb hcov hc hL (M2 l (2^v)) (D7 hl) (M41 hlc) (U8 H4 qs) m4 h4) (fun _ _ _ h=>h.2.2) ?_
   rintro v5 H5 m5 H0''' ⟨hv5,hs5,hX5⟩ hK5 hS5 _
   have h5:=hs5.sub hS5
   have hr5:=hv5.sub hS5
   have hle5:=hK5.le
   have hK05:=hK4.trans hK5
   have g55:=hK05.cell hicH hilH l5 g5
   have hw5:=hw4.kp (hK5.er qs) h4.ic h4.il
   simp (disch:=first | omega | assumption | exact Y2 (by assumption) | exact Q1 (by assumption) | exact J1 (by omega) | fail) only[W0,g55,Q3 hc5]
   refine R16 (qs:=qs) (fun q hq=>by have:=hqs q hq;omega) (N20 hr5 hw5 (hshort _) hws) (fun _ _ _ h=>h.2) ?_
   rintro _ H6 m6 H0'''' ⟨rfl,hX6⟩ hE6 hS6 _
   have h6:=(h5.ext hX6).sub hS6
   have d6:decide (Q11 (V10 N (C6 es nb N c) (M2 l (2^v))) width<=0)=decide (V10 N (C6 es nb N c) (M2 l (2^v))<=width):=by rw[Bool.eq_iff_iff,decide_eq_true_eq,decide_eq_true_eq];exact G43
   simp (disch:=first | omega | assumption | exact Y2 (by assumption) | exact Q1 (by assumption) | exact J1 (by omega) | fail) only[W0,d6,g54,Q3 hc5,g5,g52,g32]
   refine⟨?_,h6,hK05.trans hE6.kp⟩
   unfold V18
   rw[hlv,hfit];rfl
end Go.Proofs.YtpiobdofbhkmjaaDoor

namespace Go.Proofs.YtpiobdofbhkmjaaDoor
open Go.Clo
variable {A:Option Addr} {H H0:Y0} {L:Nat->Rat} {N b0 c cap i m p rc rl:Nat} {c5:List Value} {es l lefts nb:List Nat} {perm:List Int} {v:Value} {width:Rat}
noncomputable def W24 (es nb:List Nat) (N:Nat) (width:Rat) (comps lefts:List Nat) (v:Nat):Nat->Nat->Option Nat
 | 0,_=>none
 | f+1,i=>if V18 es nb N width (comps.getD i 0) (lefts.getD i 0) v=true then some i else W24 es nb N width comps lefts v f (i+1)
noncomputable def X35 (es nb:List Nat) (N:Nat) (width:Rat) (comps lefts:List Nat):Nat->Nat->Option (Nat × Nat)
 | 0,_=>none
 | f+1,v=>match W24 es nb N width comps lefts v lefts.length 0 with
  | some i=>some (v,i)
  | none=>X35 es nb N width comps lefts f (v+1)
noncomputable def N19 (es nb:List Nat) (N:Nat) (width:Rat) (comps:List Nat) (s:List Int × List Nat):List Int × List Nat:=match X35 es nb N width comps s.2 N 0 with
 | some (v,i)=>(s.1++[(v:Int)],s.2.set i (M2 (s.2.getD i 0) (2^v)))
 | none=>s
noncomputable def B15 (es nb:List Nat) (N:Nat) (width:Rat) (comps:List Nat):Nat->List Int × List Nat
 | 0=>([],comps)
 | n+1=>N19 es nb N width comps (B15 es nb N width comps n)
def Q15 (comps:List Nat):Nat:=comps.foldl (fun n c=>n+E11 c) 0
theorem X85 (h:l[i]? = some c):Q15 (l.take (i+1))=Q15 (l.take i)+E11 c:=by
 unfold Q15
 rw[K9 h,List.foldl_append];rfl
theorem E94:∀ l:List Nat,Q15 l<=6*l.length:=by
 have key:∀ (l:List Nat) (n:Nat),l.foldl (fun n c=>n+E11 c) n<=n+6*l.length:=by
  intro l
  induction l with
  | nil=>intro n;simp
  | cons c l ih=>
   intro n
   have h1:=ih (n+E11 c)
   have h2:E11 c<=6:=E15 _ _
   simp only[List.foldl_cons,List.length_cons]
   omega
 intro l
 have:=key l 0
 unfold Q15;omega
theorem Q49 (h:l[i]? = some c):(l.take i++List.replicate (l.length-i) 0).set i c=l.take (i+1)++List.replicate (l.length-(i+1)) 0:=by
 have hi:=Q12 h
 have e:(l.take i).length=i:=by rw[List.length_take];omega
 rw[K9 h,List.append_assoc]
 obtain⟨k,hk⟩:∃ k,l.length-i=k+1:=⟨l.length-i-1,by omega⟩
 rw[hk,show l.length-(i+1)=k by omega,List.replicate_succ,List.set_append,if_neg (by omega),e,Nat.sub_self]
 rfl
theorem Z83 (a x:Value):G6 [a] 0 [x]=[x]:=rfl
noncomputable def N40 (es nb:List Nat) (N:Nat) (width:Rat) (comps:List Nat):List Int:=(B15 es nb N width comps (Q15 comps)).1
def V35 (N:Nat) (comps lefts:List Nat):Prop:=lefts.length=comps.length/\∀ (i l c:Nat),lefts[i]? = some l->comps[i]? = some c->l<2^N/\∀ w,l.testBit w=true->c.testBit w=true
theorem V35.set {N:Nat} {comps lefts:List Nat} (h:V35 N comps lefts) (i v:Nat):V35 N comps (lefts.set i (M2 (lefts.getD i 0) (2^v))):=by
 refine⟨by rw[List.length_set];exact h.1,fun j l c hl hc => ?_⟩
 rw[List.getElem?_set] at hl
 split at hl
 .rename_i e
  subst e
  split at hl
  .rename_i hlt
   cases hl
   have hg:lefts[i]? = some lefts[i]:=List.getElem?_eq_getElem hlt
   obtain⟨h1,h2⟩:=h.2 i _ c hg hc
   have e:lefts.getD i 0=lefts[i]:=by simp[List.getD_eq_getElem?_getD,hg]
   rw[e]
   exact⟨D7 h1,M41 h2⟩
  .cases hl
 .exact h.2 j l c hl hc
theorem K87 {comps:List Nat} {s:List Int × List Nat} (h:V35 N comps s.2):V35 N comps (N19 es nb N width comps s).2/\(N19 es nb N width comps s).1.length<=s.1.length+1:=by
 unfold N19
 split
 .exact⟨h.set _ _,by simp⟩
 .exact⟨h,by omega⟩
structure FS (H0:Y0) (b0 p rc rl N:Nat) (A:Option Addr) (cap:Nat) (es nb:List Nat) (L:Nat->Rat) (c5:List Value) (width:Rat) (v:Value) (perm:List Int) (lefts:List Nat) (H:Y0) (m:Nat):Prop where
 sv:SV (U8 H [b0,R4 b0 v]) m p rc rl N A cap es nb L
 kp:Kp H0 b0 rc rl H m
 g7:X0 H (b0+1)=some (.cells [.slice (some ⟨b0,0,none⟩) lefts.length lefts.length] 0)
 ga:X0 H b0=some (.cells (N1 lefts) 0)
 acc:Q6 (b0+2) H m 1 v perm.length (R3 perm)
 wd:RR (U8 H [b0,R4 b0 v]) m (.agg ⟨c5⟩) width
 le:b0+2<=m
theorem FS.step {H':Y0} {m':Nat}
  (h:FS H0 b0 p rc rl N A cap es nb L c5 width v perm lefts H m) (e:Kp H m rc rl H' m') (s:SV (U8 H' [b0,R4 b0 v]) m' p rc rl N A cap es nb L):FS H0 b0 p rc rl N A cap es nb L c5 width v perm lefts H' m':=by
 have hle:=h.le
 have hle2:=e.le
 have hc:=h.sv.ic.sub X12
 have hl:=h.sv.il.sub X12
 refine⟨s,h.kp.trans ⟨e.le,fun x h1 h2 h3=>e.get x h1 h2 h3⟩,e.cell hc hl (by omega) h.g7,e.cell hc hl (by omega) h.ga,?_,h.wd.kp (e.er _) h.sv.ic h.sv.il,by omega⟩
 obtain⟨h1,h2 | ⟨b,h2,h3,h4,h5⟩⟩:=h.acc
 .exact⟨h1,.inl h2⟩
 .exact⟨h1,.inr ⟨b,h2,by omega,h4,e.cell hc hl h3 h5⟩⟩
theorem FS.ext {H0:Y0} {b0 p rc rl N:Nat} {A:Option Addr} {cap:Nat} {es nb:List Nat} {L:Nat->Rat} {c5:List Value} {width:Rat} {v:Value} {perm:List Int} {lefts:List Nat} {H:Y0} {m:Nat} {H':Y0} {m':Nat}
  (h:FS H0 b0 p rc rl N A cap es nb L c5 width v perm lefts H m) (e:D0 H m H' m'):FS H0 b0 p rc rl N A cap es nb L c5 width v perm lefts H' m':=h.step e.kp (h.sv.ext (e.er _))
theorem FS.qs {b0:Nat}
  (h:FS H0 b0 p rc rl N A cap es nb L c5 width v perm lefts H m):∀ q ∈ [b0,R4 b0 v],q<m:=by
 have hle:=h.le
 intro q hq
 rcases List.mem_cons.1 hq with rfl | hq
 .omega
 .rw[List.mem_singleton] at hq
  subst hq
  exact B20 h.acc (by omega)
set_option maxHeartbeats 4000000 in
theorem V86 {nx p rc rl N cap:Nat} {es nb:List Nat} {L:Nat->Rat} (h:SV H nx p rc rl N A cap es nb L) (hN:N<=6) (hsm:∀ e ∈ es,e<2^N) (hle:es.length<=8)
  (hnb:∀ (u x:Nat),nb[u]? = some x->x<2^N) (hcov:∀ w,w<N->∃ e ∈ es,e.testBit w=true) {comps:List Nat} {CA:Option Addr}
  (gc:Sl H nx CA (N1 comps)) (hw:RR H nx (.agg ⟨c5⟩) width) (hws:X4 width 100000) (hcl:comps.length<=32) (hcomp:∀ c ∈ comps,c<2^N)
  (hL:∀ c ∈ comps,∀ l,l≠0->(∀ w,l.testBit w=true->c.testBit w=true)->L l=V10 N (C6 es nb N c) l):
  J2 Tryd.prog 30 [.pointer (some ⟨p,0,none⟩),.slice CA comps.length comps.length,.agg ⟨c5⟩] H nx
   fun r H' nx'=>(∃ B,r = .slice B (N40 es nb N width comps).length (N40 es nb N width comps).length/\Sl H' nx' B (R3 (N40 es nb N width comps)))/\Kp H nx rc rl H' nx':=by
 have hp64:2^N<=64:=Nat.pow_le_pow_right (n:=2) (by omega) hN
 have hpn:=h.pn
 have hrcn:=h.rcn
 have hrln:=h.rln
 have hc5:G9 c5:=hw.tri
 refine spec30 ?_
 unfold F30
 rw[J48,X18,W37,X18,X31,hc5.one,if_pos rfl,X18]
 simp only[B0.val]
 generalize hK:hs (hs (hs H nx (some (.cells [.pointer (some ⟨p,0,none⟩)] 0))) (nx+1) (some (.cells [.slice CA comps.length comps.length] 0))) (nx+1+1) (some (.cells c5 0))=K
 have k3:X0 K nx=some (.cells [.pointer (some ⟨p,0,none⟩)] 0):=by rw[<- hK,M0 _ (by omega),M0 _ (by omega),Q0]
 have k4:X0 K (nx+1)=some (.cells [.slice CA comps.length comps.length] 0):=by rw[<- hK,M0 _ (by omega),Q0]
 have k5:X0 K (nx+1+1)=some (.cells c5 0):=by rw[<- hK,Q0]
 have hEK:D0 H nx K (nx+1+1+1):=by
  rw[<- hK];exact (((D0.refl _ _).new _ (Nat.le_refl _) (m:=nx+1) (by omega)).new _ (by omega) (m:=nx+1+1) (by omega)).new _ (by omega) (by omega)
 have hlen:comps.length<=1000000:=by omega
 have hsK:=h.ext hEK
 have hwK:=hw.ext hEK
 have hgK:=gc.ext hEK
 clear hK
 obtain⟨b0,hb0⟩:∃ b0,b0=nx+1+1+1:=⟨_,rfl⟩
 rw[<- hb0] at hEK hsK hwK hgK ⊢
 have l3:nx<b0:=by omega
 have l4:nx+1<b0:=by omega
 have l5:nx+1+1<b0:=by omega
 have p3:nx≠p:=by omega
 obtain⟨t5,ht5⟩:∃ t5,t5=nx+1+1:=⟨_,rfl⟩
 obtain⟨t4,ht4⟩:∃ t4,t4=nx+1:=⟨_,rfl⟩
 rw[<- ht5] at k5 l5 ⊢
 rw[<- ht4] at k4 l4 ⊢
 have hnb0:nx<=b0:=by omega
 clear hb0 ht5 ht4
 simp (disch:=first|omega|assumption) only[W0,B0.val,k4,V12 hlen,N12,Z83]
 generalize hK1:hs (hs (hs K b0 (some (.cells (N1 (List.replicate comps.length 0)) 0))) (b0+1) (some (.cells [.slice none 0 0] 0))) (b0+1) (some (.cells [.slice (some ⟨b0,0,none⟩) comps.length comps.length] 0))=K1
 have q7:X0 K1 (b0+1)=some (.cells [.slice (some ⟨b0,0,none⟩) comps.length comps.length] 0):=by rw[<- hK1,Q0]
 have qa:X0 K1 b0=some (.cells (N1 (List.replicate comps.length 0)) 0):=by rw[<- hK1,M0 _ (by omega),M0 _ (by omega),Q0]
 have hE1:D0 K b0 K1 (b0+1+1):=by
  rw[<- hK1];exact (((D0.refl _ _).new _ (Nat.le_refl _) (m:=b0+1) (by omega)).new _ (by omega) (m:=b0+1+1) (by omega)).hs (by omega)
 have q4:=(hE1.get t4 l4).trans k4
 refine E1 (m:=comps.length) (fun f L H' nx'=>∃ i,f+i=comps.length/\L=[.int .i64 (Q15 (comps.take i):Int),.int .i64 (i:Int)]/\X0 H' b0=some (.cells (N1 (comps.take i++List.replicate (comps.length-i) 0)) 0) /\
  X0 H' (b0+1)=some (.cells [.slice (some ⟨b0,0,none⟩) comps.length comps.length] 0)/\D0 K b0 H' nx'/\b0+2<=nx') ?_ ⟨0,by omega,rfl,qa,q7,hE1,by omega⟩
 rintro f ih1 L H7 m7 ⟨i,hf,rfl,g7a,g77,hE7,hle7⟩ hih
 have hcnt:=E94 (comps.take i)
 rw[List.length_take] at hcnt
 by_cases hi:i<comps.length
 .have hi':(i:Int)<(comps.length:Int):=by omega
  obtain⟨c,hc⟩:∃ c,comps[i]? = some c:=⟨_,List.getElem?_eq_getElem hi⟩
  obtain⟨B,o,row,rfl,hBn,hrow,hget⟩:=(hgK.ext hE7).open (i:=i) (by rw[G1];omega)
  have q0:=hget _ _ (G3 hc)
  have hcN:=hcomp c (List.mem_of_getElem? hc)
  have hll:i<(comps.take i++List.replicate (comps.length-i) 0).length:=by simp;omega
  have hset:=Q49 hc
  simp (disch:=first|omega|assumption) only[W0,hi',Y3 hrow,q0,g77,g7a,Z7 hll]
  refine⟨by rw[G1];omega,?_⟩
  rw[hset]
  refine K0 (J67 (x:=c) (by omega) _ _) ?_
  rintro _ H9 m9 ⟨rfl,hE9⟩
  have hpop:E11 c<=6:=E15 _ _
  have hle9:=hE9.le
  simp (disch:=first|omega|assumption) only[W0]
  refine hih (f-1) _ _ _ (by omega) ⟨i+1,by omega,by rw[X85 hc];simp,(hE9.get b0 (by omega)).trans (Q0 _ _ _),(hE9.get (b0+1) (by omega)).trans ((M0 _ (by omega)).trans g77),(hE7.hs (by omega)).trans hE9,by omega⟩
 obtain rfl:i=comps.length:=by omega
 have hi':¬ (comps.length:Int)<(comps.length:Int):=by omega
 rw[List.take_of_length_le (Nat.le_refl _)] at *
 rw[Nat.sub_self,List.replicate_zero,List.append_nil] at g7a
 clear hih
 have hcnt2:Q15 comps<=6*32:=by omega
 have hic:=hsK.ic
 have hil:=hsK.il
 have hFS:FS K b0 p rc rl N A cap es nb L c5 width (.slice none 0 0) [] comps H7 m7:=
  ⟨hsK.ext (U53 hE7 fun q hq=>by simp[R4] at hq;omega),hE7.kp,g77,g7a,Q6.nil _ _ _ _,hwK.ext (U53 hE7 fun q hq=>by simp[R4] at hq;omega),by omega⟩
 have hrunL:∀ n,V35 N comps (B15 es nb N width comps n).2/\(B15 es nb N width comps n).1.length<=n:=by
  intro n
  induction n with
  | zero=>exact⟨⟨rfl,fun i l c hl hc=>by
    rw[show (B15 es nb N width comps 0).2=comps from rfl] at hl
    rw[hl] at hc;cases hc
    exact⟨hcomp _ (List.mem_of_getElem? hl),fun w hw=>hw⟩⟩,by simp[B15]⟩
  | succ n ih=>
   have:=K87 (es:=es) (nb:=nb) (width:=width) ih.1
   exact⟨this.1,by have h1:=this.2;have h2:=ih.2;show (N19 es nb N width comps (B15 es nb N width comps n)).1.length<=_;omega⟩
 simp (disch:=first|omega|assumption) only[W0,hi']
 refine E1 (m:=Q15 comps) (fun f L' H' m'=>∃ r v,f+r=Q15 comps/\L'=[v,.int .i64 (r:Int)]/\FS K b0 p rc rl N A cap es nb L c5 width v (B15 es nb N width comps r).1 (B15 es nb N width comps r).2 H' m') ?_ ⟨0,_,by omega,rfl,hFS⟩
 rintro f ih2 L2 H2 m2 ⟨r,v,hf,rfl,hS⟩ hih
 by_cases hr:r<Q15 comps
 case neg=>
  obtain rfl:r=Q15 comps:=by omega
  have hr':¬ (Q15 comps:Int)<(Q15 comps:Int):=by omega
  obtain⟨B,rfl,hB⟩:=hS.acc.sl
  simp (disch:=first|omega|assumption) only[W0,hr']
  have hK2:=hS.kp
  exact⟨⟨B,rfl,hB⟩,⟨by have:=hK2.le;omega,fun x h1 h2 h3=>(hK2.get x (by omega) h2 h3).trans (hEK.get x (by omega))⟩⟩
 have hr':(r:Int)<(Q15 comps:Int):=by omega
 obtain⟨hLO,hpl⟩:=hrunL r
 have hnext:B15 es nb N width comps (r+1)=N19 es nb N width comps (B15 es nb N width comps r):=rfl
 generalize B15 es nb N width comps r=s at *
 obtain⟨perm,lefts⟩:=s
 dsimp only at hLO hpl hS
 have hll32:lefts.length<=32:=by have:=hLO.1;omega
 simp (disch:=first|omega|assumption) only[W0,hr']
 refine J6 (fun L' H' m'=>∃ v',L'=[v']/\FS K b0 p rc rl N A cap es nb L c5 width v' (B15 es nb N width comps (r+1)).1 (B15 es nb N width comps (r+1)).2 H' m') (fun j hj => ?_) ?_
 case refine_2=>
  rintro _ H3 m3 ⟨v',rfl,hS3⟩
  simp (disch:=first|omega|assumption) only[W0]
  exact hih (f-1) _ _ _ (by omega) ⟨r+1,v',by omega,by simp,hS3⟩
 clear hih ih2
 have q3:=hS.kp.cell hic hil l3 k3
 have qp:=X12 _ _ hS.sv.hp
 simp (disch:=first|omega|assumption) only[W0,q3,qp,X50]
 have hstep:N19 es nb N width comps (perm,lefts)=match X35 es nb N width comps lefts N 0 with
  | some (v,i)=>(perm++[(v:Int)],lefts.set i (M2 (lefts.getD i 0) (2^v)))
  | none=>(perm,lefts):=rfl
 rw[<- hnext] at hstep
 refine E1 (m:=N) (fun f L' H' m'=>∃ w,f+w=N/\L'=[v,.int .i64 (w:Int)]/\FS K b0 p rc rl N A cap es nb L c5 width v perm lefts H' m'/\X35 es nb N width comps lefts N 0=X35 es nb N width comps lefts f w) ?_ ⟨0,by omega,rfl,hS,rfl⟩
 rintro f3 ih3 L3 H3 m3 ⟨w,hf3,rfl,hS3,hfn⟩ hih3
 by_cases hw3:w<N
 case neg=>
  have hw':¬ (w:Int)<(N:Int):=by omega
  obtain rfl:f3=0:=by omega
  rw[hfn] at hstep
  simp (disch:=first|omega|assumption) only[W0,hw']
  refine hj _ _ _ ⟨v,rfl,?_⟩
  rw[hstep]
  exact hS3
 have hw':(w:Int)<(N:Int):=by omega
 obtain⟨f3',rfl⟩:∃ f',f3=f'+1:=⟨f3-1,by omega⟩
 have hfn2:X35 es nb N width comps lefts (f3'+1) w=match W24 es nb N width comps lefts w lefts.length 0 with
  | some i=>some (w,i)
  | none=>X35 es nb N width comps lefts f3' (w+1):=rfl
 rw[hfn2] at hfn
 clear hfn2
 simp (disch:=first|omega|assumption) only[W0,hw',hS3.g7]
 refine E1 (m:=lefts.length) (fun f L' H' m'=>∃ i,f+i=lefts.length/\L'=[v,.int .i64 (i:Int)]/\FS K b0 p rc rl N A cap es nb L c5 width v perm lefts H' m'/\W24 es nb N width comps lefts w lefts.length 0=W24 es nb N width comps lefts w f i) ?_ ⟨0,by omega,rfl,hS3,rfl⟩
 rintro f4 ih4 L4 H4 m4 ⟨i,hf4,rfl,hS4,hfi⟩ hih4
 by_cases hi4:i<lefts.length
 case neg=>
  have hi':¬ (i:Int)<(lefts.length:Int):=by omega
  obtain rfl:f4=0:=by omega
  rw[hfi] at hfn
  simp (disch:=first|omega|assumption) only[W0,hi']
  exact hih3 f3' _ _ _ (by omega) ⟨w+1,by omega,by simp,hS4,hfn⟩
 have hi':(i:Int)<(lefts.length:Int):=by omega
 obtain⟨f4',rfl⟩:∃ f',f4=f'+1:=⟨f4-1,by omega⟩
 obtain⟨l,hl⟩:∃ l,lefts[i]? = some l:=⟨_,List.getElem?_eq_getElem hi4⟩
 obtain⟨c,hc⟩:∃ c,comps[i]? = some c:=⟨_,List.getElem?_eq_getElem (by have:=hLO.1;omega)⟩
 obtain⟨hlN,hlc⟩:=hLO.2 i l c hl hc
 have hcm:=List.mem_of_getElem? hc
 have hlD:lefts.getD i 0=l:=by simp[List.getD_eq_getElem?_getD,hl]
 have hcD:comps.getD i 0=c:=by simp[List.getD_eq_getElem?_getD,hc]
 have hfi2:W24 es nb N width comps lefts w (f4'+1) i=if V18 es nb N width c l w=true then some i else W24 es nb N width comps lefts w f4' (i+1):=by
  show (if V18 es nb N width (comps.getD i 0) (lefts.getD i 0) w=true then _ else _)=_
  rw[hlD,hcD]
 rw[hfi2] at hfi
 clear hfi2
 have hle4:=hS4.le
 have hK4:=hS4.kp
 simp (disch:=first|omega|assumption) only[W0,hi']
 refine Y34 (K93 hS4.sv hS4.qs hN hsm hle hnb hcov (t3:=nx) (t4:=t4) (t5:=t5) (t7:=b0+1) (a:=b0) (lefts:=lefts) (comps:=comps) (by omega) (by omega) (by omega) (by omega) (by omega) hS4.g7 hS4.ga
  (hK4.cell hic hil l3 k3) (hK4.cell hic hil l4 k4) (hgK.kp hK4 hic hil) (hK4.cell hic hil l5 k5) hc5 hS4.wd hws hl hc hw3 (hcomp c hcm) hlN hlc (hL c hcm)) ?_
 rintro _ H5 m5 ⟨rfl,hs5,hk5⟩
 have hS5:=hS4.step hk5 hs5
 cases hfit:V18 es nb N width c l w with
 | false=>
  rw[hfit,if_neg (by simp)] at hfi
  simp (disch:=first|omega|assumption) only[W0]
  exact hih4 f4' _ _ _ (by omega) ⟨i+1,by omega,by simp,hS5,hfi⟩
 | true=>
  rw[hfit,if_pos rfl] at hfi
  rw[hfi] at hfn
  rw[hfn] at hstep
  dsimp only at hstep
  rw[hlD] at hstep
  have hbs:∀ (x:Int) k,G7 1 1 [.int .i64 0] [(0,.int .i64 x)] k=k [.int .i64 x]:=fun x k=>rfl
  simp (disch:=first|omega|assumption) only[W0,hbs]
  have hE6:D0 H5 m5 (hs H5 m5 (some (.cells [.int .i64 (w:Int)] 0))) (m5+1):=(D0.refl _ _).new _ (Nat.le_refl _) (by omega)
  have hS6:=hS5.ext hE6
  have hg6:X0 (hs H5 m5 (some (.cells [.int .i64 (w:Int)] 0))) m5=some (.cells [.int .i64 (w:Int)] 0):=Q0 _ _ _
  have hle5:=hS5.le
  generalize hs H5 m5 (some (.cells [.int .i64 (w:Int)] 0))=H6 at *
  refine V15 (lo:=b0+2) (d:=m5+1) (m:=1) (l:=[.int .i64 (w:Int)]) (by omega) hS6.acc (Z8 hg6 rfl (by omega)) (by omega) rfl (by omega) (by omega) ?_
  intro H7' hg7' hne
  have hne2:∀ i,i≠m5+1->(i≠R4 b0 v\/i<b0+2)->X0 H7' i=X0 H6 i:=by
   intro i h1 h2
   rcases W8 hS6.acc (d:=b0) with ⟨e0,_,_⟩ | ⟨b,e0,e,h3,h4,_⟩
   .refine hne i h1 ?_
    rw[e0];exact h1
   .refine hne i h1 ?_
    rw[e] at h2
    rw[e0]
    show i≠b
    omega
  have q77:=(hne2 (b0+1) (by omega) (.inr (by omega))).trans hS6.g7
  have q7a:=(hne2 b0 (by omega) (.inr (by omega))).trans hS6.ga
  have gl:=G3 hl
  have hp64:2^N<=64:=Nat.pow_le_pow_right (n:=2) (by omega) hN
  have hl32:l<4294967296:=by omega
  have hp32:2^w<4294967296:=by have:=V11 hw3;omega
  have hw32:w<32:=by omega
  have hnd32:M2 l (2^w)<4294967296:=Q1 hl32
  have hpop:∀ q,q<m5+1->q ∉ [b0,R4 b0 v]->X0 (hs H7' b0 (some (.cells (N1 (lefts.set i (M2 l (2^w)))) 0))) q=X0 H6 q:=fun q hi hn=>by
   simp at hn
   rw[M0 _ hn.1];exact hne2 q (by omega) (.inl hn.2)
  have hqq:∀ q ∈ [b0,m5+1],q ∈ [b0,R4 b0 v]\/m5+1<=q:=fun q hq=>by
   rcases List.mem_cons.1 hq with rfl | hq
   .exact .inl (by simp)
   .rw[List.mem_singleton] at hq;subst hq;exact .inr (Nat.le_refl _)
  simp (disch:=first|omega|assumption) only[W0,q77,q7a,gl,Z7 hi4]
  refine⟨by rw[G1];omega,hj _ _ _ ⟨_,rfl,?_⟩⟩
  rw[hstep]
  refine⟨(hS6.sv.sub (R13 hpop hqq)).ext (D0.self (by omega)),⟨by have:=hS6.kp.le;omega,fun x h1 h2 h3 => ?_⟩,?_,Q0 _ _ _,?_,(hS6.wd.sub (R13 hpop hqq)).ext (D0.self (by omega)),by omega⟩
  .rw[M0 _ (by omega),hne2 x (by omega) (.inr (by omega))]
   exact hS6.kp.get x h1 h2 h3
  .dsimp only
   rw[List.length_set,M0 _ (by omega)];exact q77
  .have e:(perm++[(w:Int)]).length=perm.length+1:=by simp
   have e2:R3 (perm++[(w:Int)])=R3 perm++[.int .i64 (w:Int)]:=by simp[R3]
   dsimp only
   rw[e,e2]
   refine X22 (by rw[List.length_append,W5];simp) (by omega) (by omega) ?_
   rw[M0 _ (by omega),hg7']
end Go.Proofs.YtpiobdofbhkmjaaDoor
