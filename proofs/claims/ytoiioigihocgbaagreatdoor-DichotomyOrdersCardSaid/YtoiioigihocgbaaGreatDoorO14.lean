/-
  Contract: the closure of the solver's first.
  Contract: the solver's first.
  Contract: elimination.Best.
  Plain: what hypergraph.Obstruction computes,function by function.
  MADE BY PROGRAM (wip/gen/gen.py): functions 65 63 64 30 91 67 68 66 31 32 12 as marked code,and their claims written out.
  Contracts: connex.adjacency,checkFree,below (as those of package elimination).
  Contracts: hypergraph.distance,cycleLength.
-/
import Derived.Test.YtoiioigihocgbaaGreatDoorO13
import Derived.Test.YtoiioigihocgbaaGreatDoorO12
import Derived.KernelRfl
import Derived.Test.YtoiioigihocgbaaGreatDoorO11
set_option maxHeartbeats 8000000
set_option maxRecDepth 100000
set_option linter.all false
noncomputable section
open Bool renaming and_eq_true->aG,eq_false_iff->bN,eq_iff_iff->eX,or_eq_true->cO
open Go.Value renaming bool->dU
open List renaming foldl_cons->dF,getD_eq_getElem?_getD->aP,getElem?_eq_getElem->aE,getElem?_eq_none->aT,getElem?_map->cP,getElem?_set->cQ,getElem_of_mem->gL,length_append->bH,length_cons->cV,length_set->dO,length_take->cK,mem_cons->aU,mem_filter->dA,mem_map->gN,mem_of_getElem?->aH,mem_singleton->dJ,pairwise_iff_getElem->fD,range->aY,replicate->aF,take_of_length_le->gJ
open Nat renaming eq_of_beq_eq_true->bT,eq_of_testBit_eq->bZ,le_refl->aD,lt_of_le_of_lt->cE,lt_of_lt_of_le->aO,pow_le_pow_right->aK,testBit_or->aV,testBit_two_pow_sub_one->dC,two_pow_pos->aQ,zero_testBit->cN
open Option.some renaming inj->fA
namespace Go.Clo
theorem Z93{P:Program}{f:FuncId}{args:List Value}{E H:Y0}{nx p q:Nat}{k:EP}{Q:EP}(J:∀ i b,J0 E i=some b->J0 H i=some b)(hp:X51 E p)(hq:X51 E q)(h:Q2 P f args E nx Q)
  (hQ:∀ v H0 nx',Q v H0 nx'->Kp E nx p q H0 nx')(hk:∀ v H' nx' H0,Q v H0 nx'->Kp H nx p q H' nx'->Sub H0 nx' H'->Top H' nx'->k v H' nx'):Y2 P f args H nx k:=by
 obtain⟨v,H0,nx',hc,O⟩:=h;have hE:=hQ _ _ _ O;obtain⟨ep,cp,hp⟩:=hp;obtain⟨eq,cq,hq⟩:=hq;obtain⟨H',h1,h2⟩:=M90 (fun i=>if i<nx/\J0 E i=none/\(J0 H i).isSome=true then J0 H i else J0 H0 i) nx';refine .inr ⟨v,H',nx',hc.beside J hE.le h1 h2,hk v H' nx' H0 O ⟨hE.le,fun i hi h3 h4 => ?_⟩ (fun i b hi hb => ?_) h2⟩
 .rw[h1 i (aO hi hE.le)]
  split
  .rfl
  .rename_i hn
   rw[hE.get i hi h3 h4]
   cases hg:J0 E i with
   | some b=>rw[J i b hg]
   | none=>
    cases U:J0 H i with
    | none=>rfl
    | some b=>exact absurd ⟨hi,hg,by rw[U];rfl⟩ hn
 .rw[h1 i hi,if_neg]
  .exact hb
  .rintro⟨g1,g2,_⟩
   have h3:i≠p:=by rintro rfl;rw[hp] at g2;cases g2
   have h4:i≠q:=by rintro rfl;rw[hq] at g2;cases g2
   rw[hE.get i g1 h3 h4,g2] at hb
   cases hb
theorem X51.sub{E H:Y0}{p:Nat}(h:X51 E p)(hs:∀ i b,J0 E i=some b->J0 H i=some b):X51 H p:=let ⟨es,c,h1⟩:=h;⟨es,c,hs _ _ h1⟩
theorem X51.out{H:Y0}{p:Nat}{qs:List Nat}(h:X51 (D6 H qs) p):p ∉ qs:=fun hm=>by
 obtain⟨es,c,h1⟩:=h;rw[U73 hm] at h1;cases h1
theorem R91{P:Program}{f:FuncId}{args:List Value}{H:Y0}{nx p q:Nat}{qs:List Nat}{k:EP}{Q:EP}(J:∀ q ∈ qs,q<nx)(hp:X51 (D6 H qs) p)(hq:X51 (D6 H qs) q)(h:Q2 P f args (D6 H qs) nx Q)
  (hQ:∀ v H0 nx',Q v H0 nx'->Kp (D6 H qs) nx p q H0 nx')
  (hk:∀ v H' nx' H0,Q v H0 nx'->Kp H nx p q H' nx'->Sub H0 nx' (D6 H' qs)->Top H' nx'->k v H' nx'):Y2 P f args H nx k:=by
 refine Z93 N68 hp hq h hQ fun v H' nx' H0 E hE hS hT=>hk v H' nx' H0 E hE (fun i b hi hb => ?_) hT
 have O:=hQ _ _ _ E;have h1:i ∉ qs:=fun hm=>by
  rw[O.get i (J i hm) (fun e=>hp.out (e ▸ hm)) (fun e=>hq.out (e ▸ hm)),U73 hm] at hb
  cases hb
 rw[Q50 h1];exact hS i b hi hb
theorem Kp.er{H:Y0}{nx p q:Nat}{H':Y0}{nx':Nat}(a:Kp H nx p q H' nx')(qs:List Nat):Kp (D6 H qs) nx p q (D6 H' qs) nx':=⟨a.le,fun x h1 h2 h3=>by
 by_cases hx:x ∈ qs
 .rw[U73 hx,U73 hx]
 .rw[Q50 hx,Q50 hx];exact a.get x h1 h2 h3⟩
theorem D0.er{H:Y0}{nx:Nat}{H':Y0}{nx':Nat}(a:D0 H nx H' nx')(qs:List Nat):D0 (D6 H qs) nx (D6 H' qs) nx':=⟨a.le,fun x h1=>by
 by_cases hx:x ∈ qs
 .rw[U73 hx,U73 hx]
 .rw[Q50 hx,Q50 hx];exact a.get x h1⟩
theorem U29.sub{H:Y0}{nx r:Nat}{M:Nat->Option Value}{H':Y0}(h:U29 H r M)(hr:r<nx)(e:Sub H nx H'):U29 H' r M:=by
 obtain⟨es,c,h1,h2⟩:=h;exact⟨es,c,e r _ hr h1,h2⟩
theorem Sl.sub'{H:Y0}{nx:Nat}{A:Option Addr}{l:List Value}{H':Y0}(h:Sl H nx A l)(e:Sub H nx H'):Sl H' nx A l:=by
 intro i v hv;obtain⟨b,o,row,e1,e2,e3,e4⟩:=h i v hv;refine⟨b,o,row,e1,e2,?_,e4⟩;unfold Q5 at e3 ⊢
 cases hg:J0 H b with
 | none=>rw[hg] at e3;cases e3
 | some x=>rw[hg] at e3;rw[e b x e2 hg];exact e3
end Go.Clo
namespace Go.Proofs.YtoiioigihocgbaaGreatDoor
open Go.Clo
theorem SV.sub{H:Y0}{nx p rc rl N:Nat}{A:Option Addr}{cap:Nat}{es nb:List Nat}{L:Nat->Rat}{H':Y0}(h:SV H nx p rc rl N A cap es nb L)(e:Sub H nx H'):SV H' nx p rc rl N A cap es nb L:=by
 refine⟨e p _ h.pn h.hp,h.pn,h.rcn,h.rln,h.nbl,h.es'.sub' e,?_,?_,h.ne⟩
 .obtain⟨M,a,b⟩:=h.cm
  exact⟨M,a.sub h.rcn e,fun n v hv=>(b n v hv).sub e⟩
 .obtain⟨M,a,b⟩:=h.lm
  exact⟨M,a.sub h.rln e,fun n v hv=>(b n v hv).sub e⟩
def M72(es nb:List Nat)(N:Nat)(width:Rat)(c l v:Nat):Bool:=
 l.testBit v&&(decide (Y25 es nb N c v l<=width)&&decide (M45 N (Y25 es nb N c) (Z2 l (2^v))<=width))
theorem B107 {H:Y0} {m p rc rl N cap:Nat} {A:Option Addr} {es nb:List Nat} {L:Nat->Rat} {qs:List Nat} (h:SV (D6 H qs) m p rc rl N A cap es nb L) (hqs:∀ q ∈ qs,q<m) (hN:N<=6) (hsm:∀ e ∈ es,e<2^N) (hle:es.length<=8)
  (hnb:∀ (u x:Nat),nb[u]? = some x->x<2^N) (hcov:∀ w,w<N->∃ e ∈ es,e.testBit w=true) {t3 t4 t5 t7 a:Nat} {lefts comps:List Nat} {CA:Option Addr} {kc:Nat} {c5:List Value} {width:Rat}
  (l3:t3<m) (l4:t4<m) (l5:t5<m) (l7:t7<m) (la:a<m)
  (g7:J0 H t7=some (.cells [.slice (some ⟨a,0,none⟩) lefts.length lefts.length] 0)) (ga:J0 H a=some (.cells (K12 lefts) 0)) (g3:J0 H t3=some (.cells [.pointer (some ⟨p,0,none⟩)] 0))
  (g4:J0 H t4=some (.cells [.slice CA comps.length kc] 0)) (gc:Sl H m CA (K12 comps)) (g5:J0 H t5=some (.cells c5 0)) (hc5:V7 c5) (hw:RR (D6 H qs) m (.agg ⟨c5⟩) width) (hws:U15 width 100000)
  {i v c l:Nat} (hi:lefts[i]? = some l) (hci:comps[i]? = some c) (hv:v<N) (hc:c<2^N) (hl:l<2^N) (hlc:∀ w,l.testBit w=true->c.testBit w=true)
  (hL:∀ l,l≠0->(∀ w,l.testBit w=true->c.testBit w=true)->L l=M45 N (Y25 es nb N c) l):
  Q2 Tryz.prog 82 [.int .i64 (i:Int),.int .i64 (v:Int),.pointer (some ⟨t7,0,none⟩),.pointer (some ⟨t3,0,none⟩),.pointer (some ⟨t4,0,none⟩),.pointer (some ⟨t5,0,none⟩)] H m
   fun r H' m'=>r = .bool (M72 es nb N width c l v)/\SV (D6 H' qs) m' p rc rl N A cap es nb L/\Kp H m rc rl H' m':=by
 have hp64:2^N<=64:=Nat.pow_le_pow_right (n:=2) (by omega) hN
 have hcovS:∀ s,s<2^N->∀ v,s.testBit v=true->∃ e ∈ es,e.testBit v=true:=fun s hs v hv=>hcov v (R7 hs hv)
 have hil:=N12 hi
 have hil2:=N12 hci
 have M44:l<4294967296:=by omega
 have hc32:c<4294967296:=by omega
 have hv32:v<32:=by omega
 have gl:=Q3 hi
 have gcc:=Q3 hci
 have hshort:∀ l,U15 (M45 N (Y25 es nb N c) l) 100000:=fun l=>(K77 (Y75 _ (by omega)) (fun v l=>B65 es N _ hle) l).1
 refine spec82 ?_
 unfold F82
 have hE0:D0 H m H (m+45):=D0.self (by omega)
 have h0:=h.ext (hE0.er qs)
 obtain⟨B,o,row,rfl,hBn,hrow,hget⟩:=gc.open (i:=i) (by rw[E1];omega)
 have q0:=hget _ _ gcc
 simp (disch:=first|omega|assumption|exact G0 (by assumption)|exact U10 (by assumption)|exact X0 (by omega)|fail) only[W0,g7,ga,gl]
 cases hlv:l.testBit v with
 | false=>
  simp (disch:=first|omega|assumption|exact G0 (by assumption)|exact U10 (by assumption)|exact X0 (by omega)|fail) only[W0]
  refine⟨?_,h0,hE0.kp⟩
  unfold M72
  rw[hlv];rfl
 | true=>
  have hp32:2^v<4294967296:=by have:=R27 hv;omega
  simp (disch:=first|omega|assumption|exact G0 (by assumption)|exact U10 (by assumption)|exact X0 (by omega)|fail) only[W0,g3,g4,X3 hrow,q0]
  refine X65 (qs:=qs) (fun q hq=>by have:=hqs q hq;omega) (V100 h0 hN hnb hv hc hl) (fun _ _ _ h=>h.2) ?_
  rintro _ H2 m2 H0 ⟨rfl,hX2⟩ hE2 hS2 _
  have h2:=(h0.ext hX2).sub hS2
  have hbl:=R96 (nb:=nb) (v:=v) (comp:=c) (left:=l) hnb hN hv
  have hbs:=E92 (nb:=nb) (comp:=c) hN hv hlv
  have hle2:=hE2.le
  refine R91 (qs:=qs) (fun q hq=>by have:=hqs q hq;omega) h2.ic h2.il (Y87 h2 (by omega) hsm hle hbl (U43 hv hbs) (hcovS _ hbl)) (fun _ _ _ h=>h.2.2) ?_
  rintro v3 H3 m3 H0' ⟨hv3,hs3,hX3⟩ hK3 hS3 _
  have h3:=hs3.sub hS3
  have hr3:=hv3.sub hS3
  have hle3:=hK3.le
  have hic2:=h2.ic.sub N68
  have hil2:=h2.il.sub N68
  have g52:=(hE2.get t5 (by omega)).trans g5
  have g53:=hK3.cell hic2 hil2 (by omega) g52
  have g32:=(hE2.get t3 (by omega)).trans g3
  have hw3:=((hw.ext (hE0.er qs)).ext (hE2.er qs)).kp (hK3.er qs) h2.ic h2.il
  simp (disch:=first|omega|assumption|exact G0 (by assumption)|exact U10 (by assumption)|exact X0 (by omega)|fail) only[W0,g53,X15 hc5]
  refine X65 (qs:=qs) (fun q hq=>by have:=hqs q hq;omega) (X81 hr3 hw3 (B65 es N _ hle) hws) (fun _ _ _ h=>h.2) ?_
  rintro _ H4 m4 H0'' ⟨rfl,hX4⟩ hE4 hS4 _
  have h4:=(h3.ext hX4).sub hS4
  have hle4:=hE4.le
  have hic3:=h3.ic.sub N68
  have hil3:=h3.il.sub N68
  have hE02:D0 H m H2 m2:=⟨by omega,fun q hq=>hE2.get q (by omega)⟩
  have hK4:Kp H m rc rl H4 m4:=(hE02.kp.trans hK3).trans hE4.kp
  have hicH:=h.ic.sub N68
  have hilH:=h.il.sub N68
  have g34:=hK4.cell hicH hilH l3 g3
  have g44:=hK4.cell hicH hilH l4 g4
  have g54:=hK4.cell hicH hilH l5 g5
  have g74:=hK4.cell hicH hilH l7 g7
  have ga4:=hK4.cell hicH hilH la ga
  have gc4:=gc.kp hK4 hicH hilH
  have hw4:=hw3.ext (hE4.er qs)
  have d3:decide (N70 (Y25 es nb N c v l) width<=0)=decide (Y25 es nb N c v l<=width):=by rw[Bool.eq_iff_iff,decide_eq_true_eq,decide_eq_true_eq];exact J98
  rw[show Y74 es N (C78 nb N v c l)=Y25 es nb N c v l from rfl]
  cases hfit:decide (Y25 es nb N c v l<=width) with
  | false=>
   rw[hfit] at d3
   simp (disch:=first|omega|assumption|exact G0 (by assumption)|exact U10 (by assumption)|exact X0 (by omega)|fail) only[W0,d3,g5,g52,g32,X15 hc5]
   refine⟨?_,h4,hK4⟩
   unfold M72
   rw[hlv,hfit];rfl
  | true=>
   rw[hfit] at d3
   obtain⟨B',o',row',e',hBn',hrow',hget'⟩:=gc4.open (i:=i) (by rw[E1];omega)
   cases e'
   have q4:=hget' _ _ gcc
   have hnd32:Z2 l (2^v)<4294967296:=U10 M44
   simp (disch:=first|omega|assumption|exact G0 (by assumption)|exact U10 (by assumption)|exact X0 (by omega)|fail) only[W0,d3,g34,g44,X3 hrow',q4,g74,ga4,gl]
   refine R91 (qs:=qs) (fun q hq=>by have:=hqs q hq;omega) h4.ic h4.il (V88 hN hsm hle hnb hcov hc hL (Z2 l (2^v)) (Z6 hl) (Y85 hlc) (D6 H4 qs) m4 h4) (fun _ _ _ h=>h.2.2) ?_
   rintro v5 H5 m5 H0''' ⟨hv5,hs5,hX5⟩ hK5 hS5 _
   have h5:=hs5.sub hS5
   have hr5:=hv5.sub hS5
   have hle5:=hK5.le
   have hK05:=hK4.trans hK5
   have g55:=hK05.cell hicH hilH l5 g5
   have hw5:=hw4.kp (hK5.er qs) h4.ic h4.il
   simp (disch:=first|omega|assumption|exact G0 (by assumption)|exact U10 (by assumption)|exact X0 (by omega)|fail) only[W0,g55,X15 hc5]
   refine X65 (qs:=qs) (fun q hq=>by have:=hqs q hq;omega) (X81 hr5 hw5 (hshort _) hws) (fun _ _ _ h=>h.2) ?_
   rintro _ H6 m6 H0'''' ⟨rfl,hX6⟩ hE6 hS6 _
   have h6:=(h5.ext hX6).sub hS6
   have d6:decide (N70 (M45 N (Y25 es nb N c) (Z2 l (2^v))) width<=0)=decide (M45 N (Y25 es nb N c) (Z2 l (2^v))<=width):=by rw[Bool.eq_iff_iff,decide_eq_true_eq,decide_eq_true_eq];exact J98
   simp (disch:=first|omega|assumption|exact G0 (by assumption)|exact U10 (by assumption)|exact X0 (by omega)|fail) only[W0,d6,g54,X15 hc5,g5,g52,g32]
   refine⟨?_,h6,hK05.trans hE6.kp⟩
   unfold M72
   rw[hlv,hfit];rfl
section
variable {A:Option Addr} {H H0:Y0} {L:Nat->Rat} {N c cap i m p rc rl:Nat} {c5:List Value} {es l lefts nb:List Nat} {perm:List Int} {v:Value} {width:Rat}
def D75(es nb:List Nat)(N:Nat)(width:Rat)(comps lefts:List Nat)(v:Nat):Nat->Nat->Option Nat
 | 0,_=>none
 | f+1,i=>if M72 es nb N width (comps.getD i 0) (lefts.getD i 0) v=true then some i else D75 es nb N width comps lefts v f (i+1)
def E80(es nb:List Nat)(N:Nat)(width:Rat)(comps lefts:List Nat):Nat->Nat->Option (Nat × Nat)
 | 0,_=>none
 | f+1,v=>match D75 es nb N width comps lefts v lefts.length 0 with
  | some i=>some (v,i)
  | none=>E80 es nb N width comps lefts f (v+1)
def Q73(es nb:List Nat)(N:Nat)(width:Rat)(comps:List Nat)(s:List Int × List Nat):List Int × List Nat:=match E80 es nb N width comps s.2 N 0 with
 | some (v,i)=>(s.1++[(v:Int)],s.2.set i (Z2 (s.2.getD i 0) (2^v)))
 | none=>s
def C54(es nb:List Nat)(N:Nat)(width:Rat)(comps:List Nat):Nat->List Int × List Nat
 | 0=>([],comps)
 | n+1=>Q73 es nb N width comps (C54 es nb N width comps n)
def M71(comps:List Nat):Nat:=comps.foldl (fun n c=>n+E9 c) 0
theorem B103(h:l[i]? = some c):M71 (l.take (i+1))=M71 (l.take i)+E9 c:=by
 unfold M71;rw[C7 h,List.foldl_append];rfl
theorem W110:∀ l:List Nat,M71 l<=6*l.length:=by
 have key:∀(l:List Nat) (n:Nat),l.foldl (fun n c=>n+E9 c) n<=n+6*l.length:=by
  intro l
  induction l with
  | nil=>intro n;simp
  | cons c l ih=>
   intro n;have h1:=ih (n+E9 c);have h2:E9 c<=6:=Q15 _ _;simp only[dF,cV];omega
 intro l;have:=key l 0;unfold M71;omega
theorem take_set(h:l[i]? = some c):(l.take i++aF (l.length-i) 0).set i c=l.take (i+1)++aF (l.length-(i+1)) 0:=by
 have hi:=N12 h;have e:(l.take i).length=i:=by rw[cK];omega
 rw[C7 h,List.append_assoc];obtain⟨k,hk⟩:∃ k,l.length-i=k+1:=⟨l.length-i-1,by omega⟩
 rw[hk,show l.length-(i+1)=k by omega,List.replicate_succ,List.set_append,if_neg (by omega),e,Nat.sub_self]
 rfl
theorem M102(a x:Value):B12 [a] 0 [x]=[x]:=rfl
def W85(es nb:List Nat)(N:Nat)(width:Rat)(comps:List Nat):List Int:=(C54 es nb N width comps (M71 comps)).1
def U81(N:Nat)(comps lefts:List Nat):Prop:=lefts.length=comps.length/\∀(i l c:Nat),lefts[i]? = some l->comps[i]? = some c->l<2^N/\∀ w,l.testBit w=true->c.testBit w=true
theorem U81.set{N:Nat}{comps lefts:List Nat}(h:U81 N comps lefts)(i v:Nat):U81 N comps (lefts.set i (Z2 (lefts.getD i 0) (2^v))):=by
 refine⟨by rw[dO];exact h.1,fun j l c hl hc => ?_⟩;rw[cQ] at hl
 split at hl
 .rename_i e
  subst e
  split at hl
  .rename_i E
   cases hl
   have hg:lefts[i]? = some lefts[i]:=aE E;obtain⟨h1,h2⟩:=h.2 i _ c hg hc;have e:lefts.getD i 0=lefts[i]:=by simp[aP,hg]
   rw[e];exact⟨Z6 h1,Y85 h2⟩
  .cases hl
 .exact h.2 j l c hl hc
theorem W104{comps:List Nat}{s:List Int × List Nat}(h:U81 N comps s.2):U81 N comps (Q73 es nb N width comps s).2/\(Q73 es nb N width comps s).1.length<=s.1.length+1:=by
 unfold Q73
 split
 .exact⟨h.set _ _,by simp⟩
 .exact⟨h,by omega⟩
structure FS (H0:Y0) (b0 p rc rl N:Nat) (A:Option Addr) (cap:Nat) (es nb:List Nat) (L:Nat->Rat) (c5:List Value) (width:Rat) (v:Value) (perm:List Int) (lefts:List Nat) (H:Y0) (m:Nat):Prop where
 sv:SV (D6 H [b0,R5 b0 v]) m p rc rl N A cap es nb L
 kp:Kp H0 b0 rc rl H m
 g7:J0 H (b0+1)=some (.cells [.slice (some ⟨b0,0,none⟩) lefts.length lefts.length] 0)
 ga:J0 H b0=some (.cells (K12 lefts) 0)
 acc:Acc (b0+2) H m 1 v perm.length (U4 perm)
 wd:RR (D6 H [b0,R5 b0 v]) m (.agg ⟨c5⟩) width
 le:b0+2<=m
theorem FS.step{b0:Nat}{H':Y0}{m':Nat}
  (h:FS H0 b0 p rc rl N A cap es nb L c5 width v perm lefts H m)(e:Kp H m rc rl H' m')(s:SV (D6 H' [b0,R5 b0 v]) m' p rc rl N A cap es nb L):FS H0 b0 p rc rl N A cap es nb L c5 width v perm lefts H' m':=by
 have J:=h.le;have E:=e.le;have hc:=h.sv.ic.sub N68;have hl:=h.sv.il.sub N68;refine⟨s,h.kp.trans ⟨e.le,fun x h1 h2 h3=>e.get x h1 h2 h3⟩,e.cell hc hl (by omega) h.g7,e.cell hc hl (by omega) h.ga,?_,h.wd.kp (e.er _) h.sv.ic h.sv.il,by omega⟩;obtain⟨h1,h2 | ⟨b,h2,h3,h4,h5⟩⟩:=h.acc
 .exact⟨h1,.inl h2⟩
 .exact⟨h1,.inr ⟨b,h2,by omega,h4,e.cell hc hl h3 h5⟩⟩
theorem FS.ext{H0:Y0}{b0 p rc rl N:Nat}{A:Option Addr}{cap:Nat}{es nb:List Nat}{L:Nat->Rat}{c5:List Value}{width:Rat}{v:Value}{perm:List Int}{lefts:List Nat}{H:Y0}{m:Nat}{H':Y0}{m':Nat}
  (h:FS H0 b0 p rc rl N A cap es nb L c5 width v perm lefts H m)(e:D0 H m H' m'):FS H0 b0 p rc rl N A cap es nb L c5 width v perm lefts H' m':=h.step e.kp (h.sv.ext (e.er _))
theorem FS.qs{b0:Nat}
  (h:FS H0 b0 p rc rl N A cap es nb L c5 width v perm lefts H m):∀ q ∈ [b0,R5 b0 v],q<m:=by
 have E:=h.le;intro q hq;rcases aU.1 hq with rfl | hq
 .omega
 .rw[dJ] at hq
  subst hq;exact W75 h.acc (by omega)
theorem R103{nx p rc rl N cap:Nat}{es nb:List Nat}{L:Nat->Rat}(h:SV H nx p rc rl N A cap es nb L)(hN:N<=6)(c8:∀ e ∈ es,e<2^N)(cn:es.length<=8)
  (cg:∀(u x:Nat),nb[u]? = some x->x<2^N)(bu:∀ w,w<N->∃ e ∈ es,e.testBit w=true){comps:List Nat}{CA:Option Addr}
  (gc:Sl H nx CA (K12 comps))(hw:RR H nx (.agg ⟨c5⟩) width)(cp:U15 width 100000)(d3:comps.length<=32)(U:∀ c ∈ comps,c<2^N)
  (hL:∀ c ∈ comps,∀ l,l≠0->(∀ w,l.testBit w=true->c.testBit w=true)->L l=M45 N (Y25 es nb N c) l):
  Q2 Tryz.prog 49 [.pointer (some ⟨p,0,none⟩),.slice CA comps.length comps.length,.agg ⟨c5⟩] H nx
   fun r H' nx'=>(∃ B,r = .slice B (W85 es nb N width comps).length (W85 es nb N width comps).length/\Sl H' nx' B (U4 (W85 es nb N width comps)))/\Kp H nx rc rl H' nx':=by
 have bo:2^N<=64:=aK (n:=2) (by omega) hN;have db:=h.pn;have d0:=h.rcn;have cx:=h.rln;have az:V7 c5:=hw.tri;refine spec49 ?_;unfold F49;simp only[W1];rw[W44,Q37,N35,Q37,Y31,az.one,if_pos rfl,Q37];simp only[Q0.val];generalize hK:hs (hs (hs H nx (some (.cells [.pointer (some ⟨p,0,none⟩)] 0))) (nx+1) (some (.cells [.slice CA comps.length comps.length] 0))) (nx+1+1) (some (.cells c5 0))=K;have k3:J0 K nx=some (.cells [.pointer (some ⟨p,0,none⟩)] 0):=by rw[<- hK,Z1 _ (by omega),Z1 _ (by omega),Z11]
 have k4:J0 K (nx+1)=some (.cells [.slice CA comps.length comps.length] 0):=by rw[<- hK,Z1 _ (by omega),Z11]
 have k5:J0 K (nx+1+1)=some (.cells c5 0):=by rw[<- hK,Z11]
 have a6:D0 H nx K (nx+1+1+1):=by
  rw[<- hK];exact(((D0.refl _ _).new _ (aD _) (m:=nx+1) (by omega)).new _ (by omega) (m:=nx+1+1) (by omega)).new _ (by omega) (by omega)
 have ax:comps.length<=1000000:=by omega
 have E6:=h.ext a6;have b4:=hw.ext a6;have hgK:=gc.ext a6;clear hK;obtain⟨b0,b5⟩:∃ b0,b0=nx+1+1+1:=⟨_,rfl⟩
 rw[<- b5] at a6 E6 b4 hgK ⊢;have l3:nx<b0:=by omega
 have l4:nx+1<b0:=by omega
 have l5:nx+1+1<b0:=by omega
 have p3:nx≠p:=by omega
 obtain⟨t5,av⟩:∃ t5,t5=nx+1+1:=⟨_,rfl⟩
 obtain⟨t4,bx⟩:∃ t4,t4=nx+1:=⟨_,rfl⟩
 rw[<- av] at k5 l5 ⊢;rw[<- bx] at k4 l4 ⊢;have cu:nx<=b0:=by omega
 clear b5 av bx;simp(disch:=first|omega|assumption)only[W0,Q0.val,k4,M27 ax,C23,M102];generalize ak:hs (hs (hs K b0 (some (.cells (K12 (aF comps.length 0)) 0))) (b0+1) (some (.cells [.slice none 0 0] 0))) (b0+1) (some (.cells [.slice (some ⟨b0,0,none⟩) comps.length comps.length] 0))=K1;have q7:J0 K1 (b0+1)=some (.cells [.slice (some ⟨b0,0,none⟩) comps.length comps.length] 0):=by rw[<- ak,Z11]
 have qa:J0 K1 b0=some (.cells (K12 (aF comps.length 0)) 0):=by rw[<- ak,Z1 _ (by omega),Z1 _ (by omega),Z11]
 have bt:D0 K b0 K1 (b0+1+1):=by
  rw[<- ak];exact(((D0.refl _ _).new _ (aD _) (m:=b0+1) (by omega)).new _ (by omega) (m:=b0+1+1) (by omega)).hs (by omega)
 have q4:=(bt.get t4 l4).trans k4;refine B1 (m:=comps.length) (fun f L H' nx'=>∃ i,f+i=comps.length/\L=[.int .i64 (M71 (comps.take i):Int),.int .i64 (i:Int)]/\J0 H' b0=some (.cells (K12 (comps.take i++aF (comps.length-i) 0)) 0) /\
  J0 H' (b0+1)=some (.cells [.slice (some ⟨b0,0,none⟩) comps.length comps.length] 0)/\D0 K b0 H' nx'/\b0+2<=nx') ?_ ⟨0,by omega,rfl,qa,q7,bt,by omega⟩
 rintro f da L H7 m7 ⟨i,hf,rfl,ai,aj,a3,cz⟩ a1;have au:=W110 (comps.take i);rw[cK] at au
 by_cases hi:i<comps.length
 .have Q:(i:Int)<(comps.length:Int):=by omega
  obtain⟨c,hc⟩:∃ c,comps[i]? = some c:=⟨_,aE hi⟩
  obtain⟨B,o,row,rfl,d6,ap,bh⟩:=(hgK.ext a3).open (i:=i) (by rw[E1];omega);have q0:=bh _ _ (Q3 hc);have d7:=U c (aH hc);have c3:i<(comps.take i++aF (comps.length-i) 0).length:=by simp;omega
  have b8:=take_set hc;simp(disch:=first|omega|assumption)only[W0,Q,X3 ap,q0,aj,ai,V10 c3];refine⟨by rw[E1];omega,?_⟩;rw[b8];refine R0 (R44 (x:=c) (by omega) _ _) ?_;rintro _ H9 m9 ⟨rfl,a8⟩;have a4:E9 c<=6:=Q15 _ _;have d1:=a8.le;simp(disch:=first|omega|assumption)only[W0];refine a1 (f-1) _ _ _ (by omega) ⟨i+1,by omega,by rw[B103 hc];simp,(a8.get b0 (by omega)).trans (Z11 _ _ _),(a8.get (b0+1) (by omega)).trans ((Z1 _ (by omega)).trans aj),(a3.hs (by omega)).trans a8,by omega⟩
 obtain rfl:i=comps.length:=by omega
 have Q:¬ (comps.length:Int)<(comps.length:Int):=by omega
 rw[gJ (aD _)] at *
 rw[Nat.sub_self,List.replicate_zero,List.append_nil] at ai;clear a1;have cj:M71 comps<=6*32:=by omega
 have a0:=E6.ic;have a2:=E6.il;have c6:FS K b0 p rc rl N A cap es nb L c5 width (.slice none 0 0) [] comps H7 m7:=
  ⟨E6.ext (K100 a3 fun q hq=>by simp[R5] at hq;omega),a3.kp,aj,ai,Acc.nil _ _ _ _,b4.ext (K100 a3 fun q hq=>by simp[R5] at hq;omega),by omega⟩
 have ah:∀ n,U81 N comps (C54 es nb N width comps n).2/\(C54 es nb N width comps n).1.length<=n:=by
  intro n
  induction n with
  | zero=>exact⟨⟨rfl,fun i l c hl hc=>by
    rw[show(C54 es nb N width comps 0).2=comps from rfl] at hl;rw[hl] at hc;cases hc;exact⟨U _ (aH hl),fun w hw=>hw⟩⟩,by simp[C54]⟩
  | succ n ih=>
   have:=W104 (es:=es) (nb:=nb) (width:=width) ih.1;exact⟨this.1,by have h1:=this.2;have h2:=ih.2;show(Q73 es nb N width comps (C54 es nb N width comps n)).1.length<=_;omega⟩
 simp(disch:=first|omega|assumption)only[W0,Q];refine B1 (m:=M71 comps) (fun f L' H' m'=>∃ r v,f+r=M71 comps/\L'=[v,.int .i64 (r:Int)]/\FS K b0 p rc rl N A cap es nb L c5 width v (C54 es nb N width comps r).1 (C54 es nb N width comps r).2 H' m') ?_ ⟨0,_,by omega,rfl,c6⟩;rintro f c7 L2 H2 m2 ⟨r,v,hf,rfl,hS⟩ a1
 by_cases hr:r<M71 comps
 case neg=>
  obtain rfl:r=M71 comps:=by omega
  have ae:¬ (M71 comps:Int)<(M71 comps:Int):=by omega
  obtain⟨B,rfl,hB⟩:=hS.acc.sl;simp(disch:=first|omega|assumption)only[W0,ae];have bg:=hS.kp;exact⟨⟨B,rfl,hB⟩,⟨by have:=bg.le;omega,fun x h1 h2 h3=>(bg.get x (by omega) h2 h3).trans (a6.get x (by omega))⟩⟩
 have ae:(r:Int)<(M71 comps:Int):=by omega
 obtain⟨a7,ce⟩:=ah r;have ag:C54 es nb N width comps (r+1)=Q73 es nb N width comps (C54 es nb N width comps r):=rfl;generalize C54 es nb N width comps r=s at *
 obtain⟨perm,lefts⟩:=s;dsimp only at a7 ce hS;have cq:lefts.length<=32:=by have:=a7.1;omega
 simp(disch:=first|omega|assumption)only[W0,ae];refine N5 (fun L' H' m'=>∃ v',L'=[v']/\FS K b0 p rc rl N A cap es nb L c5 width v' (C54 es nb N width comps (r+1)).1 (C54 es nb N width comps (r+1)).2 H' m') (fun j hj => ?_) ?_
 case refine_2=>
  rintro _ H3 m3 ⟨v',rfl,a5⟩;simp(disch:=first|omega|assumption)only[W0];exact a1 (f-1) _ _ _ (by omega) ⟨r+1,v',by omega,by simp,a5⟩
 clear a1 c7;have q3:=hS.kp.cell a0 a2 l3 k3;have qp:=N68 _ _ hS.sv.hp;simp(disch:=first|omega|assumption)only[W0,q3,qp,C89];have E:Q73 es nb N width comps (perm,lefts)=match E80 es nb N width comps lefts N 0 with
  | some (v,i)=>(perm++[(v:Int)],lefts.set i (Z2 (lefts.getD i 0) (2^v)))
  | none=>(perm,lefts):=rfl
 rw[<- ag] at E;refine B1 (m:=N) (fun f L' H' m'=>∃ w,f+w=N/\L'=[v,.int .i64 (w:Int)]/\FS K b0 p rc rl N A cap es nb L c5 width v perm lefts H' m'/\E80 es nb N width comps lefts N 0=E80 es nb N width comps lefts f w) ?_ ⟨0,by omega,rfl,hS,rfl⟩;rintro f3 d4 L3 H3 m3 ⟨w,d5,rfl,a5,W⟩ bf
 by_cases ba:w<N
 case neg=>
  have ao:¬ (w:Int)<(N:Int):=by omega
  obtain rfl:f3=0:=by omega
  rw[W] at E;simp(disch:=first|omega|assumption)only[W0,ao];refine hj _ _ _ ⟨v,rfl,?_⟩;rw[E];exact a5
 have ao:(w:Int)<(N:Int):=by omega
 obtain⟨al,rfl⟩:∃ f',f3=f'+1:=⟨f3-1,by omega⟩
 have ab:E80 es nb N width comps lefts (al+1) w=match D75 es nb N width comps lefts w lefts.length 0 with
  | some i=>some (w,i)
  | none=>E80 es nb N width comps lefts al (w+1):=rfl
 rw[ab] at W;clear ab;simp(disch:=first|omega|assumption)only[W0,ao,a5.g7];refine B1 (m:=lefts.length) (fun f L' H' m'=>∃ i,f+i=lefts.length/\L'=[v,.int .i64 (i:Int)]/\FS K b0 p rc rl N A cap es nb L c5 width v perm lefts H' m'/\D75 es nb N width comps lefts w lefts.length 0=D75 es nb N width comps lefts w f i) ?_ ⟨0,by omega,rfl,a5,rfl⟩;rintro f4 d8 L4 H4 m4 ⟨i,d9,rfl,J,Z⟩ aq
 by_cases bc:i<lefts.length
 case neg=>
  have Q:¬ (i:Int)<(lefts.length:Int):=by omega
  obtain rfl:f4=0:=by omega
  rw[Z] at W;simp(disch:=first|omega|assumption)only[W0,Q];exact bf al _ _ _ (by omega) ⟨w+1,by omega,by simp,J,W⟩
 have Q:(i:Int)<(lefts.length:Int):=by omega
 obtain⟨ad,rfl⟩:∃ f',f4=f'+1:=⟨f4-1,by omega⟩
 obtain⟨l,hl⟩:∃ l,lefts[i]? = some l:=⟨_,aE bc⟩
 obtain⟨c,hc⟩:∃ c,comps[i]? = some c:=⟨_,aE (by have:=a7.1;omega)⟩
 obtain⟨cc,c4⟩:=a7.2 i l c hl hc;have bv:=aH hc;have b3:lefts.getD i 0=l:=by simp[aP,hl]
 have ck:comps.getD i 0=c:=by simp[aP,hc]
 have aa:D75 es nb N width comps lefts w (ad+1) i=if M72 es nb N width c l w=true then some i else D75 es nb N width comps lefts w ad (i+1):=by
  show(if M72 es nb N width (comps.getD i 0) (lefts.getD i 0) w=true then _ else _)=_;rw[b3,ck]
 rw[aa] at Z;clear aa;have cy:=J.le;have a9:=J.kp;simp(disch:=first|omega|assumption)only[W0,Q];refine V22 (B107 J.sv J.qs hN c8 cn cg bu (t3:=nx) (t4:=t4) (t5:=t5) (t7:=b0+1) (a:=b0) (lefts:=lefts) (comps:=comps) (by omega) (by omega) (by omega) (by omega) (by omega) J.g7 J.ga
  (a9.cell a0 a2 l3 k3) (a9.cell a0 a2 l4 k4) (hgK.kp a9 a0 a2) (a9.cell a0 a2 l5 k5) az J.wd cp hl hc ba (U c bv) cc c4 (hL c bv)) ?_
 rintro _ H5 m5 ⟨rfl,bz,cd⟩;have an:=J.step cd bz
 cases ac:M72 es nb N width c l w with
 | false=>
  rw[ac,if_neg (by simp)] at Z;simp(disch:=first|omega|assumption)only[W0];exact aq ad _ _ _ (by omega) ⟨i+1,by omega,by simp,an,Z⟩
 | true=>
  rw[ac,if_pos rfl] at Z;rw[Z] at W;rw[W] at E;dsimp only at E;rw[b3] at E;have c9:∀(x:Int) k,K6 1 1 [.int .i64 0] [(0,.int .i64 x)] k=k [.int .i64 x]:=fun x k=>rfl
  simp(disch:=first|omega|assumption)only[W0,c9];have ci:D0 H5 m5 (hs H5 m5 (some (.cells [.int .i64 (w:Int)] 0))) (m5+1):=(D0.refl _ _).new _ (aD _) (by omega);have O:=an.ext ci;have cf:J0 (hs H5 m5 (some (.cells [.int .i64 (w:Int)] 0))) m5=some (.cells [.int .i64 (w:Int)] 0):=Z11 _ _ _;have cv:=an.le;generalize hs H5 m5 (some (.cells [.int .i64 (w:Int)] 0))=H6 at *
  refine E72 (lo:=b0+2) (d:=m5+1) (m:=1) (l:=[.int .i64 (w:Int)]) (by omega) O.acc (J9 cf rfl (by omega)) (by omega) rfl (by omega) (by omega) ?_;intro aw bw bd;have V:∀ i,i≠m5+1->(i≠R5 b0 v\/i<b0+2)->J0 aw i=J0 H6 i:=by
   intro i h1 h2;rcases N29 O.acc (d:=b0) with ⟨e0,_,_⟩ | ⟨b,e0,e,h3,h4,_⟩
   .refine bd i h1 ?_
    rw[e0];exact h1
   .refine bd i h1 ?_
    rw[e] at h2;rw[e0];show i≠b;omega
  have bk:=(V (b0+1) (by omega) (.inr (by omega))).trans O.g7;have co:=(V b0 (by omega) (.inr (by omega))).trans O.ga;have gl:=Q3 hl;have bo:2^N<=64:=aK (n:=2) (by omega) hN;have M44:l<4294967296:=by omega
  have d2:2^w<4294967296:=by have:=R27 ba;omega
  have ct:w<32:=by omega
  have ca:Z2 l (2^w)<4294967296:=U10 M44;have a4:∀ q,q<m5+1->q ∉ [b0,R5 b0 v]->J0 (hs aw b0 (some (.cells (K12 (lefts.set i (Z2 l (2^w)))) 0))) q=J0 H6 q:=fun q hi hn=>by
   simp at hn;rw[Z1 _ hn.1];exact V q (by omega) (.inl hn.2)
  have ay:∀ q ∈ [b0,m5+1],q ∈ [b0,R5 b0 v]\/m5+1<=q:=fun q hq=>by
   rcases aU.1 hq with rfl | hq
   .exact .inl (by simp)
   .rw[dJ] at hq;subst hq;exact .inr (aD _)
  simp(disch:=first|omega|assumption)only[W0,bk,co,gl,V10 bc];refine⟨by rw[E1];omega,hj _ _ _ ⟨_,rfl,?_⟩⟩;rw[E];refine⟨(O.sv.sub (V74 a4 ay)).ext (D0.self (by omega)),⟨by have:=O.kp.le;omega,fun x h1 h2 h3 => ?_⟩,?_,Z11 _ _ _,?_,(O.wd.sub (V74 a4 ay)).ext (D0.self (by omega)),by omega⟩
  .rw[Z1 _ (by omega),V x (by omega) (.inr (by omega))]
   exact O.kp.get x h1 h2 h3
  .dsimp only
   rw[dO,Z1 _ (by omega)];exact bk
  .have e:(perm++[(w:Int)]).length=perm.length+1:=by simp
   have e2:U4 (perm++[(w:Int)])=U4 perm++[.int .i64 (w:Int)]:=by simp[U4]
   dsimp only;rw[e,e2];refine X76 (by rw[bH,X9];simp) (by omega) (by omega) ?_;rw[Z1 _ (by omega),bw]
end
end Go.Proofs.YtoiioigihocgbaaGreatDoor
namespace Go.Clo
theorem R98{N:Int}{A:Option Addr}{l c:Nat}{nb:List Nat}{a b:Option Nat}(h:nb.length=32)(k:VP):U11 [.int .i64 0,.slice none 0 0,.int .u32 0,.int .u32 0,.int .u32 0,.int .u32 0,.int .u32 0,.int .u32 0,.int .u32 0,.int .u32 0,.int .u32 0,.int .u32 0,.int .u32 0,.int .u32 0,.int .u32 0,.int .u32 0,.int .u32 0,.int .u32 0,.int .u32 0,.int .u32 0,.int .u32 0,.int .u32 0,.int .u32 0,.int .u32 0,.int .u32 0,.int .u32 0,.int .u32 0,.int .u32 0,.int .u32 0,.int .u32 0,.int .u32 0,.int .u32 0,.int .u32 0,.int .u32 0,.map none,.map none] [(0,2),(2,32),(34,1),(35,1)] [(0,.agg ⟨[.int .i64 N,.slice A l c]⟩),(1,.agg ⟨K12 nb⟩),(2,.map a),(3,.map b)] k=k (.agg ⟨.int .i64 N :: .slice A l c :: (K12 nb++[.map a,.map b])⟩):=by
 match nb,h with
 | [a0,a1,a2,a3,a4,a5,a6,a7,a8,a9,a10,a11,a12,a13,a14,a15,a16,a17,a18,a19,a20,a21,a22,a23,a24,a25,a26,a27,a28,a29,a30,a31],_=>exact V14 _ _
theorem E83(N:Int)(A:Option Addr)(l c:Nat)(a b:Option Nat):∀ nb:List Nat,Z0 (.int .i64 N :: .slice A l c :: (K12 nb++[.map a,.map b]))=true:=by
 intro nb;show Z0 (K12 nb++[.map a,.map b])=true
 induction nb with
 | nil=>rfl
 | cons x nb ih=>exact ih
theorem Sl.write{H:Y0}{nx i s:Nat}{A:Option Addr}{l r:List Value}{b:Option V3}(h:Sl H nx A l)(hg:J0 H i=some (.cells r s))(J:∀ v ∈ l,v ∉ r):Sl (Go.Clo.hs H i b) nx A l:=by
 intro j v hv;obtain⟨q,o,row,e1,e2,e3,e4⟩:=h j v hv;refine⟨q,o,row,e1,e2,?_,e4⟩;have hq:q≠i:=by
  rintro rfl;have E:row=r:=by rw[Q5,hg] at e3;exact(fA e3).symm
  subst E;exact J v (aH hv) (aH e4)
 rw[Q5,Z1 _ hq];exact e3
theorem E40(aL:List Nat)(N:Nat):∀(f l:Nat),(R8 aL N f l).length<=f
 | 0,_=>aD _
 | f+1,l=>by
  show(if l=0 then [] else _:List Nat).length<=f+1
  split
  .simp
  .simp only[cV]
   have:=E40 aL N f (Z2 l (W7 aL N N 0 (2^tz l)));omega
end Go.Clo
namespace Go.Proofs.YtoiioigihocgbaaGreatDoor
open Go.Clo
def bnd(N f:Nat):Nat:=Z2 (2^N-1) (2^f-1)
def Z20(es:List Nat)(N f:Nat):List Nat:=(D19 (D14 es (bnd N f)) N).filter fun c=>decide (c &&& bnd N f≠0)
theorem U24{es:List Nat}{N u w:Nat}(hN:N<=32):((B2 es N).getD u 0).testBit w=true<->u<N/\w<N/\adj es u w=true:=by
 rw[aP]
 by_cases hu:u<32
 .simp only[B2,cP,List.getElem?_range hu,Option.map_some,Option.getD_some]
  by_cases h:u<N
  .rw[if_pos h,E26];simp[h]
  .rw[if_neg h];simp[h]
 .have:(B2 es N)[u]? = none:=aT (by rw[N9];omega)
  rw[this];simp;omega
theorem M37{es:List Nat}{N:Nat}(hN:N<=32):∀ u w,((B2 es N).getD u 0).testBit w=true->((B2 es N).getD w 0).testBit u=true:=by
 intro u w h;obtain⟨h1,h2,h3⟩:=(U24 hN).1 h;exact(U24 hN).2 ⟨h2,h1,by rw[Z43];exact h3⟩
theorem M56{es:List Nat}{N:Nat}(hN:N<=6):(∀ c ∈ D19 es N,∃ v,v<N/\V53 (B2 es N) N v c)/\(D19 es N).Pairwise (fun c d=>∀ w,c.testBit w=true->d.testBit w=false) /\
  (∀ w,w<N<->∃ c ∈ D19 es N,c.testBit w=true):=by
 have E:2^N<=64:=aK (n:=2) (by omega) hN;have J:0<2^N:=aQ N;obtain⟨h1,h2,h3⟩:=C33 (aL:=B2 es N) (N:=N) N30 E (M37 (by omega)) N (2^N-1) (Q15 _ _) (by omega) (fun u w _ hw=>by
  rw[dC];simpa using ((U24 (by omega)).1 hw).2.1)
 refine⟨h1,h2,fun w => ?_⟩;rw[show D19 es N=R8 (B2 es N) N N (2^N-1) from rfl,<- h3 w,dC];simp
def D94(es:List Nat)(N f l:Nat):Rat:=match (Z20 es N f).find? (fun c=>decide (Z2 l c=0)) with
 | some c=>M45 N (Y25 es (B2 es N) N c) l
 | none=>0
theorem M34 {l c:Nat}:Z2 l c=0<->∀ w,l.testBit w=true->c.testBit w=true:=by
 constructor
 .intro h w hw
  have:=N1 l c w
  rw[h,hw,Nat.zero_testBit] at this
  simpa using this.symm
 .intro h
  apply Nat.eq_of_testBit_eq
  intro w
  rw[N1,Nat.zero_testBit]
  cases hl:l.testBit w with
  | false=>rfl
  | true=>rw[h w hl];rfl
theorem J108{es:List Nat}{N f:Nat}(hN:N<=6){c:Nat}(hc:c ∈ Z20 es N f){l:Nat}(h0:l≠0)(hl:∀ w,l.testBit w=true->c.testBit w=true):D94 es N f l=M45 N (Y25 es (B2 es N) N c) l:=by
 obtain⟨u,hu⟩:=B14 h0;have E:=(M56 (es:=D14 es (bnd N f)) hN).2.1.filter (fun c=>decide (c &&& bnd N f≠0));rw[show(D19 (D14 es (bnd N f)) N).filter (fun c=>decide (c &&& bnd N f≠0))=Z20 es N f from rfl] at E;unfold D94
 cases J:(Z20 es N f).find? (fun c=>decide (Z2 l c=0)) with
 | none=>
  have:=List.find?_eq_none.1 J c hc;rw[M34.2 hl] at this;simp at this
 | some d=>
  have h1:=List.find?_some J;have h2:=List.mem_of_find?_eq_some J;have h3:=M34.1 (of_decide_eq_true h1);have:d=c:=by
   obtain⟨i,hi,rfl⟩:=gL h2;obtain⟨j,hj,rfl⟩:=gL hc;rcases Nat.lt_trichotomy i j with h | h | h
   .have:=fD.1 E i j hi hj h u (h3 u hu)
    rw[hl u hu] at this;cases this
   .subst h;rfl
   .have:=fD.1 E j i hj hi h u (hl u hu)
    rw[h3 u hu] at this;cases this
  rw[this]
def orF(es:List Nat)(i:Nat):Nat:=(es.take i).foldl (fun a e=>a ||| e) 0
theorem C47{es:List Nat}{i e:Nat}(h:es[i]? = some e):orF es (i+1)=orF es i ||| e:=by
 unfold orF;rw[C7 h,List.foldl_append];rfl
theorem X37{es:List Nat}{w:Nat}:(orF es es.length).testBit w=true<->∃ e ∈ es,e.testBit w=true:=by
 have key:∀(l:List Nat) (a:Nat),(l.foldl (fun a e=>a ||| e) a).testBit w=true<->a.testBit w=true\/∃ e ∈ l,e.testBit w=true:=by
  intro l
  induction l with
  | nil=>intro a;simp
  | cons x l ih=>
   intro a;rw[dF,ih,aV,cO];simp only[aU,exists_eq_or_imp,or_assoc]
 unfold orF;rw[List.take_length,key];simp
theorem R58{es:List Nat}{N:Nat}(h:∀ e ∈ es,e<2^N):∀ i,i<=es.length->orF es i<2^N
 | 0,_=>aQ _
 | i+1,hi=>by
  rw[C47 (aE (show i<es.length by omega))];exact Z26 (R58 h i (by omega)) (h _ (List.getElem_mem _))
def wI(es:List Nat)(N f i:Nat):Rat:=((Z20 es N f).take i).foldl (fun w c=>gr w (M45 N (Y25 es (B2 es N) N c) c)) (fwI es N (B50 es N f (upK f (N-f))) f)
def N64(es:List Nat)(N f:Nat):Rat:=wI es N f (Z20 es N f).length
def R82(es:List Nat)(N f:Nat):List Int:=W85 es (B2 es N) N (N64 es N f) (Z20 es N f)
theorem R97{es:List Nat}{N f i c:Nat}(h:(Z20 es N f)[i]? = some c):wI es N f (i+1)=gr (wI es N f i) (M45 N (Y25 es (B2 es N) N c) c):=by
 unfold wI;rw[C7 h,List.foldl_append];rfl
theorem Q89{es nb:List Nat}{N c:Nat}(E:es.length<=8)(l:Nat):U15 (M45 N (Y25 es nb N c) l) 100000:=(K77 (Y75 _ (by omega)) (fun v l=>B65 es N _ E) l).1
theorem W95{es:List Nat}{N f:Nat}(hf:f<=N)(E:es.length<=8):∀ i,i<=(Z20 es N f).length->U15 (wI es N f i) 100000
 | 0,_=>N84 E f (by rw[U74];exact hf)
 | i+1,hi=>by
  rw[R97 (aE (show i<(Z20 es N f).length by omega))];exact E78 (W95 hf E i (by omega)) (Q89 E _)
def N110:Value := .agg ⟨[.bool false,.slice none 0 0,.slice none 0 0]⟩
theorem M96{N f cap:Nat}{A:Option Addr}{es:List Nat}{H:Y0}{nx:Nat}(hS:Sl H nx A (K12 es))(hN:N<=6)(hf:f<=N)(U:∀ e ∈ es,e<2^N)(ai:es.length<=8):
  Q2 Tryz.prog 16 [gv N A es.length cap,.int .i64 (f:Int)] H nx fun r H' nx'=>D0 H nx H' nx' /\
   ((orF es es.length≠2^N-1/\r = .tuple ⟨[.slice none 0 0,N110,.int .i64 9]⟩) \/
    (orF es es.length=2^N-1/\∃ B w,r = .tuple ⟨[.slice B (R82 es N f).length (R82 es N f).length,w,.int .i64 0]⟩/\Sl H' nx' B (U4 (R82 es N f))/\RR H' nx' w (N64 es N f))):=by
 have ek:2^N<=64:=aK (n:=2) (by omega) hN;have eu:0<2^N:=aQ N;have ee:2^f<=2^N:=aK (n:=2) (by omega) hf;have f4:0<2^f:=aQ f;have av:U14 es:=fun e he=>by have:=U e he;omega
 have dk:Q6 (N:Int) (f:Int) es=0:=by
  unfold Q6;rw[V11 (by omega) (by omega) fun i e he=>U e (aH he)];simp;omega
 have e3:N3 N es=0:=V11 (by omega) (by omega) fun i e he=>U e (aH he)
 have cg:∀ k:VP,U11 [.bool false,.slice none 0 0,.slice none 0 0] [(0,1),(1,1),(2,1)] [] k=k (.agg ⟨[.bool false,.slice none 0 0,.slice none 0 0]⟩):=fun k=>V14 _ _
 refine spec16 ?_;unfold F16;simp(config:={ maxSteps:=2000000 }) (disch:=first|omega|assumption)only[W0,Z0,Q0.val,C13];generalize hK:hs (hs H nx (some (.cells [.int .i64 N,.slice A es.length cap] 0))) (nx+1) (some (.cells [.bool false,.slice none 0 0,.slice none 0 0] 0))=K;have k2:J0 K nx=some (.cells [.int .i64 N,.slice A es.length cap] 0):=by rw[<- hK,Z1 _ (by omega),Z11]
 have k5:J0 K (nx+1)=some (.cells [.bool false,.slice none 0 0,.slice none 0 0] 0):=by rw[<- hK,Z11]
 have dc:D0 H nx K (nx+1+1):=by
  rw[<- hK];exact(((D0.refl H nx).new _ (by omega) (by omega):D0 H nx _ (nx+1)).new _ (by omega) (by omega))
 clear hK;refine R0 (U86 N f A es cap _ _ (hS.ext dc) av) ?_;rintro _ H3 ff ⟨rfl,b5⟩;have d1:decide (Q6 (N:Int) (f:Int) es≠0)=false:=by simp[dk]
 have g2:=(b5.get nx (by omega)).trans k2;have g5:=(b5.get (nx+1) (by omega)).trans k5;have el:=b5.le;have bk:=dc.trans b5;simp(config:={ maxSteps:=2000000 }) (disch:=first|omega|assumption)only[W0,d1,g2];refine R0 (C90 (n:=N) (by omega) _ _) ?_;rintro _ _ _ ⟨rfl,rfl,rfl⟩;refine R0 (C90 (n:=f) (by omega) _ _) ?_;rintro _ _ _ ⟨rfl,rfl,rfl⟩;have cy:2^N-1<4294967296:=by omega
 have ed:2^f-1<4294967296:=by omega
 have da:Z2 (2^N-1) (2^f-1)<4294967296:=U10 cy;simp(config:={ maxSteps:=2000000 }) (disch:=first|omega|assumption)only[W0,g2,C13];rw[show Z2 (2^N-1) (2^f-1)=bnd N f from rfl] at *
 refine R0 (V99 (hS.ext bk) hN U ai da) ?_;rintro _ H7 fa ⟨⟨B7,rfl,dl⟩,dx⟩;have f9:=K46 es (bnd N f);refine R0 (U41 dl hN (U67 U) (by omega)) ?_;rintro _ H8 c3 ⟨⟨B8,rfl,e8⟩,dh⟩;have a4:=dx.trans dh;have em:=a4.le;have e7:=(a4.get nx (by omega)).trans g2;have dv:=(a4.get (nx+1) (by omega)).trans g5;have d2:=bk.trans a4;obtain⟨cn,f7,fb⟩:=M56 (es:=D14 es (bnd N f)) hN;have ew:(D19 (D14 es (bnd N f)) N).length<=N:=E40 _ _ _ _;have c7:Z20 es N f=(D19 (D14 es (bnd N f)) N).filter fun c=>decide (c &&& bnd N f≠0):=rfl
 generalize D19 (D14 es (bnd N f)) N=cs at *
 simp(config:={ maxSteps:=2000000 }) (disch:=first|omega|assumption)only[W0];refine B1 (m:=cs.length) (fun m L H' nx'=>∃(i:Nat) (v:Value),m+i=cs.length/\L=[v,.int .i64 (i:Int)]/\Acc c3 H' nx' 1 v ((cs.take i).filter fun c=>decide (c &&& bnd N f≠0)).length (K12 ((cs.take i).filter fun c=>decide (c &&& bnd N f≠0)))/\D0 H8 c3 H' nx') ?_
  ⟨0,.slice none 0 0,by omega,rfl,Acc.nil _ _ _ _,D0.refl _ _⟩
 rintro m ih L H9 E ⟨i,v,hm,rfl,hA,a3⟩ bz;have ej:=a3.le
 by_cases hi:i<cs.length
 .have b3:(i:Int)<(cs.length:Int):=by omega
  obtain⟨c,hc⟩:∃ c,cs[i]? = some c:=⟨_,aE hi⟩
  obtain⟨B,o,row,rfl,cz,V,Z⟩:=(e8.ext a3).open (i:=i) (by rw[E1];omega);have q0:=Z _ _ (Q3 hc);obtain⟨cv,_,e9⟩:=cn c (aH hc);have cf:c<64:=by have:=e9.lt;omega
  have eo:c<4294967296:=by omega
  have en:E9 c<=6:=Q15 _ _;have W:(cs.take (i+1)).filter (fun c=>decide (c &&& bnd N f≠0))=(cs.take i).filter (fun c=>decide (c &&& bnd N f≠0))++(if c &&& bnd N f=0 then [] else [c]):=by
   rw[C7 hc,List.filter_append];congr 1
   by_cases h0:c &&& bnd N f=0<;>simp[h0]
  have fd:((cs.take i).filter fun c=>decide (c &&& bnd N f≠0)).length<=6:=by
   have:=List.length_filter_le (fun c=>decide (c &&& bnd N f≠0)) (cs.take i);rw[cK] at this;omega
  by_cases h0:c &&& bnd N f=0
  .rw[if_pos h0,List.append_nil] at W
   simp(config:={ maxSteps:=2000000 }) (disch:=first|omega|assumption)only[W0,b3,X3 V,q0,N13,h0];exact bz (m-1) _ _ _ (by omega) ⟨i+1,v,by omega,by simp,by rw[W];exact hA,a3⟩
  .rw[if_neg h0] at W
   have dn:¬ ((c &&& bnd N f:Nat):Int)=0:=by omega
   simp(config:={ maxSteps:=2000000 }) (disch:=first|omega|assumption)only[W0,b3,X3 V,q0,N13,dn];refine R0 (R44 cf _ _) ?_;rintro _ co au ⟨rfl,ap⟩;have dt:¬ (E9 c:Int) > 8:=by omega
   simp(config:={ maxSteps:=2000000 }) (disch:=first|omega|assumption)only[W0,dt,Y48];have ba:D0 co au (hs co au (some (.cells [.int .u32 (c:Int)] 0))) (au+1):=(D0.refl _ _).new _ (aD _) (by omega);have dy:=ap.le;refine Y20 (H0:=H8) (lo:=c3) (m:=1) (l:=[.int .u32 (c:Int)]) (by omega) ((hA.ext ap).ext ba) (J9 (Z11 _ _ _) rfl (by omega)) (by omega) rfl (by omega) (by omega) ((a3.trans ap).trans ba) (by omega) ?_;intro v' H' di du _;refine bz (m-1) _ _ _ (by omega) ⟨i+1,v',by omega,by simp,?_,du⟩;rw[W,Y22,bH];exact di
 have b3:¬ (i:Int)<(cs.length:Int):=by omega
 rw[D23 hi,<- c7] at hA;clear bz;obtain⟨CA,rfl,e5⟩:=hA.sl;have ag:=(a3.get nx (by omega)).trans e7;have c8:=(a3.get (nx+1) (by omega)).trans dv;have a2:=d2.trans a3;simp(config:={ maxSteps:=2000000 }) (disch:=first|omega|assumption)only[W0,b3,ag];have b8:=R58 U;refine B1 (m:=es.length) (fun m L H' nx'=>∃ i:Nat,m+i=es.length/\L=[.int .u32 (orF es i:Int),.int .i64 (i:Int)]/\H9=H'/\E=nx') ?_ ⟨0,by omega,rfl,rfl,rfl⟩;rintro m2 f0 L2 _ _ ⟨i2,fe,rfl,rfl,rfl⟩ bo
 by_cases dw:i2<es.length
 .have an:(i2:Int)<(es.length:Int):=by omega
  obtain⟨e,he⟩:∃ e,es[i2]? = some e:=⟨_,aE dw⟩
  obtain⟨B,o,row,rfl,cz,V,Z⟩:=(hS.ext a2).open (i:=i2) (by rw[E1];omega);have q0:=Z _ _ (Q3 he);have eh:=av.get he;have h1:=b8 i2 (by omega);have ec:orF es i2<4294967296:=by omega
  simp(config:={ maxSteps:=2000000 }) (disch:=first|omega|assumption)only[W0,an,X3 V,q0];exact bo (m2-1) _ _ _ (by omega) ⟨i2+1,by omega,by rw[C47 he];simp,rfl,rfl⟩
 have an:¬ (i2:Int)<(es.length:Int):=by omega
 obtain rfl:i2=es.length:=by omega
 clear bo;simp(config:={ maxSteps:=2000000 }) (disch:=first|omega|assumption)only[W0,an,ag];refine R0 (C90 (n:=N) (by omega) _ _) ?_;rintro _ _ _ ⟨rfl,rfl,rfl⟩;have et:=b8 es.length (aD _)
 by_cases bw:orF es es.length=2^N-1
 case neg=>
  have cq:¬ (orF es es.length:Int)=((2^N-1:Nat):Int):=by omega
  simp(config:={ maxSteps:=2000000 }) (disch:=first|omega|assumption)only[W0,Z0,Nat.reduceAdd,cq,ne_eq,not_false_eq_true,cg,c8,D7,Y12];exact⟨a2.hs (by omega),.inl ⟨bw,rfl⟩⟩
 have az:∀ w,w<N->∃ e ∈ es,e.testBit w=true:=fun w hw=>X37.1 (by rw[bw,dC];simpa using hw)
 simp(config:={ maxSteps:=2000000 }) (disch:=first|omega|assumption)only[W0,bw,ne_eq,not_true_eq_false,ag,C13];have cd:D0 H nx H9 (E+8):=a2.more (by omega);refine R0 (W106 (n:=N) (by omega) A es cap _ _ (hS.ext cd) U (by omega) e3) ?_;rintro _ dq a5 ⟨rfl,ae⟩;have e2:=ae.le;have cj:=(ae.get nx (by omega)).trans ag;have eg:=(ae.get (nx+1) (by omega)).trans c8;have d9:=N9 es N;simp(config:={ maxSteps:=2000000 }) (disch:=first|omega|assumption)only[W0,Z0,E66,R98 d9,cj,C13];have ct:Z0 (K12 (B2 es N)++[Value.map (some (E+3)),Value.map (some (E+4))])=true:=E83 0 none 0 0 _ _ _;refine(@if_pos _ _ ct _ _ _).mpr ?_;generalize a1:hs (hs (hs dq (E+6) (some (.cells (.int .i64 N :: .slice A es.length cap :: (K12 (B2 es N)++[.map (some (E+3)),.map (some (E+4))])) 0))) (E+4) (some (.map [] 0))) (E+3) (some (.map [] 0))=H22;have s6:J0 H22 (E+6)=some (.cells (E75 N A es.length cap (B2 es N) (E+3) (E+4)) 0):=by rw[<- a1,Z1 _ (by omega),Z1 _ (by omega),Z11];rfl
 have s4:J0 H22 (E+4)=some (.map [] 0):=by rw[<- a1,Z1 _ (by omega),Z11]
 have s3:J0 H22 (E+3)=some (.map [] 0):=by rw[<- a1,Z11]
 have Q:D0 H9 E H22 a5:=by
  rw[<- a1];exact((((D0.self (by omega):D0 H9 E H9 (E+8)).trans ae).hs (by omega)).hs (by omega)).hs (by omega)
 have ei:=(Q.get nx (by omega)).trans ag;have d5:=(Q.get (nx+1) (by omega)).trans c8;clear a1;have c4:SV H22 a5 (E+6) (E+3) (E+4) N A cap es (B2 es N) (D94 es N f):=
  ⟨s6,by omega,by omega,by omega,d9,(hS.ext a2).ext Q,⟨_,U29.nil s3,fun n v h=>by cases h⟩,⟨_,U29.nil s4,fun n v h=>by cases h⟩,by omega⟩
 have ay:∀ c ∈ Z20 es N f,c<2^N:=fun c hc=>by
  rw[c7] at hc;obtain⟨v,_,hI⟩:=cn c (dA.1 hc).1;exact hI.lt
 have d4:(Z20 es N f).length<=32:=by
  have:=List.length_filter_le (fun c=>decide (c &&& bnd N f≠0)) cs;rw[<- c7] at this;omega
 have hL:∀ c ∈ Z20 es N f,∀ l,l≠0->(∀ w,l.testBit w=true->c.testBit w=true)->D94 es N f l=M45 N (Y25 es (B2 es N) N c) l:=fun c hc l h0 hl=>J108 hN hc h0 hl
 have ck:=fun i hi=>W95 (es:=es) hf ai i hi
 have eb:wI es N f 0=fwI es N (B50 es N f (upK f (N-f))) f:=rfl;have dm:=fun i c h=>R97 (es:=es) (N:=N) (f:=f) (i:=i) (c:=c) h
 have bv:=e5.ext Q;have c6:=a2.trans Q;refine R0 (G95 c4 hN U ai az hf) ?_;rintro fc b4 J ⟨ac,bf,al⟩;rw[<- eb] at ac;obtain⟨aj,rfl,ab⟩:=ac.num;have e6:=al.le;have a9:D0 b4 J (hs (hs b4 J (some (.cells [.bool false,.slice none 0 0,.slice none 0 0] 0))) J (some (.cells aj 0))) (J+1):=((D0.refl _ _).new _ (aD _) (m:=J+1) (by omega)).hs (aD _);have e0:J0 (hs (hs b4 J (some (.cells [.bool false,.slice none 0 0,.slice none 0 0] 0))) J (some (.cells aj 0))) J=some (.cells aj 0):=Z11 _ _ _;simp(config:={ maxSteps:=2000000 }) (disch:=first|omega|assumption)only[W0,Nat.reduceAdd,ab.three,ab.one,G24 (show aj.length=[dU false,.slice none 0 0,.slice none 0 0].length from ab.three)];generalize hs (hs b4 J (some (.cells [.bool false,.slice none 0 0,.slice none 0 0] 0))) J (some (.cells aj 0))=H25 at *
 have df:=bf.ext a9;have dd:=al.trans a9.kp;have ce:=ac.ext a9;clear a9 bf al ac;have ca:=c4.ic;have bc:=c4.il;refine B1 (m:=(Z20 es N f).length) (fun m L' H' nx'=>∃(i:Nat) (c:List Value),m+i=(Z20 es N f).length/\L'=[.int .i64 (i:Int)]/\SV H' nx' (E+6) (E+3) (E+4) N A cap es (B2 es N) (D94 es N f)/\Kp H22 a5 (E+3) (E+4) H' nx'/\J+1<=nx'/\V7 c/\J0 H' J=some (.cells c 0)/\RR H' nx' (.agg ⟨c⟩) (wI es N f i)) ?_
  ⟨0,aj,by omega,rfl,df,dd,aD _,ab,e0,ce⟩
 rintro m3 ey L3 ao a0 ⟨i3,c,f5,rfl,cu,ak,dg,hc,ah,a6⟩ bh;have aq:=bv.kp ak ca bc
 by_cases dz:i3<(Z20 es N f).length
 .have aw:(i3:Int)<((Z20 es N f).length:Int):=by omega
  obtain⟨cc,bu⟩:∃ cc,(Z20 es N f)[i3]? = some cc:=⟨_,aE dz⟩
  obtain⟨B,o,row,rfl,cz,V,Z⟩:=aq.open (i:=i3) (by rw[E1];omega);have q0:=Z _ _ (Q3 bu);have bg:=aH bu;have d8:=ay cc bg;simp(config:={ maxSteps:=2000000 }) (disch:=first|omega|assumption)only[W0,aw,X3 V,q0,ah,X15 hc];have hX:D0 ao a0 ao (a0+7):=D0.self (by omega);have O:=cu.ext hX;refine R0 (V88 hN U ai N30 az d8 (hL cc bg) cc d8 (fun w hw=>hw) ao (a0+7) O) ?_;rintro f6 f8 ep ⟨d6,dp,ad⟩;have d3:=ad.cell O.ic O.il (by omega) ah;have dj:=ad.le;have ci:=(a6.ext hX).kp ad O.ic O.il;refine R0 (G82 ci d6 (ck i3 (by omega)) (Q89 ai _)) ?_;rintro ez f3 ef ⟨bt,a8⟩;obtain⟨d0,rfl,a7⟩:=bt.num;have bx:=(a8.get J (by omega)).trans d3;have de:=a8.le;simp(config:={ maxSteps:=2000000 }) (disch:=first|omega|assumption)only[W0,bx,d3,X15 hc,a7.three,a7.one,G24 (show d0.length=c.length by rw[a7.three,hc.three])];refine⟨by rw[hc.three];omega,bh (m3-1) _ _ _ (by omega) ⟨i3+1,d0,by omega,by simp,(dp.ext a8).boxs bx (V7.noU hc) (by omega),((ak.trans (hX.kp.trans ad)).trans a8.kp).hs (.inl (by omega)),by omega,a7,Z11 _ _ _,?_⟩⟩;rw[dm i3 cc bu];exact bt.boxs bx (W81 hc) (.inl rfl)
 have aw:¬ (i3:Int)<((Z20 es N f).length:Int):=by omega
 obtain rfl:i3=(Z20 es N f).length:=by omega
 clear bh;have hX:D0 ao a0 ao (a0+8):=D0.self (by omega);have O:=cu.ext hX;have hb:N64 es N f=wI es N f (Z20 es N f).length:=rfl;rw[<- hb] at a6;have dr:U15 (N64 es N f) 100000:=ck _ (aD _);simp(config:={ maxSteps:=2000000 }) (disch:=first|omega|assumption)only[W0,aw,ah,X15 hc];refine R0 (R103 O hN U ai N30 az (aq.ext hX) (a6.ext hX) dr d4 ay hL) ?_;rintro _ cx bd ⟨⟨e1,rfl,db⟩,aa⟩;have ea:=aa.le;have cp:=(a6.ext hX).kp aa O.ic O.il;have e4:=aa.cell O.ic O.il (by omega) ah;have c9:Kp H22 a5 (E+3) (E+4) cx bd:=ak.trans (hX.kp.trans aa);have ax:=c9.cell ca bc (by omega) d5;simp(config:={ maxSteps:=2000000 }) (disch:=first|omega|assumption)only[W0,Nat.reduceAdd,e4,X15 hc,ax,hc.three,hc.one,G24 (show c.length=[dU false,.slice none 0 0,.slice none 0 0].length from hc.three)];have d7:D0 H nx cx bd:=⟨by have:=c9.le;omega,fun q hq=>(c9.get q (by omega) (by omega) (by omega)).trans (c6.get q hq)⟩
 refine⟨d7.hs (by omega),.inr ⟨e1,_,rfl,?_,cp.boxs ax (U47 rfl) (.inl rfl)⟩⟩;refine db.write ax fun x hx hr => ?_
 obtain⟨y,_,rfl⟩:=gN.1 hx;simp at hr
end Go.Proofs.YtoiioigihocgbaaGreatDoor
namespace Go.Clo
def nbB(aL:List Nat)(u w:Nat):Bool:=(aL.getD u 0).testBit w
def W84(aL:List Nat)(N to within:Nat):Nat->Nat->Nat->Nat->Nat
 | 0,_,_,_=>0
 | k+1,seen,b,st=>if b=0 then 0 else if (Z2 (Q4 aL b N &&& within) (seen ||| b)).testBit to=true then st else W84 aL N to within k (seen ||| b) (Z2 (Q4 aL b N &&& within) (seen ||| b)) (st+1)
def B75(aL:List Nat)(N u w within:Nat):Nat:=W84 aL N w within N 0 (2^u) 1
theorem B102(aL:List Nat)(N to within E st:Nat):∀ k,W84 aL N to within k E 0 st=0
 | 0=>rfl
 | k+1=>if_pos rfl
def cyD(d l:Nat):Nat:=if 0<d/\(l=0\/d+2<l) then d+2 else l
def D86(aL:List Nat)(N v u w:Nat):Nat:=(Z2 (Z2 (2^N-1) (aL.getD v 0)) (2^v) ||| 2^u) ||| 2^w
def cyW(aL:List Nat)(N v u l:Nat):Nat->Nat
 | 0=>l
 | w+1=>if (nbB aL v u&&nbB aL v w && !nbB aL u w)=true then cyD (B75 aL N u w (D86 aL N v u w)) (cyW aL N v u l w) else cyW aL N v u l w
def cyU(aL:List Nat)(N v l:Nat):Nat->Nat
 | 0=>l
 | u+1=>cyW aL N v u (cyU aL N v l u) u
def cyV(aL:List Nat)(N:Nat):Nat->Nat
 | 0=>0
 | v+1=>cyU aL N v (cyV aL N v) N
def Q90(start:Nat):Nat:=4294967295-(2^(start+1)-1)
def W87(aL:List Nat)(blk last:Nat):Nat:=(blk ||| aL.getD last 0) ||| 2^last
def Z91(aL:List Nat)(N k blk start last v:Nat):Bool:=
 (Z2 (aL.getD last 0 &&& Q90 start) blk).testBit v&&decide (B75 aL N v start ((Z2 (Q90 start) (W87 aL blk last) ||| 2^v) ||| 2^start)=k)
def exF(aL:List Nat)(N start:Nat):Nat->Nat->List Nat->Nat->List Nat
 | 0,_,p,_=>p
 | k+1,last,p,blk=>match (aY N).find? (Z91 aL N (k+1) blk start last) with
  | none=>[]
  | some v=>exF aL N start k v (p++[v]) (W87 aL blk last)
def scW(aL:List Nat)(N L s:Nat):Nat->List Nat
 | 0=>[]
 | j+1=>if scW aL N L s j=[]/\s<j/\nbB aL s j=true then exF aL N s (L-2) j [s,j] 0 else scW aL N L s j
def scV(aL:List Nat)(N L:Nat):Nat->List Nat
 | 0=>[]
 | s+1=>if scV aL N L s=[] then scW aL N L s N else scV aL N L s
def scF(aL:List Nat)(N:Nat):List Nat:=if cyV aL N N=0 then [] else scV aL N (cyV aL N N) N
def X78(cl rest:Nat)(s:Nat × Bool)(e:Nat):Nat × Bool:=if Z2 cl e=0/\(s.2=false\/E9 (Z2 rest e)<E9 s.1) then(Z2 rest e,true) else s
def C75(es:List Nat)(cl rest:Nat):Nat × Bool:=es.foldl (X78 cl rest) (0,false)
def X74(cl rest:Nat)(s:Nat × Nat)(e:Nat):Nat × Nat:=if Z2 cl e=0/\Z2 rest e &&& s.2=0 then(s.1+1,s.2 ||| Z2 rest e) else s
def C82(es:List Nat)(cl rest:Nat):Nat × Nat:=es.foldl (X74 cl rest) (0,0)
def N71(rest out:Nat):Nat->Nat
 | 0=>rest
 | v+1=>if out.testBit v=true then Z2 (N71 rest out v) (2^v) else N71 rest out v
def W51(es aL:List Nat)(N:Nat):Nat->Nat->Nat->Bool
 | 0,cl,rest => !(C75 es cl rest).2
 | c+1,cl,rest => !(C75 es cl rest).2 || (decide ((C75 es cl rest).1≠0)&&decide ((C82 es cl rest).1<=c+1) &&
   (aY N).any fun v=>(C75 es cl rest).1.testBit v&&W51 es aL N c (cl ||| 2^v) (N71 rest (C75 es cl rest).1 (v+1) &&& aL.getD v 0))
def B86(P:Nat->Bool):Nat->Nat->Nat
 | 0,L=>L
 | k+1,L=>if P L=true then L else B86 P k (L+1)
def W99(es aL:List Nat)(N L v:Nat)(s:List Nat × Nat × Nat):List Nat × Nat × Nat:=
 if s.2.2.testBit v=true then
  if s.1.length<L/\W51 es aL N (L-s.1.length-1) (s.2.1 ||| 2^v) (Z2 s.2.2 (2^v) &&& aL.getD v 0)=true then(s.1++[v],s.2.1 ||| 2^v,Z2 s.2.2 (2^v) &&& aL.getD v 0)
  else(s.1,s.2.1,Z2 s.2.2 (2^v))
 else s
def W76(es aL:List Nat)(N L lk:Nat):Nat->List Nat × Nat × Nat
 | 0=>([],0,lk)
 | v+1=>W99 es aL N L v (W76 es aL N L lk v)
def D83(es aL:List Nat)(N most:Nat):List Nat:=
 if Z7 es=0\/most<B86 (fun L=>W51 es aL N L 0 (Z7 es)) (most-2) 3 then [] else(W76 es aL N (B86 (fun L=>W51 es aL N L 0 (Z7 es)) (most-2) 3) (Z7 es) N).1
def X83:List Nat->List Nat->Int
 | [],[]=>0
 | [],_ :: _ => -1
 | _ :: _,[]=>1
 | a :: l,b :: m=>if a<b then -1 else if b<a then 1 else X83 l m
def X90(cy cq:List Nat):List Nat:=if cq=[] then cy else if cy=[]\/cq.length<cy.length\/X83 cq cy<0 then cq else cy
def Z74(es aL:List Nat)(N:Nat):List Nat:=X90 (scF aL N) (D83 es aL N (if scF aL N=[] then N else(scF aL N).length))
theorem M94{cl rest:Nat}:∀(es:List Nat) (s:Nat × Nat),(0<s.1\/(s.2=0/\∃ e ∈ es,Z2 cl e=0))->0<(es.foldl (X74 cl rest) s).1
 | [],s,h=>by
  rcases h with h | ⟨_,e,he,_⟩
  .exact h
  .simp at he
 | x :: es,s,h=>by
  rw[dF];refine M94 es _ ?_;rcases h with h | ⟨h0,e,he,h1⟩
  .left
   unfold X74
   split
   .show 0<s.1+1
    omega
   .exact h
  .unfold X74
   split
   .left
    show 0<s.1+1;omega
   .rename_i hn
    right;refine⟨h0,e,?_,h1⟩;rcases aU.1 he with h2 | h2
    .exfalso
     subst h2;refine hn ⟨h1,?_⟩;rw[h0,Nat.and_zero]
    .exact h2
theorem D93{cl rest:Nat}:∀(es:List Nat) (s:Nat × Bool),(es.foldl (X78 cl rest) s).2=true->s.2=true\/∃ e ∈ es,Z2 cl e=0
 | [],s,h => .inl h
 | x :: es,s,h=>by
  rw[dF] at h;rcases D93 es _ h with h1 | ⟨e,h1,h2⟩
  .unfold X78 at h1
   split at h1
   .rename_i h3
    exact .inr ⟨x,by simp,h3.1⟩
   .exact .inl h1
  .exact .inr ⟨e,by simp[h1],h2⟩
theorem Z107{es:List Nat}{cl rest:Nat}(h:(C75 es cl rest).2=true):0<(C82 es cl rest).1:=by
 rcases D93 es _ h with h1 | h1
 .cases h1
 .exact M94 es _ (.inr ⟨rfl,h1⟩)
theorem X91{N cl rest:Nat}(hr:rest<2^N):∀(es:List Nat) (s:Nat × Bool),s.1<2^N->(es.foldl (X78 cl rest) s).1<2^N
 | [],s,h=>h
 | x :: es,s,h=>by
  rw[dF];refine X91 hr es _ ?_;unfold X78
  split
  .exact Z6 hr
  .exact h
theorem E98{N cl rest:Nat}(hr:rest<2^N):∀(es:List Nat) (s:Nat × Nat),s.2<2^N->(es.foldl (X74 cl rest) s).2<2^N
 | [],s,h=>h
 | x :: es,s,h=>by
  rw[dF];refine E98 hr es _ ?_;unfold X74
  split
  .exact Z26 h (Z6 hr)
  .exact h
theorem V98{cl rest:Nat}:∀(es:List Nat) (s:Nat × Nat),(es.foldl (X74 cl rest) s).1<=s.1+es.length
 | [],s=>by simp
 | x :: es,s=>by
  rw[dF];have:=V98 (cl:=cl) (rest:=rest) es (X74 cl rest s x);have h2:(X74 cl rest s x).1<=s.1+1:=by
   unfold X74
   split
   .exact aD _
   .omega
  rw[cV];omega
theorem D85{N rest out:Nat}(hr:rest<2^N):∀ v,N71 rest out v<2^N
 | 0=>hr
 | v+1=>by
  unfold N71
  split
  .exact Z6 (D85 hr v)
  .exact D85 hr v
theorem W37 {a b N:Nat} (h:a<2^N):a &&& b<2^N:=Nat.lt_of_le_of_lt Nat.and_le_left h
end Go.Clo
namespace Go.Proofs.YtoiioigihocgbaaGreatDoor
open Go.Clo
section
variable (a0 a1 a2 a3 a4 a5:Value) (H:Y0) (nx:Nat) (k:EP)
def F65:Prop:=
 M12 a1 H nx fun b c d=>
 M2 (d+4) fun d=>
 D10 .shl u1 a2 fun e=>
 wK True (
 G3 (fun c d e f=>
 D10 .neq d.b u0 fun g=>
 K2 g (
 D10 .or d.a d.b fun g=>
 G3 (fun e f h i=>
 D10 .lss f.b a0 fun j=>
 K2 j (
 V4 (fun c=>
 D10 .shr d.b f.b fun d=>
 D10 .and d u1 fun d=>
 D10 .eql d u1 fun d=>
 K2 d (
 M3 b f.b (some 32) 1 fun b=>
 J1 b none h fun b=>
 D10 .or f.a b fun b=>
 c [b] h i) (
 c [f.a] h i)) (fun b c d=>
 D10 .add f.b i1 fun f=>
 e [b.a,f] c d)) (
 D10 .and f.a a4 fun b=>
 D10 .andNot b g fun b=>
 D10 .shr b a3 fun e=>
 D10 .and e u1 fun e=>
 D10 .eql e u1 fun e=>
 K2 e (
 Rt d.c h i k) (
 D10 .add d.c i1 fun d=>
 c [g,b,d] h i))) [u0,i0] e f) (
 Rt i0 e f k)) [u0,e,i1] c d)
def F63:Prop:=
 M12 a1 H nx fun b c d=>
 G3 (fun c d e f=>
 D10 .lss d.b a0 fun g=>
 K2 g (
 G3 (fun e f g h=>
 D10 .lss f.b a0 fun i=>
 K2 i (
 G3 (fun c g h i=>
 D10 .lss g.b f.b fun j=>
 K2 j (
 V4 (fun c=>
 V4 (fun c=>
 M3 b d.b (some 32) 1 fun e=>
 J1 e none h fun e=>
 D10 .shr e f.b fun e=>
 D10 .and e u1 fun e=>
 D10 .eql e u0 fun e=>
 K3 false e (
 M3 b d.b (some 32) 1 fun d=>
 J1 d none h fun d=>
 D10 .shr d g.b fun d=>
 D10 .and d u1 fun d=>
 D10 .eql d u0 fun d=>
 K3 false d (
 M3 b f.b (some 32) 1 fun b=>
 J1 b none h fun b=>
 D10 .shr b g.b fun b=>
 D10 .and b u1 fun b=>
 D10 .eql b u1 fun b=>
 c [b] h i) (
 c [bT] h i)) (
 c [bT] h i)) (fun e h i=>
 K2 e.a (
 c [g.a] h i) (
 M2 (i+16) fun e=>
 Y2 Tryz.prog 61 [a0] h e fun e i j=>
 M3 b d.b (some 32) 1 fun l=>
 J1 l none i fun m=>
 D10 .andNot e m fun e=>
 D10 .shl u1 d.b fun d=>
 D10 .andNot e d fun d=>
 D10 .shl u1 f.b fun e=>
 D10 .or d e fun d=>
 D10 .shl u1 g.b fun e=>
 D10 .or d e fun d=>
 wK (tB ((cE l none i m)/\(tB (cE l none h m)))) (
 J1 b (some 32) i fun b=>
 Y2 Tryz.prog 65 [a0,b,f.b,g.b,d] i j fun b d e=>
 V4 (fun c=>
 D10 .gtr b i0 fun f=>
 K3 true f (
 D10 .eql g.a i0 fun f=>
 K3 false f (
 D10 .add b (.int .i64 2) fun b=>
 D10 .lss b g.a fun b=>
 c [b] d e) (
 c [bT] d e)) (
 c [bF] d e)) (fun d e f=>
 K2 d.a (
 D10 .add b (.int .i64 2) fun b=>
 c [b] e f) (
 c [g.a] e f)))))) (fun b d e=>
 D10 .add g.b i1 fun f=>
 c [b.a,f] d e)) (
 D10 .add f.b i1 fun b=>
 e [g.a,b] h i)) [f.a,i0] g h) (
 D10 .add d.b i1 fun b=>
 c [f.a,b] g h)) [d.a,i0] e f) (
 Rt d.a e f k)) [i0,i0] c d
def F64:Prop:=
 R4 a0 0 H fun b=>
 J1 a2 none H fun c=>
 D10 .eql b c fun b=>
 K2 b (
 Rt a0 H nx k) (
 M2 (nx+11) fun b=>
 U6 a0 i0 H fun c d=>
 R4 a0 0 H fun e=>
 D10 .sub e i1 fun f=>
 U6 a0 f H fun f g=>
 wK ((tB (cE f none H g))/\((tB (R4 a0 0 H fun b=>b=e))/\(tB (tB (cE c none H d))))) (
 D10 .add d i1 fun c=>
 Y2 Tryz.prog 61 [c] H b fun b c e=>
 wUn .xor b fun b=>
 M2 (e+9) fun e=>
 M3 a3 g (some 32) 1 fun f=>
 J1 f none c fun h=>
 D10 .or a1 h fun i=>
 D10 .shl u1 g fun j=>
 D10 .or i j fun i=>
 wK (tB (tB (cE f none c h))) (
 J1 a4 none c fun f=>
 G3 (fun c e h j=>
 D10 .lss e.a f fun f=>
 K2 f (
 V4 (fun c=>
 M3 a3 g (some 32) 1 fun f=>
 J1 f none h fun f=>
 D10 .and f b fun f=>
 D10 .andNot f a1 fun f=>
 D10 .shr f e.a fun f=>
 D10 .and f u1 fun f=>
 D10 .eql f u0 fun f=>
 K2 f (
 c [] h j) (
 M2 (j+10) fun f=>
 D10 .andNot b i fun b=>
 D10 .shl u1 e.a fun g=>
 D10 .or b g fun b=>
 D10 .shl u1 d fun g=>
 D10 .or b g fun b=>
 wK True (
 M2 (f+11) fun f=>
 J1 a4 none h fun g=>
 J1 a3 (some 32) h fun j=>
 Y2 Tryz.prog 65 [g,j,e.a,d,b] h f fun b d f=>
 J1 a2 none d fun l=>
 R4 a0 0 d fun m=>
 D10 .sub l m fun n=>
 D10 .eql b n fun b=>
 wK (((R4 a0 0 d fun b=>b=m)/\(tB (R4 a0 0 h fun b=>b=m)))/\(((cE a2 none d l)/\(tB (cE a2 none h l)))/\((tA (tB (cE a3 (some 32) h j)))/\(tB (tA (tB (cE a4 none h g))))))) (
 K2 b (
 M2 (f+8) fun b=>
 J1 a5 none d fun c=>
 K6 1 1 [.int .i64 0] [(0,e.a)] fun e=>wNm f 3 (.slice 1 1) fun g=>
 E6 d (f+3) (some (.cells e 0)) fun e=>B5 a0 g 1 8 e b fun b e f=>
 M33 Tryz.prog c [b,i] e f fun b f g=>
 wK (tB (tA ((cE a5 none e c)/\(tB (cE a5 none d c))))) (
 Rt b f g k)) (
 c [] d f))))) (fun _ b d=>
 D10 .add e.a i1 fun e=>
 c [e] b d)) (
 Rt (.slice none 0 0) h j k)) [i0] c e)))
def F30:Prop:=
 M12 a0 H nx fun b c d=>
 M12 a1 c d fun c d e=>
 J1 b none d fun f=>
 J1 c (some 32) d fun g=>
 Y2 Tryz.prog 63 [f,g] d e fun d e f=>
 wAl [.int .i64 0] e f fun e f g=>
 D5 e d 1 f fun d=>
 J1 e none d fun f=>
 D10 .eql f i0 fun f=>
 K2 f (
 Rt (.slice none 0 0) d g k) (
 wAl [.nilFunc] d g fun d f g=>
 D5 d (.func (.func 64) ⟨[]⟩ ⟨[e,c,b,d]⟩) 1 f fun e=>
 J1 b none e fun f=>
 G3 (fun e g h i=>
 D10 .lss g.a f fun f=>
 K2 f (
 J1 b none h fun b=>
 G3 (fun f h i j=>
 D10 .lss h.a b fun b=>
 K2 b (
 V4 (fun b=>
 V4 (fun b=>
 D10 .gtr h.a g.a fun d=>
 K3 true d (
 M3 c g.a (some 32) 1 fun c=>
 J1 c none i fun c=>
 D10 .shr c h.a fun c=>
 D10 .and c u1 fun c=>
 D10 .eql c u1 fun c=>
 b [c] i j) (
 b [bF] i j)) (fun c e f=>
 K2 c.a (
 J1 d none e fun c=>
 D24 2 1 [.int .i64 0] [(0,g.a),(1,h.a)] e f fun d e f=>
 M33 Tryz.prog c [d,u0] e f fun c d e=>
 D9 (.eqn true (.slice 3)) [c,(.slice none 0 0)] fun f=>
 K2 f (
 Rt c d e k) (
 b [] d e)) (
 b [] e f))) (fun _ b c=>
 D10 .add h.a i1 fun d=>
 f [d] b c)) (
 D10 .add g.a i1 fun b=>
 e [b] i j)) [i0] h i) (
 Rt (.slice none 0 0) h i k)) [i0] e g)
def F91:Prop:=
 Y2 Tryz.prog 44 [a0] H nx fun b c d=>
 Rt b c d k
def F67:Prop:=
 M12 a0 H nx fun b c d=>
 wFl b 1 c fun _ b=>
 R4 b 0 c fun e=>
 G3 (fun c d f g=>
 D10 .lss d.c e fun e=>
 K2 e (
 V4 (fun c=>
 U6 b d.c f fun _ b=>
 V4 (fun c=>
 D10 .andNot a1 b fun e=>
 D10 .eql e u0 fun e=>
 K3 true e (
 wUn .not d.b fun e=>
 K3 false e (
 D10 .andNot a2 b fun b=>
 Y2 Tryz.prog 91 [b] f g fun b e f=>
 Y2 Tryz.prog 91 [d.a] e f fun d e f=>
 D10 .lss b d fun b=>
 c [b] e f) (
 c [bT] f g)) (
 c [bF] f g)) (fun e f g=>
 K2 e.a (
 D10 .andNot a2 b fun b=>
 c [b,bT] f g) (
 c [d.a,d.b] f g))) (fun b e f=>
 D10 .add d.c i1 fun d=>
 c [b.a,b.b,d] e f)) (
 Rt (.tuple ⟨[d.a,d.b]⟩) f g k)) [u0,bF,i0] c d
def F68:Prop:=
 M12 a0 H nx fun b c d=>
 wFl b 1 c fun _ b=>
 R4 b 0 c fun e=>
 G3 (fun c d f g=>
 D10 .lss d.c e fun e=>
 K2 e (
 V4 (fun c=>
 U6 b d.c f fun _ b=>
 V4 (fun c=>
 D10 .andNot a1 b fun e=>
 D10 .eql e u0 fun e=>
 K3 true e (
 D10 .andNot a2 b fun b=>
 D10 .and b d.b fun b=>
 D10 .eql b u0 fun b=>
 c [b] f g) (
 c [bF] f g)) (fun e f g=>
 K2 e.a (
 D10 .add d.a i1 fun e=>
 D10 .andNot a2 b fun b=>
 D10 .or d.b b fun b=>
 c [e,b] f g) (
 c [d.a,d.b] f g))) (fun b e f=>
 D10 .add d.c i1 fun d=>
 c [b.a,b.b,d] e f)) (
 Rt d.a f g k)) [i0,u0,i0] c d
def F66:Prop:=
 J1 a3 (some 2) H fun b=>
 Y2 Tryz.prog 67 [b,a0,a1] H nx fun b c d=>
 G9 b 0 fun e=>
 G9 b 1 fun b=>
 wUn .not b fun b=>
 K2 b (
 Rt bT c d k) (
 V4 (fun b=>
 D10 .eql e u0 fun e=>
 K3 false e (
 J1 a3 (some 2) c fun e=>
 Y2 Tryz.prog 68 [e,a0,a1] c d fun c d e=>
 D10 .gtr c a2 fun c=>
 b [c] d e) (
 b [bT] c d)) (fun b c d=>
 K2 b.a (
 Rt bF c d k) (
 wFl a3 0 c fun _ b=>
 G3 (fun c d f g=>
 D10 .lss d.b b fun b=>
 K2 b (
 V4 (fun b=>
 D10 .shr e d.b fun c=>
 D10 .and c u1 fun c=>
 D10 .eql c u0 fun c=>
 K2 c (
 b [d.a] f g) (
 D10 .shl u1 d.b fun c=>
 D10 .andNot d.a c fun c=>
 M2 (g+13) fun e=>
 J1 a4 none f fun g=>
 D10 .shl u1 d.b fun h=>
 D10 .or a0 h fun h=>
 M3 a5 d.b (some 32) 1 fun d=>
 J1 d none f fun i=>
 D10 .and c i fun j=>
 D10 .sub a2 i1 fun l=>
 M33 Tryz.prog g [h,j,l] f e fun e h j=>
 wK ((tA (tB (cE d none f i)))/\(tB (tA (tB (cE a4 none f g))))) (
 K2 e (
 Rt bT h j k) (
 b [c] h j)))) (fun b e f=>
 D10 .add d.b i1 fun d=>
 c [b.a,d] e f)) (
 Rt bF f g k)) [a1,i0] c d)))
def F31:Prop:=
 M12 a0 H nx fun b c d=>
 M12 a1 c d fun c d e=>
 wFl b 1 d fun _ f=>
 R4 f 0 d fun g=>
 G3 (fun d e h i=>
 D10 .lss e.b g fun g=>
 K2 g (
 U6 f e.b h fun _ b=>
 D10 .or e.a b fun b=>
 D10 .add e.b i1 fun c=>
 d [b,c] h i) (
 D10 .eql e.a u0 fun d=>
 K2 d (
 Rt (.slice none 0 0) h i k) (
 wAl [.nilFunc] h i fun d f g=>
 D5 d (.func (.func 66) ⟨[]⟩ ⟨[b,d,c]⟩) 1 f fun f=>
 G3 (fun f g h i=>
 V4 (fun b=>
 D10 .leq g.a a2 fun c=>
 K3 true c (
 J1 d none h fun c=>
 M33 Tryz.prog c [u0,e.a,g.a] h i fun c d e=>
 wUn .not c fun c=>
 b [c] d e) (
 b [bF] h i)) (fun h i j=>
 K2 h.a (
 D10 .add g.a i1 fun b=>
 f [b] i j) (
 D10 .gtr g.a a2 fun f=>
 K2 f (
 Rt (.slice none 0 0) i j k) (
 wFl b 0 i fun _ b=>
 G3 (fun e f h i=>
 D10 .lss f.d b fun b=>
 K2 b (
 V4 (fun b=>
 D10 .shr f.c f.d fun e=>
 D10 .and e u1 fun e=>
 D10 .eql e u0 fun e=>
 K2 e (
 b [f.a,f.b,f.c] h i) (
 D10 .shl u1 f.d fun e=>
 D10 .andNot f.c e fun e=>
 V4 (fun b=>
 M2 (i+22) fun i=>
 R4 f.a 0 h fun j=>
 D10 .lss j g.a fun l=>
 K3 true l (
 J1 d none h fun l=>
 D10 .shl u1 f.d fun m=>
 D10 .or f.b m fun m=>
 M3 c f.d (some 32) 1 fun c=>
 J1 c none h fun n=>
 D10 .and e n fun e=>
 R4 f.a 0 h fun o=>
 D10 .sub g.a o fun g=>
 D10 .sub g i1 fun g=>
 M33 Tryz.prog l [m,e,g] h i fun e g i=>
 wK ((tA (tB (R4 f.a 0 h fun b=>b=o)))/\((tA (tB (cE c none h n)))/\((tA (tB (cE d none h l)))/\(tB (tA (tB (R4 f.a 0 h fun b=>b=j))))))) (
 b [e] g i)) (
 wK (tB (tB (R4 f.a 0 h fun b=>b=j))) (
 b [bF] h i))) (fun d g h=>
 K2 d.a (
 D24 1 1 [.int .i64 0] [(0,f.d)] g h fun d g h=>
 B5 f.a d 1 8 g h fun d g h=>
 D10 .shl u1 f.d fun i=>
 D10 .or f.b i fun i=>
 M3 c f.d (some 32) 1 fun c=>
 J1 c none g fun c=>
 D10 .and e c fun c=>
 b [d,i,c] g h) (
 b [f.a,f.b,e] g h)))) (fun b c d=>
 D10 .add f.d i1 fun f=>
 e [b.a,b.b,b.c,f] c d)) (
 Rt f.a h i k)) [(.slice none 0 0),u0,e.a,i0] i j)))) [(.int .i64 3)] f g))) [u0,i0] d e
def F32:Prop:=
 R4 a0 0 H fun b=>
 G3 (fun c d e f=>
 D10 .lss d.a b fun b=>
 K2 b (
 U6 a0 d.a e fun _ b=>
 R4 a1 0 e fun g=>
 D10 .geq d.a g fun g=>
 K2 g (
 Rt i1 e f k) (
 U6 a1 d.a e fun _ g=>
 Y2 Tryz.prog 69 [b,g] e f fun b e f=>
 D10 .neq b i0 fun g=>
 K2 g (
 Rt b e f k) (
 D10 .add d.a i1 fun b=>
 c [b] e f))) (
 R4 a0 0 e fun b=>
 R4 a1 0 e fun c=>
 D10 .lss b c fun b=>
 K2 b (
 Rt (.int .i64 (-1)) e f k) (
 Rt i0 e f k))) [i0] H nx
def F12:Prop:=
 M12 a0 H nx fun b c d=>
 J1 b (some 2) c fun e=>
 Y2 Tryz.prog 27 [e] c d fun c d e=>
 D10 .neq c i0 fun c=>
 K2 c (
 Rt (.tuple ⟨[(.slice none 0 0),bF]⟩) d e k) (
 J1 b (some 2) d fun c=>
 Y2 Tryz.prog 29 [c] d e fun c d e=>
 wAl z32 d e fun d e f=>
 D5 d c 32 e fun c=>
 wFl b 0 c fun _ e=>
 J1 d (some 32) c fun g=>
 Y2 Tryz.prog 30 [e,g] c f fun c e f=>
 R4 c 0 e fun g=>
 V4 (fun c=>
 D10 .eql g i0 fun d=>
 K2 d (
 wFl b 0 e fun _ b=>
 c [b] e f) (
 c [g] e f)) (fun e f g=>
 J1 b (some 2) f fun b=>
 J1 d (some 32) f fun d=>
 Y2 Tryz.prog 31 [b,d,e.a] f g fun b d e=>
 R4 b 0 d fun f=>
 D10 .eql f i0 fun f=>
 K2 f (
 R4 c 0 d fun b=>
 D10 .gtr b i0 fun b=>
 Rt (.tuple ⟨[c,b]⟩) d e k) (
 V4 (fun f=>
 R4 c 0 d fun g=>
 D10 .eql g i0 fun g=>
 K3 false g (
 R4 b 0 d fun g=>
 R4 c 0 d fun h=>
 D10 .lss g h fun g=>
 K3 false g (
 Y2 Tryz.prog 32 [b,c] d e fun b c d=>
 D10 .lss b i0 fun b=>
 f [b] c d) (
 f [bT] d e)) (
 f [bT] d e)) (fun d e f=>
 K2 d.a (
 Rt (.tuple ⟨[b,bT]⟩) e f k) (
 Rt (.tuple ⟨[c,bT]⟩) e f k)))))
variable {a0 a1 a2 a3 a4 a5 H nx k}
theorem spec65:F65 a0 a1 a2 a3 a4 H nx k->Q2 Tryz.prog 65 [a0,a1,a2,a3,a4] H nx k:=Q12 [(13,[14])] [[11,12,13],[14,26]] []
theorem spec63:F63 a0 a1 H nx k->Q2 Tryz.prog 63 [a0,a1] H nx k:=Q12 [(16,[5]),(19,[47]),(22,[80])] [[5,12],[5,16],[5,20]] [.one (.tst (.one (.tst (.one .nil) (.one .nil))) (.one (.one (.one .nil)))),.one (.tst (.tst (.one (.one .nil)) (.one (.one .nil))) (.one (.one (.one .nil))))]
theorem spec64:F64 a0 a1 a2 a3 a4 a5 H nx k->Q2 Tryz.prog 64 [a0,a1,a2,a3,a4,a5] H nx k:=Q12 [(11,[])] [[42]] []
theorem spec30:F30 a0 a1 H nx k->Q2 Tryz.prog 30 [a0,a1] H nx k:=Q12 [(16,[]),(18,[35])] [[17],[21]] [.one (.tst (.one .nil) (.one .nil))]
theorem spec91:F91 a0 H nx k->Q2 Tryz.prog 91 [a0] H nx k:=Q12 [] [] []
theorem spec67:F67 a0 a1 a2 H nx k->Q2 Tryz.prog 67 [a0,a1,a2] H nx k:=Q12 [(6,[8,9]),(8,[35])] [[8,9,15]] [.one (.tst (.tst (.one (.one .nil)) (.one (.one .nil))) (.one (.one (.one .nil))))]
theorem spec68:F68 a0 a1 a2 H nx k->Q2 Tryz.prog 68 [a0,a1,a2] H nx k:=Q12 [(6,[7,8]),(8,[29])] [[7,8,14]] [.one (.tst (.one .nil) (.one .nil))]
theorem spec66:F66 a0 a1 a2 a3 a4 a5 H nx k->Q2 Tryz.prog 66 [a0,a1,a2,a3,a4,a5] H nx k:=Q12 [(6,[31]),(12,[1])] [[1,34]] [.one (.tst (.one .nil) (.one .nil))]
theorem spec31:F31 a0 a1 a2 H nx k->Q2 Tryz.prog 31 [a0,a1,a2] H nx k:=Q12 [(16,[39]),(26,[12,13,14]),(31,[81])] [[7,19],[11],[12,13,14,48]] [.one (.tst (.one .nil) (.one .nil)),.one (.tst (.one .nil) (.one .nil))]
theorem spec32:F32 a0 a1 H nx k->Q2 Tryz.prog 32 [a0,a1] H nx k:=Q12 [] [[11]] []
theorem spec12:F12 a0 H nx k->Q2 Tryz.prog 12 [a0] H nx k:=Q12 [(7,[6]),(13,[35])] [] [.one (.tst (.one (.tst (.one .nil) (.one .nil))) (.one (.one (.one .nil))))]
end
theorem C59{n:Nat}(hn:n<=32)(H:Y0)(nx:Nat):Q2 Tryz.prog 35 [.int .i64 (n:Int)] H nx (Z56 (.int .u32 ((2^n-1:Nat):Int)) H nx):=by
 refine spec35 ?_;unfold F35;simp only[W1,M26 hn,Y5];exact⟨rfl,rfl,rfl⟩
theorem G56(N free:Int)(A:Option Addr)(es:List Nat)(cap:Nat)(H:Y0)(nx:Nat)(hS:Sl H nx A (K12 es))(J:U14 es):
  Q2 Tryz.prog 33 [gv N A es.length cap,.int .i64 free] H nx fun v H' nx'=>v = .int .i64 (Q6 N free es)/\D0 H nx H' nx':=by
 refine spec33 ?_;unfold F33;have hE:D0 H nx (hs H nx (some (.cells [.int .i64 N,.slice A es.length cap] 0))) (nx+1):=(D0.refl H nx).new _ (aD _) (by omega);simp(disch:=first|omega|assumption)only[W0,Z0,Q0.val,C13];refine R0 (N11 N A es cap _ _ (hS.ext hE) J) ?_;rintro _ H2 nx2 ⟨rfl,E⟩;have hg:=E.get nx (by omega);rw[Z11] at hg;simp(disch:=first|omega|assumption)only[W0,hg,N13]
 by_cases h0:N3 N es=0
 .by_cases h1:free<0
  .simp(disch:=first|omega|assumption)only[W0,h0,h1,ne_eq,not_true_eq_false]
   exact⟨by simp[Q6,h0,h1],hE.trans E⟩
  .by_cases h2:N<free
   .simp(disch:=first|omega|assumption)only[W0,h0,h1,h2,ne_eq,not_true_eq_false]
    exact⟨by simp[Q6,h0,h2],hE.trans E⟩
   .simp(disch:=first|omega|assumption)only[W0,h0,h1,h2,ne_eq,not_true_eq_false]
    exact⟨by simp[Q6,h0,h1,h2],hE.trans E⟩
 .simp(disch:=first|omega|assumption)only[W0,h0,ne_eq,not_false_eq_true]
  exact⟨by simp[Q6,h0],hE.trans E⟩
theorem Z71{n:Nat}(hn:n<=32)(A:Option Addr)(es:List Nat)(cap:Nat)(H:Y0)(nx:Nat)(hS:Sl H nx A (K12 es))(a0:∀ e ∈ es,e<2^n)(a1:es.length<=64)(a6:N3 n es=0):
  Q2 Tryz.prog 34 [gv n A es.length cap] H nx fun r H' nx'=>r = .agg ⟨K12 (B2 es n)⟩/\D0 H nx H' nx':=by
 refine spec34 ?_;unfold F34;simp(disch:=first|omega|assumption)only[W0,Z0,Q0.val,Q27];generalize hK:hs (hs (hs H nx (some (.cells [.int .i64 n,.slice A es.length cap] 0))) (nx+1) (some (.cells (K12 (aF 32 0)) 0))) (nx+1+1) (some (.cells (K12 (aF 32 0)) 0))=K;have kG:J0 K nx=some (.cells [.int .i64 n,.slice A es.length cap] 0):=by rw[<- hK,Z1 _ (by omega),Z1 _ (by omega),Z11]
 have kR:J0 K (nx+1)=some (.cells (K12 (aF 32 0)) 0):=by rw[<- hK,Z1 _ (by omega),Z11]
 have kA:J0 K (nx+1+1)=some (.cells (K12 (aF 32 0)) 0):=by rw[<- hK,Z11]
 have a5:D0 H nx K (nx+3):=by
  rw[<- hK];exact((((D0.refl H nx).new _ (by omega) (by omega):D0 H nx _ (nx+1)).new _ (by omega) (by omega):D0 H nx _ (nx+1+1)).new _ (by omega) (by omega))
 refine B1 (m:=n) (fun m L H' nx'=>∃(i:Nat) (l:List Nat),m+i=n/\L=[.int .i64 (i:Int)]/\l.length=32/\(∀ v,v<32->l[v]? = some (if v<i then Q1 (adj es v) n else 0)) /\
  J0 H' (nx+1+1)=some (.cells (K12 l) 0)/\D0 K (nx+2) H' nx'/\nx+3<=nx') ?_ ⟨0,aF 32 0,rfl,rfl,by simp,fun v hv=>by rw[List.getElem?_replicate,if_pos hv];simp,kA,D0.self (by omega),aD _⟩
 rintro m ih L H2 nx2 ⟨i,l,hm,rfl,hl,J,hg,E,a9⟩ a7;have g2:=(E.get nx (by omega)).trans kG;have r2:=(E.get (nx+1) (by omega)).trans kR;have O:D0 H nx H2 nx2:=⟨by omega,fun q hq=>(E.get q (by omega)).trans (a5.get q hq)⟩
 simp(disch:=first|omega|assumption)only[W0]
 by_cases hi:i<n
 case neg=>
  have U:¬ (i:Int)<(n:Int):=by omega
  have a2:i=n:=by omega
  subst a2;have a3:l=B2 es i:=by
   refine G32 hl (N9 es i) fun v hv => ?_
   rw[J v hv];simp[B2,hv]
  subst a3;have e1:(K12 (B2 es i)).length=32:=by rw[E1];exact hl
  have e2:(K12 (aF 32 0)).length=32:=by rw[E1];simp
  have e3:=G24 (c:=K12 (aF 32 0)) (vs:=K12 (B2 es i)) (by rw[e1,e2]);have e4:=W5 (B2 es i);simp(disch:=first|omega|assumption)only[W0,U,hg,Z34 hl,e1,e2,e4,r2,e3];exact O.hs (by omega)
 have U:(i:Int)<(n:Int):=by omega
 simp(disch:=first|omega|assumption)only[W0,U,g2,C13];refine R0 (U61 hn hi A es cap _ _ (hS.ext O) a0 a1 a6) ?_;rintro _ H3 ab ⟨rfl,Q⟩;have a8:=(Q.get (nx+1+1) (by omega)).trans hg;have aa:=Q.le;have a4:i<l.length:=by omega
 have V:(K12 l).length=32:=by rw[E1];exact hl
 simp(disch:=first|omega|assumption)only[W0,Nat.reduceLeDiff,a8,V10 a4,V];refine⟨by omega,a7 (m-1) _ _ _ (by omega) ⟨i+1,l.set i (Q1 (adj es i) n),by omega,by simp,by rw[dO];exact hl,fun v hv => ?_,by rw[Z11],((E.trans (Q.less (by omega))).hs (by omega)),by omega⟩⟩;rw[cQ]
 by_cases Z:i=v
 .subst Z;rw[if_pos rfl,if_pos (by omega),if_pos (by omega)]
 .rw[if_neg Z,J v hv]
  by_cases W:v<i
  .rw[if_pos W,if_pos (by omega)]
  .rw[if_neg W,if_neg (by omega)]
section
variable {u w:Nat}
theorem M18{l:List Value}(h:l.length=32)(k:VP):B10 l 0 (some 32) k=k (.agg ⟨l⟩):=by
 have:=K26 (l:=l) k;rwa [h] at this
structure NbL (aL:List Nat) (N:Nat):Prop where
 len:aL.length=32
 lt:∀(u x:Nat),aL[u]? = some x->x<2^N
theorem NbL.at{aL:List Nat}{N:Nat}(h:NbL aL N)(hu:u<32):∃ x,aL[u]? = some x/\x<2^N/\aL.getD u 0=x:=by
 obtain⟨x,hx⟩:∃ x,aL[u]? = some x:=⟨aL[u]'(by rw[h.len];exact hu),aE _⟩
 exact⟨x,hx,h.lt u x hx,by simp[aP,hx]⟩
section
variable {aL:List Nat} {N:Nat} (hN:N<=6) (hL:NbL aL N)
include hN hL
theorem B83 {u w within:Nat} (hu:u<N) (hw:w<N) (hwi:within<4294967296) (H:Y0) (nx:Nat):
  Q2 Tryz.prog 65 [.int .i64 (N:Int),.agg ⟨K12 aL⟩,.int .i64 (u:Int),.int .i64 (w:Int),.int .u32 (within:Int)] H nx fun r H' nx'=>r = .int .i64 (B75 aL N u w within:Int)/\D0 H nx H' nx':=by
 have hp64:2^N<=64:=Nat.pow_le_pow_right (n:=2) (by omega) hN
 have hp1:0<2^N:=Nat.two_pow_pos N
 have hu32:u<32:=by omega
 have hw32:w<32:=by omega
 refine spec65 ?_
 unfold F65
 have hE1:D0 H nx (hs H nx (some (.cells (K12 aL) 0))) (nx+1):=(D0.refl H nx).new _ (Nat.le_refl _) (by omega)
 have g1:J0 (hs H nx (some (.cells (K12 aL) 0))) nx=some (.cells (K12 aL) 0):=Z11 _ _ _
 simp (disch:=first|omega|assumption|exact G0 (by assumption)|exact U10 (by assumption)|exact X0 (by omega)|fail) only[W0,Q0.val,W5 aL]
 generalize hs H nx (some (.cells (K12 aL) 0))=H1 at *
 refine B1 (m:=N) (fun f L H' nx'=>∃ (c b st:Nat),L=[.int .u32 (c:Int),.int .u32 (b:Int),.int .i64 (st:Int)]/\c<2^N/\b<2^N/\N<=f+(V5 N c).length/\(∀ w,b.testBit w=true->c.testBit w=false)/\W84 aL N w within f c b st=B75 aL N u w within/\f+st=N+1/\H1=H'/\nx+1<=nx') ?_
  ⟨0,2^u,1,rfl,hp1,R27 hu,by omega,by simp,rfl,rfl,rfl,by omega⟩
 rintro f ih L _ n2 ⟨c,b,st,rfl,hc,hb,hf,hd,hcb,hst,rfl,hn2⟩ hih
 have hc32:c<4294967296:=by omega
 have hb32:b<4294967296:=by omega
 have hfin:D0 H nx H1 n2:=hE1.more hn2
 by_cases hb0:b=0
 .subst hb0
  rw[B102] at hcb
  simp (disch:=first|omega|assumption|exact G0 (by assumption)|exact U10 (by assumption)|exact X0 (by omega)|fail) only[W0,ne_eq,not_true_eq_false]
  exact⟨by rw[<- hcb];rfl,hfin⟩
 have hb0':¬ (b:Int)=0:=by omega
 obtain⟨f',rfl⟩:∃ f',f=f'+1:=by
  cases f with
  | zero=>exact absurd (X20 hb hd (by have:=Q15 N c;omega)) hb0
  | succ f=>exact⟨f,rfl⟩
 have hg:=R25 hb hb0 hd
 have hcb32:c ||| b<2^N:=Z26 hc hb
 rw[show W84 aL N w within (f'+1) c b st=if b=0 then 0 else if (Z2 (Q4 aL b N &&& within) (c ||| b)).testBit w=true then st else W84 aL N w within f' (c ||| b) (Z2 (Q4 aL b N &&& within) (c ||| b)) (st+1) from rfl,if_neg hb0] at hcb
 simp (disch:=first|omega|assumption|exact G0 (by assumption)|exact U10 (by assumption)|exact X0 (by omega)|fail) only[W0,ne_eq,hb0',not_false_eq_true]
 refine B1 (m:=N) (fun q L H' nx'=>∃ (j:Nat),q+j=N/\L=[.int .u32 (Q4 aL b j:Int),.int .i64 (j:Int)]/\H1=H'/\n2=nx') ?_ ⟨0,by omega,rfl,rfl,rfl⟩
 rintro q ih7 L _ _ ⟨j,hq,rfl,rfl,rfl⟩ hih7
 have hnl:=Z14 (b:=b) hL.lt
 by_cases hj:j<N
 case neg=>
  obtain rfl:j=N:=by omega
  have hj':¬ (j:Int)<(j:Int):=by omega
  have hnj:=hnl j
  have hx32:Q4 aL b j<4294967296:=by omega
  have hy32:c ||| b<4294967296:=by omega
  have hz32:Q4 aL b j &&& within<4294967296:=D52 hx32
  have hnd:=Z6 (n:=j) (b:=c ||| b) (W37 (b:=within) hnj)
  have hnd32:Z2 (Q4 aL b j &&& within) (c ||| b)<4294967296:=by omega
  by_cases hbit:(Z2 (Q4 aL b j &&& within) (c ||| b)).testBit w=true
  .rw[if_pos hbit] at hcb
   simp (disch:=first|omega|assumption|exact G0 (by assumption)|exact U10 (by assumption)|exact X0 (by omega)|fail) only[W0,hj',hbit]
   exact⟨by rw[hcb],hfin⟩
  .rw[if_neg hbit] at hcb
   have hbit':=Bool.eq_false_iff.2 hbit
   simp (disch:=first|omega|assumption|exact G0 (by assumption)|exact U10 (by assumption)|exact X0 (by omega)|fail) only[W0,hj',hbit']
   refine hih f' _ _ _ (by omega) ⟨c ||| b,_,st+1,rfl,hcb32,hnd,by omega,fun w hw => ?_,hcb,by omega,rfl,hn2⟩
   rw[N1,Bool.and_eq_true] at hw
   simpa using hw.2
 have hj':(j:Int)<(N:Int):=by omega
 obtain⟨x,hx,hx2,hxD⟩:=hL.at (u:=j) (by omega)
 have hx32:x<4294967296:=by omega
 have hnj:=hnl j
 have hn32:Q4 aL b j<4294967296:=by omega
 have gx:=Q3 hx
 have hstep:Q4 aL b (j+1)=if b.testBit j=true then Q4 aL b j ||| aL.getD j 0 else Q4 aL b j:=rfl
 rw[hxD] at hstep
 have hj32:j<32:=by omega
 cases hbj:b.testBit j with
 | false=>
  rw[hbj,if_neg (by simp)] at hstep
  simp (disch:=first|omega|assumption|exact G0 (by assumption)|exact U10 (by assumption)|exact X0 (by omega)|fail) only[W0,hj',N13,hbj]
  exact hih7 (q-1) _ _ _ (by omega) ⟨j+1,by omega,by rw[hstep];try simp,rfl,rfl⟩
 | true=>
  rw[hbj,if_pos rfl] at hstep
  simp (disch:=first|omega|assumption|exact G0 (by assumption)|exact U10 (by assumption)|exact X0 (by omega)|fail) only[W0,hj',N13,hbj,g1,gx]
  exact hih7 (q-1) _ _ _ (by omega) ⟨j+1,by omega,by rw[hstep];try simp,rfl,rfl⟩
theorem E97{to within:Nat}:∀(k E b st:Nat),W84 aL N to within k E b st<=st+k
 | 0,_,_,_=>Nat.zero_le _
 | k+1,E,b,st=>by
  unfold W84
  split
  .exact Nat.zero_le _
  .split
   .omega
   .have:=E97 (to:=to) (within:=within) k (E ||| b) (Z2 (Q4 aL b N &&& within) (E ||| b)) (st+1)
    omega
theorem D81{within:Nat}:B75 aL N u w within<=7:=by
 have:=E97 hN hL (to:=w) (within:=within) N 0 (2^u) 1;unfold B75;omega
theorem M44:(K12 aL).length=32:=by rw[E1];exact hL.len
theorem G107{v:Nat}(hu:u<N)(hw:w<N):D86 aL N v u w<2^N:=by
 have E:0<2^N:=aQ N;exact Z26 (Z26 (Z6 (Z6 (by omega))) (R27 hu)) (R27 hw)
theorem D89 (H:Y0) (nx:Nat):Q2 Tryz.prog 63 [.int .i64 (N:Int),.agg ⟨K12 aL⟩] H nx fun r H' nx'=>r = .int .i64 (cyV aL N N:Int)/\D0 H nx H' nx':=by
 have hp64:2^N<=64:=Nat.pow_le_pow_right (n:=2) (by omega) hN
 have hp1:0<2^N:=Nat.two_pow_pos N
 have h32:=M44 hN hL
 refine spec63 ?_
 unfold F63
 have hE1:D0 H nx (hs H nx (some (.cells (K12 aL) 0))) (nx+1):=(D0.refl H nx).new _ (Nat.le_refl _) (by omega)
 have g1:J0 (hs H nx (some (.cells (K12 aL) 0))) nx=some (.cells (K12 aL) 0):=Z11 _ _ _
 simp (disch:=first|omega|assumption|exact G0 (by assumption)|exact U10 (by assumption)|exact X0 (by omega)|fail) only[W0,Q0.val,W5 aL]
 generalize hs H nx (some (.cells (K12 aL) 0))=H1 at *
 refine B1 (m:=N) (fun m L H' nx'=>∃ v:Nat,m+v=N/\L=[.int .i64 (cyV aL N v:Int),.int .i64 (v:Int)]/\D0 H1 (nx+1) H' nx') ?_ ⟨0,by omega,rfl,D0.refl _ _⟩
 rintro m ih L H2 n2 ⟨v,hm,rfl,e2⟩ hih
 by_cases hv:v<N
 case neg=>
  obtain rfl:v=N:=by omega
  have hv':¬ (v:Int)<(v:Int):=by omega
  simp (disch:=first|omega|assumption|exact G0 (by assumption)|exact U10 (by assumption)|exact X0 (by omega)|fail) only[W0,hv']
  exact hE1.trans e2
 have hv':(v:Int)<(N:Int):=by omega
 simp (disch:=first|omega|assumption|exact G0 (by assumption)|exact U10 (by assumption)|exact X0 (by omega)|fail) only[W0,hv']
 refine B1 (m:=N) (fun m L H' nx'=>∃ u:Nat,m+u=N/\L=[.int .i64 (cyU aL N v (cyV aL N v) u:Int),.int .i64 (u:Int)]/\D0 H1 (nx+1) H' nx') ?_ ⟨0,by omega,rfl,e2⟩
 rintro m3 ih3 L H3 n3 ⟨u,hm3,rfl,e3⟩ hih3
 by_cases hu:u<N
 case neg=>
  obtain rfl:u=N:=by omega
  have hu':¬ (u:Int)<(u:Int):=by omega
  simp (disch:=first|omega|assumption|exact G0 (by assumption)|exact U10 (by assumption)|exact X0 (by omega)|fail) only[W0,hu']
  exact hih (m-1) _ _ _ (by omega) ⟨v+1,by omega,rfl,e3⟩
 have hu':(u:Int)<(N:Int):=by omega
 simp (disch:=first|omega|assumption|exact G0 (by assumption)|exact U10 (by assumption)|exact X0 (by omega)|fail) only[W0,hu']
 refine B1 (m:=u) (fun m L H' nx'=>∃ w:Nat,m+w=u/\L=[.int .i64 (cyW aL N v u (cyU aL N v (cyV aL N v) u) w:Int),.int .i64 (w:Int)]/\D0 H1 (nx+1) H' nx') ?_ ⟨0,by omega,rfl,e3⟩
 rintro m4 ih4 L H4 n4 ⟨w,hm4,rfl,e4⟩ hih4
 by_cases hw:w<u
 case neg=>
  obtain rfl:w=u:=by omega
  have hw':¬ (w:Int)<(w:Int):=by omega
  simp (disch:=first|omega|assumption|exact G0 (by assumption)|exact U10 (by assumption)|exact X0 (by omega)|fail) only[W0,hw']
  exact hih3 (m3-1) _ _ _ (by omega) ⟨w+1,by omega,rfl,e4⟩
 have hw':(w:Int)<(u:Int):=by omega
 have g4:=(e4.get nx (by omega)).trans g1
 obtain⟨xv,gv',xv2,xvD⟩:=hL.at (u:=v) (by omega)
 obtain⟨xu,gu',xu2,xuD⟩:=hL.at (u:=u) (by omega)
 have gv':=Q3 gv'
 have gu':=Q3 gu'
 have xv32:xv<4294967296:=by omega
 have xu32:xu<4294967296:=by omega
 have v32:v<32:=by omega
 have u32:u<32:=by omega
 have w32:w<32:=by omega
 generalize hl:cyW aL N v u (cyU aL N v (cyV aL N v) u) w=l at *
 have next:cyW aL N v u (cyU aL N v (cyV aL N v) u) (w+1)=if (nbB aL v u&&nbB aL v w && !nbB aL u w)=true then cyD (B75 aL N u w (D86 aL N v u w)) l else l:=by rw[cyW,hl]
 have bvu:nbB aL v u=xv.testBit u:=by unfold nbB;rw[xvD]
 have bvw:nbB aL v w=xv.testBit w:=by unfold nbB;rw[xvD]
 have buw:nbB aL u w=xu.testBit w:=by unfold nbB;rw[xuD]
 rw[bvu,bvw,buw] at next
 simp (disch:=first|omega|assumption|exact G0 (by assumption)|exact U10 (by assumption)|exact X0 (by omega)|fail) only[W0,hw']
 rw[N13]
 refine N5 (fun L H' nx'=>L=[.bool (!(xv.testBit u&&xv.testBit w && !xu.testBit w))]/\H4=H'/\n4=nx') ?_ ?_
 .intro j hj
  cases b1:xv.testBit u with
  | false=>
   simp (disch:=first|omega|assumption|exact G0 (by assumption)|exact U10 (by assumption)|exact X0 (by omega)|fail) only[W0,g4,gv',b1]
   exact hj _ _ _ ⟨by simp[b1],rfl,rfl⟩
  | true=>
   cases b2:xv.testBit w with
   | false=>
    simp (disch:=first|omega|assumption|exact G0 (by assumption)|exact U10 (by assumption)|exact X0 (by omega)|fail) only[W0,g4,gv',b1,b2]
    exact hj _ _ _ ⟨by simp[b1,b2],rfl,rfl⟩
   | true=>
    simp (disch:=first|omega|assumption|exact G0 (by assumption)|exact U10 (by assumption)|exact X0 (by omega)|fail) only[W0,g4,gv',gu',b1,b2]
    exact hj _ _ _ ⟨by simp[b1,b2],rfl,rfl⟩
 rintro L _ _ ⟨rfl,rfl,rfl⟩
 by_cases hb:(xv.testBit u&&xv.testBit w && !xu.testBit w)=true
 case neg=>
  rw[if_neg hb] at next
  rw[Bool.eq_false_iff.2 hb]
  simp (disch:=first|omega|assumption|exact G0 (by assumption)|exact U10 (by assumption)|exact X0 (by omega)|fail) only[W0]
  exact hih4 (m4-1) _ _ _ (by omega) ⟨w+1,by omega,by rw[next];simp,e4⟩
 rw[if_pos hb] at next
 rw[hb]
 simp (disch:=first|omega|assumption|exact G0 (by assumption)|exact U10 (by assumption)|exact X0 (by omega)|fail) only[W0]
 refine R0 (C51 (n:=N) (by omega) _ _) ?_
 rintro _ _ _ ⟨rfl,rfl,rfl⟩
 have a1:2^N-1<4294967296:=by omega
 have a2:Z2 (2^N-1) xv<2^N:=Z6 (by omega)
 have a3:Z2 (Z2 (2^N-1) xv) (2^v)<2^N:=Z6 a2
 have a4:Z2 (Z2 (2^N-1) xv) (2^v) ||| 2^u<2^N:=Z26 a3 (R27 hu)
 have a5:=G107 hN hL (v:=v) hu (show w<N by omega)
 have b2':Z2 (2^N-1) xv<4294967296:=by omega
 have b3':Z2 (Z2 (2^N-1) xv) (2^v)<4294967296:=by omega
 have b4':Z2 (Z2 (2^N-1) xv) (2^v) ||| 2^u<4294967296:=by omega
 have pv:2^v<4294967296:=by have:=R27 hv;omega
 have pu:2^u<4294967296:=by have:=R27 hu;omega
 have pw:2^w<4294967296:=by have:=R27 (show w<N by omega);omega
 simp (disch:=first|omega|assumption|exact G0 (by assumption)|exact U10 (by assumption)|exact X0 (by omega)|fail) only[W0,g4,gv',M18 h32]
 have hal:D86 aL N v u w=(Z2 (Z2 (2^N-1) xv) (2^v) ||| 2^u) ||| 2^w:=by unfold D86;rw[xvD]
 rw[<- hal]
 refine R0 (B83 hN hL hu (by omega) (by omega) _ _) ?_
 rintro _ H5 n5 ⟨rfl,h5⟩
 have e5:=(e4.more (show n4<=n4+16 by omega)).trans h5
 have hd7:=D81 hN hL (u:=u) (w:=w) (within:=D86 aL N v u w)
 generalize B75 aL N u w (D86 aL N v u w)=d at *
 have c0:decide ((d:Int) > 0)=decide (0<d):=by congr 1;apply propext;omega
 have c1:decide ((l:Int)=0)=decide (l=0):=by congr 1;apply propext;omega
 have c2:decide ((d:Int)+2<(l:Int))=decide (d+2<l):=by congr 1;apply propext;omega
 refine N5 (fun L H' nx'=>L=[.bool (decide (0<d/\(l=0\/d+2<l)))]/\H5=H'/\n5=nx') ?_ ?_
 .intro j hj
  by_cases q0:0<d
  .by_cases q1:l=0
   .simp (disch:=first|omega|assumption|exact G0 (by assumption)|exact U10 (by assumption)|exact X0 (by omega)|fail) only[W0,c0,decide_eq_true q0,decide_eq_true q1]
    exact hj _ _ _ ⟨by simp[q0,q1],rfl,rfl⟩
   .simp (disch:=first|omega|assumption|exact G0 (by assumption)|exact U10 (by assumption)|exact X0 (by omega)|fail) only[W0,c0,c2,decide_eq_true q0,decide_eq_false q1]
    exact hj _ _ _ ⟨by simp[q0,q1],rfl,rfl⟩
  .simp (disch:=first|omega|assumption|exact G0 (by assumption)|exact U10 (by assumption)|exact X0 (by omega)|fail) only[W0,c0,decide_eq_false q0]
   exact hj _ _ _ ⟨by simp[q0],rfl,rfl⟩
 rintro L _ _ ⟨rfl,rfl,rfl⟩
 by_cases q:0<d/\(l=0\/d+2<l)
 .have e:cyD d l=d+2:=if_pos q
  simp (disch:=first|omega|assumption|exact G0 (by assumption)|exact U10 (by assumption)|exact X0 (by omega)|fail) only[W0,decide_eq_true q]
  exact hih4 (m4-1) _ _ _ (by omega) ⟨w+1,by omega,by rw[next,e];simp,e5⟩
 .have e:cyD d l=l:=if_neg q
  simp (disch:=first|omega|assumption|exact G0 (by assumption)|exact U10 (by assumption)|exact X0 (by omega)|fail) only[W0,decide_eq_false q]
  exact hih4 (m4-1) _ _ _ (by omega) ⟨w+1,by omega,by rw[next,e];simp,e5⟩
end
end
end Go.Proofs.YtoiioigihocgbaaGreatDoor
