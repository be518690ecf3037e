/-
  Contract: elimination.Best.
  Plain: what is reached through some vertices.
  Plain: bags of an elimination by reachability.
-/
import Derived.Test.YtpiobdofbhkmjaaDoorL42
set_option linter.unusedSimpArgs false
set_option linter.unusedVariables false
set_option linter.unusedSectionVars false
namespace Go.Clo
set_option maxRecDepth 10000 in
theorem Q72 {N:Int} {A:Option Addr} {l c:Nat} {nb:List Nat} {a b:Option Nat} (h:nb.length=32) (k:VP):M4 [.int .i64 0,.slice none 0 0,.int .u32 0,.int .u32 0,.int .u32 0,.int .u32 0,.int .u32 0,.int .u32 0,.int .u32 0,.int .u32 0,.int .u32 0,.int .u32 0,.int .u32 0,.int .u32 0,.int .u32 0,.int .u32 0,.int .u32 0,.int .u32 0,.int .u32 0,.int .u32 0,.int .u32 0,.int .u32 0,.int .u32 0,.int .u32 0,.int .u32 0,.int .u32 0,.int .u32 0,.int .u32 0,.int .u32 0,.int .u32 0,.int .u32 0,.int .u32 0,.int .u32 0,.int .u32 0,.map none,.map none] [(0,2),(2,32),(34,1),(35,1)] [(0,.agg ⟨[.int .i64 N,.slice A l c]⟩),(1,.agg ⟨N1 nb⟩),(2,.map a),(3,.map b)] k=k (.agg ⟨.int .i64 N :: .slice A l c :: (N1 nb++[.map a,.map b])⟩):=by
 match nb,h with
 | [a0,a1,a2,a3,a4,a5,a6,a7,a8,a9,a10,a11,a12,a13,a14,a15,a16,a17,a18,a19,a20,a21,a22,a23,a24,a25,a26,a27,a28,a29,a30,a31],_=>exact E3 _ _
theorem V40 (N:Int) (A:Option Addr) (l c:Nat) (a b:Option Nat):∀ nb:List Nat,Z0 (.int .i64 N :: .slice A l c :: (N1 nb++[.map a,.map b]))=true:=by
 intro nb
 show Z0 (N1 nb++[.map a,.map b])=true
 induction nb with
 | nil=>rfl
 | cons x nb ih=>exact ih
theorem Sl.write {H:Y0} {nx i s:Nat} {A:Option Addr} {l r:List Value} {b:Option V4} (h:Sl H nx A l) (hg:X0 H i=some (.cells r s)) (hno:∀ v ∈ l,v ∉ r):Sl (Go.Clo.hs H i b) nx A l:=by
 intro j v hv
 obtain⟨q,o,row,e1,e2,e3,e4⟩:=h j v hv
 refine⟨q,o,row,e1,e2,?_,e4⟩
 have hq:q≠i:=by
  rintro rfl
  have hrow:row=r:=by rw[V3,hg] at e3;exact (Option.some.inj e3).symm
  subst hrow
  exact hno v (List.mem_of_getElem? hv) (List.mem_of_getElem? e4)
 rw[V3,M0 _ hq];exact e3
theorem M59 (aL:List Nat) (N:Nat):∀ (f l:Nat),(W15 aL N f l).length<=f
 | 0,_=>Nat.le_refl _
 | f+1,l=>by
  show (if l=0 then [] else _:List Nat).length<=f+1
  split
  .simp
  .simp only[List.length_cons]
   have:=M59 aL N f (M2 l (J12 aL N N 0 (2^tz l)))
   omega
end Go.Clo
namespace Go.Proofs.YtpiobdofbhkmjaaDoor
open Go.Clo
def bnd (N f:Nat):Nat:=M2 (2^N-1) (2^f-1)
theorem U29 {N f w:Nat}:(bnd N f).testBit w=true<->w<N/\f<=w:=by
 unfold bnd
 rw[N3,Nat.testBit_two_pow_sub_one,Nat.testBit_two_pow_sub_one]
 simp
def E5 (es:List Nat) (N f:Nat):List Nat:=(U21 (Y13 es (bnd N f)) N).filter fun c=>decide (c &&& bnd N f≠0)
theorem Z17 {es:List Nat} {N u w:Nat} (hN:N<=32):((E4 es N).getD u 0).testBit w=true<->u<N/\w<N/\adj es u w=true:=by
 rw[List.getD_eq_getElem?_getD]
 by_cases hu:u<32
 .simp only[E4,List.getElem?_map,List.getElem?_range hu,Option.map_some,Option.getD_some]
  by_cases h:u<N
  .rw[if_pos h,X9];simp[h]
  .rw[if_neg h];simp[h]
 .have:(E4 es N)[u]? = none:=List.getElem?_eq_none (by rw[B16];omega)
  rw[this]
  simp;omega
theorem J80 {es:List Nat} {N:Nat} (hN:N<=32):∀ u w,((E4 es N).getD u 0).testBit w=true->((E4 es N).getD w 0).testBit u=true:=by
 intro u w h
 obtain⟨h1,h2,h3⟩:=(Z17 hN).1 h
 exact (Z17 hN).2 ⟨h2,h1,by rw[Z50];exact h3⟩
theorem N39 {es:List Nat} {N:Nat} (hN:N<=6):(∀ c ∈ U21 es N,∃ v,v<N/\M75 (E4 es N) N v c)/\(U21 es N).Pairwise (fun c d=>∀ w,c.testBit w=true->d.testBit w=false) /\
  (∀ w,w<N<->∃ c ∈ U21 es N,c.testBit w=true):=by
 have hp64:2^N<=64:=Nat.pow_le_pow_right (n:=2) (by omega) hN
 have hp1:0<2^N:=Nat.two_pow_pos N
 obtain⟨h1,h2,h3⟩:=X54 (aL:=E4 es N) (N:=N) R29 hp64 (J80 (by omega)) N (2^N-1) (E15 _ _) (by omega) (fun u w _ hw=>by
  rw[Nat.testBit_two_pow_sub_one]
  simpa using ((Z17 (by omega)).1 hw).2.1)
 refine⟨h1,h2,fun w => ?_⟩
 rw[show U21 es N=W15 (E4 es N) N N (2^N-1) from rfl,<- h3 w,Nat.testBit_two_pow_sub_one]
 simp
noncomputable def D62 (es:List Nat) (N f l:Nat):Rat:=match (E5 es N f).find? (fun c=>decide (M2 l c=0)) with
 | some c=>V10 N (C6 es (E4 es N) N c) l
 | none=>0
theorem V17 {l c:Nat}:M2 l c=0<->∀ w,l.testBit w=true->c.testBit w=true:=by
 constructor
 .intro h w hw
  have:=N3 l c w
  rw[h,hw,Nat.zero_testBit] at this
  simpa using this.symm
 .intro h
  apply Nat.eq_of_testBit_eq
  intro w
  rw[N3,Nat.zero_testBit]
  cases hl:l.testBit w with
  | false=>rfl
  | true=>rw[h w hl];rfl
theorem V91 {es:List Nat} {N f:Nat} (hN:N<=6) {c:Nat} (hc:c ∈ E5 es N f) {l:Nat} (h0:l≠0) (hl:∀ w,l.testBit w=true->c.testBit w=true):D62 es N f l=V10 N (C6 es (E4 es N) N c) l:=by
 obtain⟨u,hu⟩:=W13 h0
 have hpw:=(N39 (es:=Y13 es (bnd N f)) hN).2.1.filter (fun c=>decide (c &&& bnd N f≠0))
 rw[show (U21 (Y13 es (bnd N f)) N).filter (fun c=>decide (c &&& bnd N f≠0))=E5 es N f from rfl] at hpw
 unfold D62
 cases hfd:(E5 es N f).find? (fun c=>decide (M2 l c=0)) with
 | none=>
  have:=List.find?_eq_none.1 hfd c hc
  rw[V17.2 hl] at this
  simp at this
 | some d=>
  have h1:=List.find?_some hfd
  have h2:=List.mem_of_find?_eq_some hfd
  have h3:=V17.1 (of_decide_eq_true h1)
  have:d=c:=by
   obtain⟨i,hi,rfl⟩:=List.getElem_of_mem h2
   obtain⟨j,hj,rfl⟩:=List.getElem_of_mem hc
   rcases Nat.lt_trichotomy i j with h | h | h
   .have:=List.pairwise_iff_getElem.1 hpw i j hi hj h u (h3 u hu)
    rw[hl u hu] at this;cases this
   .subst h;rfl
   .have:=List.pairwise_iff_getElem.1 hpw j i hj hi h u (hl u hu)
    rw[h3 u hu] at this;cases this
  rw[this]
def orF (es:List Nat) (i:Nat):Nat:=(es.take i).foldl (fun a e=>a ||| e) 0
theorem N48 {es:List Nat} {i e:Nat} (h:es[i]? = some e):orF es (i+1)=orF es i ||| e:=by
 unfold orF
 rw[K9 h,List.foldl_append];rfl
theorem N28 {es:List Nat} {w:Nat}:(orF es es.length).testBit w=true<->∃ e ∈ es,e.testBit w=true:=by
 have key:∀ (l:List Nat) (a:Nat),(l.foldl (fun a e=>a ||| e) a).testBit w=true<->a.testBit w=true\/∃ e ∈ l,e.testBit w=true:=by
  intro l
  induction l with
  | nil=>intro a;simp
  | cons x l ih=>
   intro a
   rw[List.foldl_cons,ih,Nat.testBit_or,Bool.or_eq_true]
   simp only[List.mem_cons,exists_eq_or_imp,or_assoc]
 unfold orF
 rw[List.take_length,key];simp
theorem G36 {es:List Nat} {N:Nat} (h:∀ e ∈ es,e<2^N):∀ i,i<=es.length->orF es i<2^N
 | 0,_=>Nat.two_pow_pos _
 | i+1,hi=>by
  rw[N48 (List.getElem?_eq_getElem (show i<es.length by omega))]
  exact N17 (G36 h i (by omega)) (h _ (List.getElem_mem _))
noncomputable def wI (es:List Nat) (N f i:Nat):Rat:=((E5 es N f).take i).foldl (fun w c=>gr w (V10 N (C6 es (E4 es N) N c) c)) (fwI es N (Q9 es N f (upK f (N-f))) f)
noncomputable def J7 (es:List Nat) (N f:Nat):Rat:=wI es N f (E5 es N f).length
noncomputable def N27 (es:List Nat) (N f:Nat):List Int:=N40 es (E4 es N) N (J7 es N f) (E5 es N f)
theorem C69 {es:List Nat} {N f i c:Nat} (h:(E5 es N f)[i]? = some c):wI es N f (i+1)=gr (wI es N f i) (V10 N (C6 es (E4 es N) N c) c):=by
 unfold wI
 rw[K9 h,List.foldl_append];rfl
theorem Z52 {es nb:List Nat} {N c:Nat} (hle:es.length<=8) (l:Nat):X4 (V10 N (C6 es nb N c) l) 100000:=(M27 (Y20 _ (by omega)) (fun v l=>R12 es N _ hle) l).1
theorem Z37 {es:List Nat} {N f:Nat} (hf:f<=N) (hle:es.length<=8):∀ i,i<=(E5 es N f).length->X4 (wI es N f i) 100000
 | 0,_=>D41 hle f (by rw[J10];exact hf)
 | i+1,hi=>by
  rw[C69 (List.getElem?_eq_getElem (show i<(E5 es N f).length by omega))]
  exact Z24 (Z37 hf hle i (by omega)) (Z52 hle _)
def M74:Value := .agg ⟨[.bool false,.slice none 0 0,.slice none 0 0]⟩
set_option maxHeartbeats 4000000 in
theorem R69 {N f cap:Nat} {A:Option Addr} {es:List Nat} {H:Y0} {nx:Nat} (hS:Sl H nx A (N1 es)) (hN:N<=6) (hf:f<=N) (hsm:∀ e ∈ es,e<2^N) (hle:es.length<=8):
  J2 Tryd.prog 7 [gv N A es.length cap,.int .i64 (f:Int)] H nx fun r H' nx'=>D0 H nx H' nx' /\
   ((orF es es.length≠2^N-1/\r = .tuple ⟨[.slice none 0 0,M74,.int .i64 9]⟩) \/
    (orF es es.length=2^N-1/\∃ B w,r = .tuple ⟨[.slice B (N27 es N f).length (N27 es N f).length,w,.int .i64 0]⟩/\Sl H' nx' B (R3 (N27 es N f))/\RR H' nx' w (J7 es N f))):=by
 have hp64:2^N<=64:=Nat.pow_le_pow_right (n:=2) (by omega) hN
 have hp1:0<2^N:=Nat.two_pow_pos N
 have hf64:2^f<=2^N:=Nat.pow_le_pow_right (n:=2) (by omega) hf
 have hf1:0<2^f:=Nat.two_pow_pos f
 have hsm32:Z4 es:=fun e he=>by have:=hsm e he;omega
 have hfc:V9 (N:Int) (f:Int) es=0:=by
  unfold V9
  rw[W14 (by omega) (by omega) fun i e he=>hsm e (List.mem_of_getElem? he)]
  simp;omega
 have hgc:R8 N es=0:=W14 (by omega) (by omega) fun i e he=>hsm e (List.mem_of_getElem? he)
 have hz32:∀ k:VP,M4 [.bool false,.slice none 0 0,.slice none 0 0] [(0,1),(1,1),(2,1)] [] k=k (.agg ⟨[.bool false,.slice none 0 0,.slice none 0 0]⟩):=fun k=>E3 _ _
 refine spec7 ?_
 unfold F7
 simp (config:={ maxSteps:=2000000 }) (disch:=first|omega|assumption) only[W0,Z0,B0.val,J3]
 generalize hK:hs (hs H nx (some (.cells [.int .i64 N,.slice A es.length cap] 0))) (nx+1) (some (.cells [.bool false,.slice none 0 0,.slice none 0 0] 0))=K
 have k2:X0 K nx=some (.cells [.int .i64 N,.slice A es.length cap] 0):=by rw[<- hK,M0 _ (by omega),Q0]
 have k5:X0 K (nx+1)=some (.cells [.bool false,.slice none 0 0,.slice none 0 0] 0):=by rw[<- hK,Q0]
 have hEK:D0 H nx K (nx+1+1):=by
  rw[<- hK];exact (((D0.refl H nx).new _ (by omega) (by omega):D0 H nx _ (nx+1)).new _ (by omega) (by omega))
 clear hK
 refine K0 (M45 N f A es cap _ _ (hS.ext hEK) hsm32) ?_
 rintro _ H3 nx3 ⟨rfl,hE3⟩
 have d1:decide (V9 (N:Int) (f:Int) es≠0)=false:=by simp[hfc]
 have g2:=(hE3.get nx (by omega)).trans k2
 have g5:=(hE3.get (nx+1) (by omega)).trans k5
 have hle3:=hE3.le
 have hE03:=hEK.trans hE3
 simp (config:={ maxSteps:=2000000 }) (disch:=first|omega|assumption) only[W0,d1,g2]
 refine K0 (C54 (n:=N) (by omega) _ _) ?_
 rintro _ _ _ ⟨rfl,rfl,rfl⟩
 refine K0 (C54 (n:=f) (by omega) _ _) ?_
 rintro _ _ _ ⟨rfl,rfl,rfl⟩
 have hN32:2^N-1<4294967296:=by omega
 have hf32:2^f-1<4294967296:=by omega
 have hb32:M2 (2^N-1) (2^f-1)<4294967296:=Q1 hN32
 simp (config:={ maxSteps:=2000000 }) (disch:=first|omega|assumption) only[W0,g2,J3]
 rw[show M2 (2^N-1) (2^f-1)=bnd N f from rfl] at *
 refine K0 (R73 (hS.ext hE03) hN hsm hle hb32) ?_
 rintro _ H7 nx7 ⟨⟨B7,rfl,hB7⟩,hE7⟩
 have hil:=Y62 es (bnd N f)
 refine K0 (B60 hB7 hN (D91 hsm) (by omega)) ?_
 rintro _ H8 nx8 ⟨⟨B8,rfl,hB8⟩,hE8⟩
 have hE38:=hE7.trans hE8
 have hle8:=hE38.le
 have g82:=(hE38.get nx (by omega)).trans g2
 have g85:=(hE38.get (nx+1) (by omega)).trans g5
 have hE08:=hE03.trans hE38
 obtain⟨hc1,hc2,hc3⟩:=N39 (es:=Y13 es (bnd N f)) hN
 have hcl:(U21 (Y13 es (bnd N f)) N).length<=N:=M59 _ _ _ _
 have hcB:E5 es N f=(U21 (Y13 es (bnd N f)) N).filter fun c=>decide (c &&& bnd N f≠0):=rfl
 generalize U21 (Y13 es (bnd N f)) N=cs at *
 simp (config:={ maxSteps:=2000000 }) (disch:=first|omega|assumption) only[W0]
 refine E1 (m:=cs.length) (fun m L H' nx'=>∃ (i:Nat) (v:Value),m+i=cs.length/\L=[v,.int .i64 (i:Int)]/\Q6 nx8 H' nx' 1 v ((cs.take i).filter fun c=>decide (c &&& bnd N f≠0)).length (N1 ((cs.take i).filter fun c=>decide (c &&& bnd N f≠0)))/\D0 H8 nx8 H' nx') ?_
  ⟨0,.slice none 0 0,by omega,rfl,Q6.nil _ _ _ _,D0.refl _ _⟩
 rintro m ih L H9 nx9 ⟨i,v,hm,rfl,hA,hE9⟩ hih
 have hle9:=hE9.le
 by_cases hi:i<cs.length
 .have hi':(i:Int)<(cs.length:Int):=by omega
  obtain⟨c,hc⟩:∃ c,cs[i]? = some c:=⟨_,List.getElem?_eq_getElem hi⟩
  obtain⟨B,o,row,rfl,hBn,hrow,hget⟩:=(hB8.ext hE9).open (i:=i) (by rw[G1];omega)
  have q0:=hget _ _ (G3 hc)
  obtain⟨cv,_,hcI⟩:=hc1 c (List.mem_of_getElem? hc)
  have hc64:c<64:=by have:=hcI.lt;omega
  have hc32:c<4294967296:=by omega
  have hpop:E11 c<=6:=E15 _ _
  have hnext:(cs.take (i+1)).filter (fun c=>decide (c &&& bnd N f≠0))=(cs.take i).filter (fun c=>decide (c &&& bnd N f≠0))++(if c &&& bnd N f=0 then [] else [c]):=by
   rw[K9 hc,List.filter_append]
   congr 1
   by_cases h0:c &&& bnd N f=0<;>simp[h0]
  have hfl:((cs.take i).filter fun c=>decide (c &&& bnd N f≠0)).length<=6:=by
   have:=List.length_filter_le (fun c=>decide (c &&& bnd N f≠0)) (cs.take i)
   rw[List.length_take] at this;omega
  by_cases h0:c &&& bnd N f=0
  .rw[if_pos h0,List.append_nil] at hnext
   simp (config:={ maxSteps:=2000000 }) (disch:=first|omega|assumption) only[W0,hi',Y3 hrow,q0,K3,h0]
   exact hih (m-1) _ _ _ (by omega) ⟨i+1,v,by omega,by simp,by rw[hnext];exact hA,hE9⟩
  .rw[if_neg h0] at hnext
   have h0':¬ ((c &&& bnd N f:Nat):Int)=0:=by omega
   simp (config:={ maxSteps:=2000000 }) (disch:=first|omega|assumption) only[W0,hi',Y3 hrow,q0,K3,h0']
   refine K0 (J67 hc64 _ _) ?_
   rintro _ H11 nx11 ⟨rfl,hE11⟩
   have hg8:¬ (E11 c:Int) > 8:=by omega
   simp (config:={ maxSteps:=2000000 }) (disch:=first|omega|assumption) only[W0,hg8,V48]
   have hE12:D0 H11 nx11 (hs H11 nx11 (some (.cells [.int .u32 (c:Int)] 0))) (nx11+1):=(D0.refl _ _).new _ (Nat.le_refl _) (by omega)
   have hle11:=hE11.le
   refine N16 (H0:=H8) (lo:=nx8) (m:=1) (l:=[.int .u32 (c:Int)]) (by omega) ((hA.ext hE11).ext hE12) (Z8 (Q0 _ _ _) rfl (by omega)) (by omega) rfl (by omega) (by omega) ((hE9.trans hE11).trans hE12) (by omega) ?_
   intro v' H' hA' hE' _
   refine hih (m-1) _ _ _ (by omega) ⟨i+1,v',by omega,by simp,?_,hE'⟩
   rw[hnext,V34,List.length_append]
   exact hA'
 have hi':¬ (i:Int)<(cs.length:Int):=by omega
 rw[M29 hi,<- hcB] at hA
 clear hih
 obtain⟨CA,rfl,hCA⟩:=hA.sl
 have g92:=(hE9.get nx (by omega)).trans g82
 have g95:=(hE9.get (nx+1) (by omega)).trans g85
 have hE09:=hE08.trans hE9
 simp (config:={ maxSteps:=2000000 }) (disch:=first|omega|assumption) only[W0,hi',g92]
 have horl:=G36 hsm
 refine E1 (m:=es.length) (fun m L H' nx'=>∃ i:Nat,m+i=es.length/\L=[.int .u32 (orF es i:Int),.int .i64 (i:Int)]/\H9=H'/\nx9=nx') ?_ ⟨0,by omega,rfl,rfl,rfl⟩
 rintro m2 ih2 L2 _ _ ⟨i2,hm2,rfl,rfl,rfl⟩ hih2
 by_cases hi2:i2<es.length
 .have hi2':(i2:Int)<(es.length:Int):=by omega
  obtain⟨e,he⟩:∃ e,es[i2]? = some e:=⟨_,List.getElem?_eq_getElem hi2⟩
  obtain⟨B,o,row,rfl,hBn,hrow,hget⟩:=(hS.ext hE09).open (i:=i2) (by rw[G1];omega)
  have q0:=hget _ _ (G3 he)
  have he32:=hsm32.get he
  have h1:=horl i2 (by omega)
  have h132:orF es i2<4294967296:=by omega
  simp (config:={ maxSteps:=2000000 }) (disch:=first|omega|assumption) only[W0,hi2',Y3 hrow,q0]
  exact hih2 (m2-1) _ _ _ (by omega) ⟨i2+1,by omega,by rw[N48 he];simp,rfl,rfl⟩
 have hi2':¬ (i2:Int)<(es.length:Int):=by omega
 obtain rfl:i2=es.length:=by omega
 clear hih2
 simp (config:={ maxSteps:=2000000 }) (disch:=first|omega|assumption) only[W0,hi2',g92]
 refine K0 (C54 (n:=N) (by omega) _ _) ?_
 rintro _ _ _ ⟨rfl,rfl,rfl⟩
 have horE:=horl es.length (Nat.le_refl _)
 by_cases hco:orF es es.length=2^N-1
 case neg=>
  have hco':¬ (orF es es.length:Int)=((2^N-1:Nat):Int):=by omega
  simp (config:={ maxSteps:=2000000 }) (disch:=first|omega|assumption) only[W0,Z0,Nat.reduceAdd,hco',ne_eq,not_false_eq_true,hz32,g95,G5,D3]
  exact⟨hE09.hs (by omega),.inl ⟨hco,rfl⟩⟩
 have hcov:∀ w,w<N->∃ e ∈ es,e.testBit w=true:=fun w hw=>N28.1 (by rw[hco,Nat.testBit_two_pow_sub_one];simpa using hw)
 simp (config:={ maxSteps:=2000000 }) (disch:=first|omega|assumption) only[W0,hco,ne_eq,not_true_eq_false,g92,J3]
 have hE10:D0 H nx H9 (nx9+8):=hE09.more (by omega)
 refine K0 (V89 (n:=N) (by omega) A es cap _ _ (hS.ext hE10) hsm (by omega) hgc) ?_
 rintro _ H19 nx19 ⟨rfl,hE19⟩
 have hle19:=hE19.le
 have g192:=(hE19.get nx (by omega)).trans g92
 have g195:=(hE19.get (nx+1) (by omega)).trans g95
 have hnl:=B16 es N
 simp (config:={ maxSteps:=2000000 }) (disch:=first|omega|assumption) only[W0,Z0,G71,Q72 hnl,g192,J3]
 have hone:Z0 (N1 (E4 es N)++[Value.map (some (nx9+3)),Value.map (some (nx9+4))])=true:=V40 0 none 0 0 _ _ _
 refine (@if_pos _ _ hone _ _ _).mpr ?_
 generalize hK22:hs (hs (hs H19 (nx9+6) (some (.cells (.int .i64 N :: .slice A es.length cap :: (N1 (E4 es N)++[.map (some (nx9+3)),.map (some (nx9+4))])) 0))) (nx9+4) (some (.map [] 0))) (nx9+3) (some (.map [] 0))=H22
 have s6:X0 H22 (nx9+6)=some (.cells (J24 N A es.length cap (E4 es N) (nx9+3) (nx9+4)) 0):=by rw[<- hK22,M0 _ (by omega),M0 _ (by omega),Q0];rfl
 have s4:X0 H22 (nx9+4)=some (.map [] 0):=by rw[<- hK22,M0 _ (by omega),Q0]
 have s3:X0 H22 (nx9+3)=some (.map [] 0):=by rw[<- hK22,Q0]
 have hE922:D0 H9 nx9 H22 nx19:=by
  rw[<- hK22]
  exact ((((D0.self (by omega):D0 H9 nx9 H9 (nx9+8)).trans hE19).hs (by omega)).hs (by omega)).hs (by omega)
 have g222:=(hE922.get nx (by omega)).trans g92
 have g225:=(hE922.get (nx+1) (by omega)).trans g95
 clear hK22
 have hSV:SV H22 nx19 (nx9+6) (nx9+3) (nx9+4) N A cap es (E4 es N) (D62 es N f):=
  ⟨s6,by omega,by omega,by omega,hnl,(hS.ext hE09).ext hE922,⟨_,C8.nil s3,fun n v h=>by cases h⟩,⟨_,C8.nil s4,fun n v h=>by cases h⟩,by omega⟩
 have hcomp:∀ c ∈ E5 es N f,c<2^N:=fun c hc=>by
  rw[hcB] at hc
  obtain⟨v,_,hI⟩:=hc1 c (List.mem_filter.1 hc).1
  exact hI.lt
 have hcbl:(E5 es N f).length<=32:=by
  have:=List.length_filter_le (fun c=>decide (c &&& bnd N f≠0)) cs
  rw[<- hcB] at this;omega
 have hL:∀ c ∈ E5 es N f,∀ l,l≠0->(∀ w,l.testBit w=true->c.testBit w=true)->D62 es N f l=V10 N (C6 es (E4 es N) N c) l:=fun c hc l h0 hl=>V91 hN hc h0 hl
 have hwS:=fun i hi=>Z37 (es:=es) hf hle i hi
 have hw0:wI es N f 0=fwI es N (Q9 es N f (upK f (N-f))) f:=rfl
 have hwN:=fun i c h=>C69 (es:=es) (N:=N) (f:=f) (i:=i) (c:=c) h
 have hCA22:=hCA.ext hE922
 have hE022:=hE09.trans hE922
 refine K0 (G62 hSV hN hsm hle hcov hf) ?_
 rintro v23 H23 nx23 ⟨hv23,hs23,hk23⟩
 rw[<- hw0] at hv23
 obtain⟨c23,rfl,hc23⟩:=hv23.num
 have hle23:=hk23.le
 have hE25:D0 H23 nx23 (hs (hs H23 nx23 (some (.cells [.bool false,.slice none 0 0,.slice none 0 0] 0))) nx23 (some (.cells c23 0))) (nx23+1):=((D0.refl _ _).new _ (Nat.le_refl _) (m:=nx23+1) (by omega)).hs (Nat.le_refl _)
 have g25:X0 (hs (hs H23 nx23 (some (.cells [.bool false,.slice none 0 0,.slice none 0 0] 0))) nx23 (some (.cells c23 0))) nx23=some (.cells c23 0):=Q0 _ _ _
 simp (config:={ maxSteps:=2000000 }) (disch:=first|omega|assumption) only[W0,Nat.reduceAdd,hc23.three,hc23.one,Z5 (show c23.length=[Value.bool false,.slice none 0 0,.slice none 0 0].length from hc23.three)]
 generalize hs (hs H23 nx23 (some (.cells [.bool false,.slice none 0 0,.slice none 0 0] 0))) nx23 (some (.cells c23 0))=H25 at *
 have h25:=hs23.ext hE25
 have hk25:=hk23.trans hE25.kp
 have hv25:=hv23.ext hE25
 clear hE25 hs23 hk23 hv23
 have hic:=hSV.ic
 have hil2:=hSV.il
 refine E1 (m:=(E5 es N f).length) (fun m L' H' nx'=>∃ (i:Nat) (c:List Value),m+i=(E5 es N f).length/\L'=[.int .i64 (i:Int)]/\SV H' nx' (nx9+6) (nx9+3) (nx9+4) N A cap es (E4 es N) (D62 es N f)/\Kp H22 nx19 (nx9+3) (nx9+4) H' nx'/\nx23+1<=nx'/\G9 c/\X0 H' nx23=some (.cells c 0)/\RR H' nx' (.agg ⟨c⟩) (wI es N f i)) ?_
  ⟨0,c23,by omega,rfl,h25,hk25,Nat.le_refl _,hc23,g25,hv25⟩
 rintro m3 ih3 L3 H26 nx26 ⟨i3,c,hm3,rfl,h26,hk26,hle26,hc,g26,hr26⟩ hih3
 have hCA26:=hCA22.kp hk26 hic hil2
 by_cases hi3:i3<(E5 es N f).length
 .have hi3':(i3:Int)<((E5 es N f).length:Int):=by omega
  obtain⟨cc,hcc⟩:∃ cc,(E5 es N f)[i3]? = some cc:=⟨_,List.getElem?_eq_getElem hi3⟩
  obtain⟨B,o,row,rfl,hBn,hrow,hget⟩:=hCA26.open (i:=i3) (by rw[G1];omega)
  have q0:=hget _ _ (G3 hcc)
  have hccm:=List.mem_of_getElem? hcc
  have hcN:=hcomp cc hccm
  simp (config:={ maxSteps:=2000000 }) (disch:=first|omega|assumption) only[W0,hi3',Y3 hrow,q0,g26,Q3 hc]
  have hX:D0 H26 nx26 H26 (nx26+7):=D0.self (by omega)
  have h26':=h26.ext hX
  refine K0 (N53 hN hsm hle R29 hcov hcN (hL cc hccm) cc hcN (fun w hw=>hw) H26 (nx26+7) h26') ?_
  rintro v28 H28 nx28 ⟨hv28,h28,hk28⟩
  have g28:=hk28.cell h26'.ic h26'.il (by omega) g26
  have hle28:=hk28.le
  have hr28:=(hr26.ext hX).kp hk28 h26'.ic h26'.il
  refine K0 (B37 hr28 hv28 (hwS i3 (by omega)) (Z52 hle _)) ?_
  rintro v29 H29 nx29 ⟨hv29,hE29⟩
  obtain⟨c29,rfl,hc29⟩:=hv29.num
  have g29:=(hE29.get nx23 (by omega)).trans g28
  have hle29:=hE29.le
  simp (config:={ maxSteps:=2000000 }) (disch:=first|omega|assumption) only[W0,g29,g28,Q3 hc,hc29.three,hc29.one,Z5 (show c29.length=c.length by rw[hc29.three,hc.three])]
  refine⟨by rw[hc.three];omega,hih3 (m3-1) _ _ _ (by omega) ⟨i3+1,c29,by omega,by simp,(h28.ext hE29).boxs g29 (G9.noU hc) (by omega),((hk26.trans (hX.kp.trans hk28)).trans hE29.kp).hs (.inl (by omega)),by omega,hc29,Q0 _ _ _,?_⟩⟩
  rw[hwN i3 cc hcc]
  exact hv29.boxs g29 (D23 hc) (.inl rfl)
 have hi3':¬ (i3:Int)<((E5 es N f).length:Int):=by omega
 obtain rfl:i3=(E5 es N f).length:=by omega
 clear hih3
 have hX:D0 H26 nx26 H26 (nx26+8):=D0.self (by omega)
 have h26':=h26.ext hX
 have hb:J7 es N f=wI es N f (E5 es N f).length:=rfl
 rw[<- hb] at hr26
 have hbS:X4 (J7 es N f) 100000:=hwS _ (Nat.le_refl _)
 simp (config:={ maxSteps:=2000000 }) (disch:=first|omega|assumption) only[W0,hi3',g26,Q3 hc]
 refine K0 (V86 h26' hN hsm hle R29 hcov (hCA26.ext hX) (hr26.ext hX) hbS hcbl hcomp hL) ?_
 rintro _ H32 nx32 ⟨⟨B32,rfl,hB32⟩,hk32⟩
 have hle32:=hk32.le
 have hr32:=(hr26.ext hX).kp hk32 h26'.ic h26'.il
 have g32:=hk32.cell h26'.ic h26'.il (by omega) g26
 have hkA:Kp H22 nx19 (nx9+3) (nx9+4) H32 nx32:=hk26.trans (hX.kp.trans hk32)
 have g325:=hkA.cell hic hil2 (by omega) g225
 simp (config:={ maxSteps:=2000000 }) (disch:=first|omega|assumption) only[W0,Nat.reduceAdd,g32,Q3 hc,g325,hc.three,hc.one,Z5 (show c.length=[Value.bool false,.slice none 0 0,.slice none 0 0].length from hc.three)]
 have hfin:D0 H nx H32 nx32:=⟨by have:=hkA.le;omega,fun q hq=>(hkA.get q (by omega) (by omega) (by omega)).trans (hE022.get q hq)⟩
 refine⟨hfin.hs (by omega),.inr ⟨B32,_,rfl,?_,hr32.boxs g325 (X8 rfl) (.inl rfl)⟩⟩
 refine hB32.write g325 fun x hx hr => ?_
 obtain⟨y,_,rfl⟩:=List.mem_map.1 hx
 simp at hr
end Go.Proofs.YtpiobdofbhkmjaaDoor

namespace Go.Clo
variable {A:Nat->Nat->Prop} {P Q:Nat->Prop} {u v w:Nat}
inductive E9 (A:Nat->Nat->Prop) (P:Nat->Prop):Nat->Nat->Prop
 | one {u w:Nat}:A u w->E9 A P u w
 | more {u x w:Nat}:A u x->P x->E9 A P x w->E9 A P u w
theorem E9.mono (h:∀ x,P x->Q x) (r:E9 A P u w):E9 A Q u w:=by
 induction r with
 | one h1=>exact .one h1
 | more h1 h2 _ ih=>exact .more h1 (h _ h2) ih
theorem E9.trans {x:Nat} (r:E9 A P u x) (hx:P x) (s:E9 A P x w):E9 A P u w:=by
 induction r with
 | one h1=>exact .more h1 hx s
 | more h1 h2 _ ih=>exact .more h1 h2 (ih hx s)
theorem E9.symm (hA:∀ a b,A a b->A b a) (r:E9 A P u w):E9 A P w u:=by
 induction r with
 | one h1=>exact .one (hA _ _ h1)
 | more h1 h2 _ ih=>exact ih.trans h2 (.one (hA _ _ h1))
theorem E9.split (h:∀ x,Q x->P x\/x=v) (r:E9 A Q u w):E9 A P u w\/(E9 A P u v/\E9 A P v w):=by
 induction r with
 | one h1=>exact .inl (.one h1)
 | @more a x b h1 h2 _ ih=>
  rcases h x h2 with hx | rfl
  .rcases ih with ih | ⟨i1,i2⟩
   .exact .inl (.more h1 hx ih)
   .exact .inr ⟨.more h1 hx i1,i2⟩
  .rcases ih with ih | ⟨i1,i2⟩
   .exact .inr ⟨.one h1,ih⟩
   .exact .inr ⟨.one h1,i2⟩
theorem E9.join (hA:∀ a b,A a b->A b a) (h:∀ x,P x->Q x) (hv:Q v) (r:E9 A P v u) (s:E9 A P v w):E9 A Q u w:=
 ((r.symm hA).mono h).trans hv (s.mono h)
end Go.Clo

namespace Go.Proofs.YtpiobdofbhkmjaaDoor
open Go.Clo
variable {N v:Nat} {es:List Nat}
def R18 (es:List Nat) (a b:Nat):Prop:=adj es a b=true
theorem G58 (es:List Nat):∀ a b,R18 es a b->R18 es b a:=fun a b h=>by unfold R18 at *;rw[Z50];exact h
def M38 (es:List Nat) (pre rest:List Nat) (N:Nb):Prop:=∀ a b,a ∈ rest->b ∈ rest->a≠b->(N a b=true<->E9 (R18 es) (· ∈ pre) a b)
theorem M38.start (es:List Nat) (rest:List Nat):M38 es [] rest (adj es):=fun a b _ _ _=>by
 constructor
 .exact fun h => .one h
 .intro h
  cases h with
  | one h=>exact h
  | more _ h _=>simp at h
theorem M38.step {pre rest:List Nat} {v:Nat} {N:Nb} (h:M38 es pre (v :: rest) N) (hv:v ∉ rest):M38 es (pre++[v]) rest (Y17 N v rest):=by
 intro a b ha hb hab
 have hva:v≠a:=fun e=>hv (e ▸ ha)
 have hvb:v≠b:=fun e=>hv (e ▸ hb)
 have h1:=h a b (by simp[ha]) (by simp[hb]) hab
 have h2:=h v a (by simp) (by simp[ha]) hva
 have h3:=h v b (by simp) (by simp[hb]) hvb
 have e:Y17 N v rest a b=true<->N a b=true\/(N v a=true/\N v b=true):=by
  simp[Y17,V6,ha,hb,hab]
 rw[e,h1,h2,h3]
 constructor
 .rintro (g | ⟨g1,g2⟩)
  .exact g.mono fun x hx=>by simp[hx]
  .exact E9.join (G58 es) (fun x hx=>by simp[hx]) (by simp) g1 g2
 .intro g
  rcases g.split (P:=(· ∈ pre)) (v:=v) (fun x hx=>by simpa using hx) with g | ⟨g1,g2⟩
  .exact .inl g
  .exact .inr ⟨g1.symm (G58 es),g2⟩
theorem U62 {n:Nat} (es:List Nat):∀ (order pre:List Nat) (out:List Bag) (N:Nb),M38 es pre order N->order.Nodup->∀ (p1 p2:List Nat) (v:Nat),order=p1++v :: p2->v<out.length ->
  ∃ (b:Bag),(X16 n out N order)[v]? = some b/\b.var=v/\∀ w,b.key.testBit w=true<->w<n/\w ∈ p2/\E9 (R18 es) (fun x=>x ∈ pre\/x ∈ p1) v w
 | [],pre,out,N,hA,hnd,p1,p2,v,e,hv=>by simp at e
 | u :: rest,pre,out,N,hA,hnd,p1,p2,v,e,hv=>by
  rw[List.nodup_cons] at hnd
  cases p1 with
  | nil=>
   simp at e
   obtain⟨rfl,rfl⟩:=e
   have hkeep:∀ (o:List Nat) (out:List Bag) (N:Nb),u ∉ o->(X16 n out N o)[u]? = out[u]? := by
    intro o
    induction o with
    | nil=>exact fun _ _ _=>rfl
    | cons x o ih=>
     intro out N hx
     simp at hx
     show (X16 n (out.set x _) _ o)[u]? = _
     rw[ih _ _ hx.2,List.getElem?_set,if_neg (Ne.symm hx.1)]
   refine⟨N38 n N u rest,?_,rfl,fun w => ?_⟩
   .show (X16 n (out.set u (N38 n N u rest)) _ rest)[u]? = _
    rw[hkeep _ _ _ hnd.1,List.getElem?_set,if_pos rfl,if_pos hv]
   .show (G4 (V6 N u rest) n).testBit w=true<->_
    rw[X9]
    simp only[V6,Bool.and_eq_true,decide_eq_true_eq]
    constructor
    .rintro⟨h1,h2,h3⟩
     refine⟨h1,h3,((hA u w (by simp) (by simp[h3]) (fun e=>hnd.1 (e ▸ h3))).1 h2).mono fun x hx => .inl hx⟩
    .rintro⟨h1,h2,h3⟩
     refine⟨h1,(hA u w (by simp) (by simp[h2]) (fun e=>hnd.1 (e ▸ h2))).2 (h3.mono fun x hx => ?_),h2⟩
     rcases hx with hx | hx
     .exact hx
     .simp at hx
  | cons q p1=>
   simp at e
   obtain⟨rfl,e⟩:=e
   obtain⟨b,h1,h2,h3⟩:=U62 es rest (pre++[u]) (out.set u (N38 n N u rest)) (Y17 N u rest) (hA.step hnd.1) hnd.2 p1 p2 v e (by rw[List.length_set];exact hv)
   refine⟨b,h1,h2,fun w => ?_⟩
   rw[h3 w]
   constructor
   .rintro⟨g1,g2,g3⟩
    refine⟨g1,g2,g3.mono fun x hx => ?_⟩
    rcases hx with hx | hx
    .simp at hx
     rcases hx with hx | rfl
     .exact .inl hx
     .exact .inr (by simp)
    .exact .inr (by simp[hx])
   .rintro⟨g1,g2,g3⟩
    refine⟨g1,g2,g3.mono fun x hx => ?_⟩
    rcases hx with hx | hx
    .exact .inl (by simp[hx])
    .simp at hx
     rcases hx with rfl | hx
     .exact .inl (by simp)
     .exact .inr hx
def RB (es:List Nat) (P:Nat->Prop) (v w:Nat):Prop:=w=v\/(¬ P w/\E9 (R18 es) P v w)
theorem X53 {es:List Nat} (hsm:∀ e ∈ es,e<2^N) {a b:Nat} (h:adj es a b=true):a<N/\b<N:=by
 unfold adj at h
 simp only[Bool.and_eq_true,List.any_eq_true] at h
 obtain⟨_,e,he,h1,h2⟩:=h
 exact⟨X11 (hsm e he) h1,X11 (hsm e he) h2⟩
theorem E83 {es:List Nat} (hsm:∀ e ∈ es,e<2^N) {P:Nat->Prop} {u w:Nat} (h:E9 (R18 es) P u w):w<N:=by
 induction h with
 | one h=>exact (X53 hsm h).2
 | more _ _ _ ih=>exact ih
theorem K26 {es:List Nat} {n f:Nat} {l:List Int} (hn:n<=32) (hsm:∀ e ∈ es,e<2^n) (hp:M15 l f n) {p1 p2:List Nat} (e:Y39 n f l=p1++v :: p2):
  ∃ b,(Q9 es n f l)[v]? = some b/\∀ w,(X6 b).testBit w=true<->RB es (· ∈ p1) v w:=by
 obtain⟨order,h1,h2,h3,h4⟩:=C27 hp
 obtain rfl:=E42 (n:=n) h1
 have hvn:v<n:=h3 v (by rw[e];simp)
 obtain⟨b,g1,g2,g3⟩:=U62 (n:=n) es (Y39 n f l) [] (List.replicate n Y11) (adj es) (M38.start es _) h2 p1 p2 v e (by simpa using hvn)
 refine⟨b,g1,fun w => ?_⟩
 have hs:X6 b=b.key ||| 2^v:=by
  unfold X6
  rw[if_neg (by omega),g2];rfl
 rw[hs,Nat.testBit_or,Bool.or_eq_true,g3,Nat.testBit_two_pow]
 have hmem:∀ x,x<n->x ∈ p1\/x=v\/x ∈ p2:=fun x hx=>by
  have:=G32 h2 h3 h4 hx
  rw[e] at this;simpa using this
 rw[e] at h2
 have hnd:=List.nodup_append.1 h2
 have hPP:∀ {w},E9 (R18 es) (fun x=>x ∈ ([]:List Nat)\/x ∈ p1) v w<->E9 (R18 es) (· ∈ p1) v w:=by
  intro w
  constructor
  .exact fun h=>h.mono fun x hx=>by simpa using hx
  .exact fun h=>h.mono fun x hx => .inr hx
 rw[hPP]
 unfold RB
 constructor
 .rintro (⟨a1,a2,a3⟩ | a)
  .right
   exact⟨fun hw=>hnd.2.2 w hw w (by simp[a2]) rfl,a3⟩
  .left
   have ev:v=w:=by simpa using a
   exact ev.symm
 .rintro (rfl | ⟨a1,a2⟩)
  .right;simp
  .have hw:=E83 hsm a2
   by_cases ev:w=v
   .right;simp[ev]
   .left
    refine⟨hw,?_,a2⟩
    rcases hmem w hw with h | h | h
    .exact absurd h a1
    .exact absurd h ev
    .exact h
end Go.Proofs.YtpiobdofbhkmjaaDoor
