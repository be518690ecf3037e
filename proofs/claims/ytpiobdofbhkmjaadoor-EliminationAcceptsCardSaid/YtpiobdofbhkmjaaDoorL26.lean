/-
  Contracts: nat.divLong,nat.DivMod.
  Contract: nat.DivMod.
  Contracts: rat.common (the greatest common divisor).
-/
import Derived.Test.YtpiobdofbhkmjaaDoorL25
import Derived.Test.YtpiobdofbhkmjaaDoorL18
set_option linter.unusedSimpArgs false
set_option linter.unusedVariables false
set_option linter.unusedSectionVars false
namespace Go.Clo
theorem R22 {a n:Nat} (h:a<=n):Z11 (some (.int .i64 (a:Int))) n=some a:=by
 show (match (Value.int .i64 (Int.ofNat a)) with | .int _ (.ofNat i)=>cond (Nat.ble i n) (some i) none | _=>none)=_
 simp[B6 h]
theorem W94 {H:Y0} {b o n c l h:Nat} {row:List Value} (hg:X0 H b=some (.cells row 0)) (hl:l<c) (hlh:l<=h) (hh:h<=c) (k:VP):
  wSl (.slice (some ⟨b,o,none⟩) n c) 1 (some (.int .i64 (l:Int))) (some (.int .i64 (h:Int))) none H k=k (.slice (some ⟨b,o+l,none⟩) (h-l) (c-l)):=by
 have e:G11 (some ⟨b,o,none⟩) n c 1 (some (.int .i64 (l:Int))) (some (.int .i64 (h:Int))) none false=some (.slice (some ⟨b,o+l,none⟩) (h-l) (c-l)):=by
  have e1:Z11 none c=some c:=rfl
  have e2:hiA (some (.int .i64 (h:Int))) none n c=some h:=R22 hh
  have e3:loA (some (.int .i64 (l:Int))) h=some l:=R22 hlh
  simp only[G11,e1,e2,e3,W38 (show c≠l by omega),B6 (show l<=c by omega)]
  simp
 unfold wSl
 dsimp only
 rw[W6,hg]
 simp only[Option.elim_some,slB]
 rw[show C10 (.cells row 0) o c 1=some false from rfl]
 dsimp only
 rw[e]
 exact J8 _ _
theorem J77 {H:Y0} {b o n c h:Nat} {row:List Value} (hg:X0 H b=some (.cells row 0)) (hh:h<=c) (k:VP):
  wSl (.slice (some ⟨b,o,none⟩) n c) 1 none (some (.int .i64 (h:Int))) none H k=k (.slice (some ⟨b,o,none⟩) h c):=by
 have e:G11 (some ⟨b,o,none⟩) n c 1 none (some (.int .i64 (h:Int))) none false=some (.slice (some ⟨b,o,none⟩) h c):=by
  have e1:Z11 none c=some c:=rfl
  have e2:hiA (some (.int .i64 (h:Int))) none n c=some h:=R22 hh
  have e3:loA none h=some 0:=rfl
  simp only[G11,e1,e2,e3,B6 (Nat.zero_le c)]
  cases Nat.beq c 0<;>simp
 unfold wSl
 dsimp only
 rw[W6,hg]
 simp only[Option.elim_some,slB]
 rw[show C10 (.cells row 0) o c 1=some false from rfl]
 dsimp only
 rw[e]
 exact J8 _ _
theorem E60 (ds:List Nat) (j:Nat):val ds=val (ds.take j)+4294967296^j*val (ds.drop j)\/ds.length<j:=by
 by_cases h:j<=ds.length
 .refine .inl ?_
  have:=X28 (ds.take j) (ds.drop j)
  rw[List.take_append_drop,List.length_take,Nat.min_eq_left h] at this
  exact this
 .exact .inr (by omega)
theorem U35 {ds:List Nat} {j:Nat} (h:j<=ds.length):val ds=val (ds.take j)+4294967296^j*val (ds.drop j):=(E60 ds j).resolve_right (by omega)
theorem Y83 {R R':List Nat} {j:Nat} (h:∀ q,q<j->R'[q]? = R[q]?):R'.take j=R.take j:=by
 apply List.ext_getElem?
 intro q
 rw[List.getElem?_take,List.getElem?_take]
 split
 .exact h q (by assumption)
 .rfl
theorem D80 {R R':List Nat} {j:Nat} (h:∀ q,j<=q->R'[q]? = R[q]?):R'.drop j=R.drop j:=by
 apply List.ext_getElem?
 intro q
 rw[List.getElem?_drop,List.getElem?_drop]
 exact h _ (by omega)
theorem G82 {Q D g w P P':Nat} (hD:0<D) (hDQ:D<Q) (hP':P'<Q) (hg1:P/D<=g) (hg2:g<=P/D+1) (hw:w<=1) (h:P'+g*D=P+Q*w):(w=0->g=P/D/\P'=P%D)/\(w=1->g=P/D+1/\P'+D=P%D+Q):=by
 have hdm:=Nat.div_add_mod P D
 have hm:=Nat.mod_lt P hD
 rw[Nat.mul_comm] at hdm
 have hg:g=P/D\/g=P/D+1:=by omega
 generalize P/D=q at *
 generalize P%D=r at *
 constructor
 .rintro rfl
  rcases hg with rfl | rfl
  .exact⟨rfl,by omega⟩
  .rw[Nat.add_mul,Nat.one_mul] at h;omega
 .rintro rfl
  rcases hg with rfl | rfl
  .omega
  .rw[Nat.add_mul,Nat.one_mul] at h;exact⟨rfl,by omega⟩
end Go.Clo
namespace Go.Proofs.YtpiobdofbhkmjaaDoor
open Go.Clo
theorem C34 {b o c:Nat} {ds:List Nat} {row:List Nat} {H:Y0} {nx:Nat} (hb:b<nx) (hg:X0 H b=some (.cells (N1 row) 0)) (hp:∀ (i d:Nat),ds[i]? = some d->row[o+i]? = some d) (hs:Z4 ds) (hc:ds.length<=c):Dg H nx (some ⟨b,o,none⟩) c ds:=
 ⟨fun i v hv=>by
  simp only[N1,List.getElem?_map,Option.map_eq_some_iff] at hv
  obtain⟨d,hd,rfl⟩:=hv
  exact⟨b,o,_,rfl,hb,by rw[V3,hg];rfl,G3 (hp i d hd)⟩,SK.new hb hg,hs,hc⟩
set_option maxRecDepth 10000 in
set_option maxHeartbeats 4000000 in
theorem J74 {A C:Option Addr} {a b n:Nat} {H:Y0} {nx:Nat} (hA:Dg H nx A (R0 a).length (R0 a)) (hC:Dg H nx C (R0 b).length (R0 b)) (hn:(R0 b).length=n+2) (hab:b<=a) (hl:(R0 a).length<500000):
  J2 Tryd.prog 73 [.slice A (R0 a).length (R0 a).length,.slice C (R0 b).length (R0 b).length] H nx fun r H' nx'=>D0 H nx H' nx'/\∃ (bq br Lq Lr:Nat) (qs rs:List Nat),r = .tuple ⟨[.slice (some ⟨bq,0,none⟩) Lq Lq,.slice (some ⟨br,0,none⟩) Lr Lr]⟩ /\
   bq<nx'/\br<nx'/\X0 H' bq=some (.cells (N1 qs) 0)/\X0 H' br=some (.cells (N1 rs) 0)/\qs.length=Lq/\rs.length=Lr/\Lq<1000000/\Lr<1000000/\Z4 qs/\Z4 rs/\val qs=a/b/\val rs=a%b:=by
 refine spec73 ?_
 unfold F73
 have hLab:(R0 b).length<=(R0 a).length:=by
  rcases Nat.lt_or_ge (R0 a).length (R0 b).length with g | g
  .have:=C13 g;omega
  .exact g
 have hbpos:0<b:=by
  rcases Nat.eq_zero_or_pos b with e | e
  .subst e;rw[Z6] at hn;simp at hn
  .exact e
 obtain⟨top,htop,htp,_⟩:=C25 hbpos
 rw[hn,show n+2-1=n+1 by omega] at htop
 have htop32:=hC.small.get htop
 have hva:=C5 a
 have hvb:=C5 b
 have hbl:=U13 b
 have hbg:=C39 hbpos
 have hal:=U13 a
 generalize R0 a=xs at *
 generalize R0 b=ys at *
 rw[hn] at hLab hbl hbg
 rw[hn]
 obtain⟨bC0,oC0,rowC0,hCe,_,hrowC0,hgC0⟩:=hC.sl.open (i:=n+1) (by rw[G1];omega)
 have gt:=hgC0 _ _ (G3 htop)
 subst hCe
 have c1:((n+2:Nat):Int)-1=((n+1:Nat):Int):=by omega
 simp (disch:=first|omega|assumption) only[W0,B0.val,c1,Y3 hrowC0,gt]
 refine K0 (B83 htop32 H nx) ?_
 rintro _ _ _ ⟨rfl,rfl,rfl⟩
 have hbt:=N32 (n:=top) (b:=32) htop32
 have hbt2:=X13 htp
 obtain⟨s,hse⟩:∃ s,s=32-W4 top:=⟨_,rfl⟩
 have hs32:s<32:=by omega
 rw[<- hse]
 simp (disch:=first|omega|assumption) only[Y6 _ (show s<18446744073709551616 by omega)]
 have hS1:=U42 (s:=s) hC (by omega) hs32
 rw[hn] at hS1
 refine K0 hS1 ?_
 rintro _ H2 nx2 ⟨rfl,hnx2,hE2,V0,hgV,hV0l,hV0s,hV0v⟩
 have hp2:2^W4 top*2^s=4294967296:=by rw[<- Nat.pow_add,show W4 top+s=32 by omega]
 have hbsplit:b=val (ys.take (n+1))+4294967296^(n+1)*top:=by
  have h0:=C19 htop
  rw[List.drop_of_length_le (by omega),val,hvb] at h0
  exact h0
 have htk:=D10 hC.small (n+1)
 have hbtop:=M25 top
 have hbtop2:=V26 htp
 obtain⟨D,hD⟩:∃ D,D=b*2^s:=⟨_,rfl⟩
 have hP1:0<4294967296^(n+1):=Nat.pow_pos (by omega)
 have hDlt:D<4294967296^(n+2):=by
  have h1:b<4294967296^(n+1)*2^W4 top:=by
   have h2:=Nat.mul_le_mul_left (4294967296^(n+1)) (show top+1<=2^W4 top from hbtop)
   rw[Nat.mul_add (4294967296^(n+1)) top 1,Nat.mul_one] at h2
   omega
  have h3:=Nat.mul_lt_mul_of_pos_right h1 (Nat.two_pow_pos s)
  rw[Nat.mul_assoc,hp2,<- Nat.pow_succ,<- hD] at h3
  exact h3
 have hDge:4294967296^(n+1)*2147483648<=D:=by
  have h1:4294967296^(n+1)*2^(W4 top-1)<=b:=by
   have h2:=Nat.mul_le_mul_left (4294967296^(n+1)) hbtop2
   omega
  have h3:=Nat.mul_le_mul_right (2^s) h1
  rw[Nat.mul_assoc,<- Nat.pow_add,show W4 top-1+s=31 by omega,<- hD] at h3
  exact h3
 have hDpos:0<D:=by have:=Nat.mul_pos hP1 (show 0<2147483648 by omega);omega
 have hV0v':val V0=D:=by rw[hV0v,hvb,hD]
 obtain⟨vs,hvs⟩:∃ vs,vs=V0.take (n+2):=⟨_,rfl⟩
 have hvsl:vs.length=n+2:=by rw[hvs];simp;omega
 have hvss:Z4 vs:=by rw[hvs];exact G25 hV0s _
 have hvsv:val vs=D:=by
  have h1:=U35 (ds:=V0) (j:=n+2) (by omega)
  rw[<- hvs,hV0v'] at h1
  have h0:val (V0.drop (n+2))=0:=by
   rcases Nat.eq_zero_or_pos (val (V0.drop (n+2))) with e | e
   .exact e
   .have:=Nat.mul_le_mul_left (4294967296^(n+2)) (show 1<=val (V0.drop (n+2)) from e)
    omega
  rw[h0,Nat.mul_zero,Nat.add_zero] at h1
  exact h1.symm
 obtain⟨v1,hv1⟩:∃ v1,vs[n+1]? = some v1:=⟨_,List.getElem?_eq_getElem (by omega)⟩
 have hv1top:2147483648<=v1:=by
  have h1:D=val (vs.take (n+1))+4294967296^(n+1)*v1:=by
   have h0:=C19 hv1
   rw[List.drop_of_length_le (by omega),val,hvsv] at h0
   exact h0
  have h2:=D10 hvss (n+1)
  refine Nat.le_of_not_lt fun hlt => ?_
  have h3:=Nat.mul_le_mul_left (4294967296^(n+1)) (show v1+1<=2147483648 from hlt)
  rw[Nat.mul_add (4294967296^(n+1)) v1 1,Nat.mul_one] at h3
  omega
 have hgetV:∀ j v,(N1 vs)[j]? = some v->(N1 V0)[0+j]? = some v:=fun j v h=>by
  rw[hvs,U58,List.getElem?_take] at h
  split at h
  .rw[Nat.zero_add];exact h
  .cases h
 rw[J77 hgV (by omega)]
 have hA2:=hA.ext hE2
 refine K0 (U42 (s:=s) hA2 (by omega) hs32) ?_
 rintro _ H3 nx3 ⟨rfl,hnx3,hE3,U0,hgU,hU0l,hU0s,hU0v⟩
 rw[hva] at hU0v
 obtain⟨N,hN⟩:∃ N,N=a*2^s:=⟨_,rfl⟩
 rw[<- hN] at hU0v
 have c2:((xs.length:Int)-((n+2:Nat):Int))=((xs.length-(n+2):Nat):Int):=by omega
 simp (disch:=first|omega|assumption) only[c2]
 rw[show (((xs.length-(n+2):Nat):Int)+1)=((xs.length-(n+2)+1:Nat):Int) by omega,V12 (by omega),N12]
 obtain⟨Lq,hLq⟩:∃ Lq,Lq=xs.length-(n+2)+1:=⟨_,rfl⟩
 rw[<- hLq]
 have hK3:X0 (Go.Clo.hs H3 nx3 (some (.cells (N1 (List.replicate Lq 0)) 0))) nx3=some (.cells (N1 (List.replicate Lq 0)) 0):=Q0 _ _ _
 have hK2:X0 (Go.Clo.hs H3 nx3 (some (.cells (N1 (List.replicate Lq 0)) 0))) nx2=some (.cells (N1 U0) 0):=by rw[M0 _ (by omega)];exact hgU
 have hK1:X0 (Go.Clo.hs H3 nx3 (some (.cells (N1 (List.replicate Lq 0)) 0))) nx=some (.cells (N1 V0) 0):=by rw[M0 _ (by omega),hE3.get nx hnx2];exact hgV
 have hKE:D0 H nx (Go.Clo.hs H3 nx3 (some (.cells (N1 (List.replicate Lq 0)) 0))) (nx3+1):=(hE2.trans hE3).new _ (by omega) (by omega)
 generalize Go.Clo.hs H3 nx3 (some (.cells (N1 (List.replicate Lq 0)) 0))=K at hK3 hK2 hK1 hKE ⊢
 have hND:N<4294967296^Lq*D:=by
  have h1:a*2^s<4294967296^xs.length*2^s:=Nat.mul_lt_mul_of_pos_right hal (Nat.two_pow_pos s)
  have h2:4294967296^Lq*(4294967296^(n+1)*2^s)<=4294967296^Lq*(b*2^s):=Nat.mul_le_mul_left _ (Nat.mul_le_mul_right _ hbg)
  rw[<- Nat.mul_assoc,<- Nat.pow_add,show Lq+(n+1)=xs.length by omega,<- hD] at h2
  omega
 refine E1 (m:=Lq) (fun m L H' nx'=>∃ (U Q:List Nat),L=[.int .i64 ((m:Int)-1)]/\m<=Lq/\U.length=xs.length+1/\Z4 U/\Q.length=Lq/\Z4 Q/\val U+4294967296^m*(val (Q.drop m)*D)=N/\val U<4294967296^m*D /\
  X0 H' nx2=some (.cells (N1 U) 0)/\X0 H' nx3=some (.cells (N1 Q) 0)/\(∀ i,i<nx3->i≠nx2->X0 H' i=X0 K i)/\nx3<nx') ?_
  ⟨U0,List.replicate Lq 0,by congr 3;omega,Nat.le_refl _,hU0l,hU0s,by simp,W18 _,by rw[List.drop_of_length_le (by simp),val];omega,by rw[hU0v];exact hND,hK2,hK3,fun _ _ _=>rfl,by omega⟩
 rintro m ih L H4 nx4 ⟨U,Q,rfl,hm,hUl,hUs,hQl,hQs,hval,hUD,hgU4,hgQ4,hot,hnx4⟩ hih
 have hEnd:∀ (H5:Y0) (nx5:Nat),nx3<nx5->(∀ i,i<nx3->i≠nx2->X0 H5 i=X0 K i)->D0 H nx H5 nx5:=fun H5 nx5 h1 h2=>⟨by omega,fun i hi=>by rw[h2 i (by omega) (by omega)];exact hKE.get i hi⟩
 by_cases h0:m=0
 .subst h0
  have e2:¬ (0:Int)<=((0:Nat):Int)-1:=by omega
  simp (disch:=first|omega|assumption) only[W0,e2]
  rw[J77 hgU4 (by omega)]
  rw[Nat.pow_zero,Nat.one_mul] at hUD hval
  rw[List.drop_zero] at hval
  have hUv:val (U.take (n+2))=val U:=by
   have h1:=U35 (ds:=U) (j:=n+2) (by omega)
   rcases Nat.eq_zero_or_pos (val (U.drop (n+2))) with e | e
   .rw[e] at h1;omega
   .have:=Nat.mul_le_mul_left (4294967296^(n+2)) (show 1<=val (U.drop (n+2)) from e)
    omega
  have hdg:Dg H4 nx4 (some ⟨nx2,0,none⟩) (xs.length+1) (U.take (n+2)):=C34 (by omega) hgU4 (fun i d h=>by
   rw[List.getElem?_take] at h
   split at h
   .rw[Nat.zero_add];exact h
   .cases h) (G25 hUs _) (by simp;omega)
  have hsr:=X60 (s:=s) hdg (by simp;omega) hs32
  rw[show (U.take (n+2)).length=n+2 by simp;omega] at hsr
  refine K0 hsr ?_
  rintro _ H5 nx5 ⟨rfl,hnx5,hE5,rs,hgR,hRl,hRs,hRv⟩
  have h2s:=Nat.two_pow_pos s
  have hmod:val U=(a%b)*2^s/\val Q=a/b:=by
   have h1:N/D=val Q:=by
    rw[<- hval,Nat.add_mul_div_right _ _ hDpos,Nat.div_eq_of_lt hUD,Nat.zero_add]
   have h3:N%D=val U:=by
    rw[<- hval,Nat.add_mul_mod_self_right,Nat.mod_eq_of_lt hUD]
   rw[hN,hD] at h1 h3
   rw[Nat.mul_div_mul_right _ _ h2s] at h1
   rw[Nat.mul_mod_mul_right] at h3
   exact⟨h3.symm,h1.symm⟩
  refine⟨(hEnd H4 nx4 hnx4 hot).trans hE5,nx3,nx4,Lq,n+2,Q,rs,rfl,by omega,hnx5,by rw[hE5.get nx3 hnx4];exact hgQ4,hgR,hQl,hRl,by omega,by omega,hQs,hRs,hmod.2,?_⟩
  rw[hRv,hUv,hmod.1,Nat.mul_div_cancel _ h2s]
 have e2:(0:Int)<=(m:Int)-1:=by omega
 obtain⟨j,rfl⟩:∃ j,m=j+1:=⟨m-1,by omega⟩
 have c3:(((j+1:Nat):Int)-1)=(j:Int):=by omega
 have c4:((j:Int)+((n+2:Nat):Int))=((j+(n+2):Nat):Int):=by omega
 have c5:(((j+(n+2):Nat):Int)+1)=((j+(n+2)+1:Nat):Int):=by omega
 have c6:j+(n+2)+1-j=n+3:=by omega
 have e3:(0:Int)<=(j:Int):=by omega
 simp (disch:=first|omega|assumption) only[W0,c3,c4,c5,e3]
 rw[W94 hgU4 (by omega) (by omega) (by omega),c6,Nat.zero_add]
 have hPos:0<4294967296^j:=Nat.pow_pos (by omega)
 have hUtd:=U35 (ds:=U) (j:=j) (by omega)
 have hPlt:val (U.drop j)<D*4294967296:=by
  refine Nat.lt_of_not_le fun hle => ?_
  have h1:=Nat.mul_le_mul_left (4294967296^j) hle
  rw[Nat.pow_succ,Nat.mul_assoc,Nat.mul_comm 4294967296 D] at hUD
  omega
 have hpart:val ((U.drop j).take (n+3))=val (U.drop j)/\val (U.drop (j+(n+3)))=0:=by
  have h1:=U35 (ds:=U.drop j) (j:=n+3) (by simp;omega)
  rw[List.drop_drop] at h1
  rcases Nat.eq_zero_or_pos (val (U.drop (j+(n+3)))) with e | e
  .rw[e] at h1;exact⟨by omega,e⟩
  .exfalso
   have h3:D*4294967296<4294967296^(n+2)*4294967296:=Nat.mul_lt_mul_of_pos_right hDlt (by omega)
   have h4:val (U.drop j)<4294967296^(n+3):=Nat.lt_trans hPlt h3
   have h5:4294967296^(n+3)<=val (U.drop j):=by rw[h1];exact Nat.le_trans (Nat.le_mul_of_pos_right _ e) (Nat.le_add_left _ _)
   exact absurd h4 (Nat.not_lt.2 h5)
 have hgV4:X0 H4 nx=some (.cells (N1 V0) 0):=by rw[hot nx (by omega) (by omega)];exact hK1
 have hdgU:Dg H4 nx4 (some ⟨nx2,j,none⟩) (xs.length+1-j) ((U.drop j).take (n+3)):=C34 (by omega) hgU4 (fun i d h=>by
  rw[List.getElem?_take] at h
  split at h
  .rw[List.getElem?_drop] at h;exact h
  .cases h) (G25 (X34 hUs _) _) (by simp;omega)
 have hdgV:Dg H4 nx4 (some ⟨nx,0,none⟩) (n+2+1) vs:=C34 (by omega) hgV4 (fun i d h=>by
  rw[hvs,List.getElem?_take] at h
  split at h
  .rw[Nat.zero_add];exact h
  .cases h) hvss (by omega)
 refine K0 (Q84 hdgU hdgV hvsl (by simp;omega) (by omega) hv1 hv1top (by rw[hpart.1,hvsv];exact hPlt)) ?_
 rintro _ _ nx6 ⟨g,rfl,hg1,hg2,hg3,rfl,hnx6⟩
 rw[hpart.1,hvsv] at hg1 hg2
 have hqB:val (U.drop j)/D<4294967296:=(Nat.div_lt_iff_lt_mul hDpos).2 (by rw[Nat.mul_comm];exact hPlt)
 refine J6 (fun L H' nx'=>∃ U2:List Nat,L=[.int .u64 ((val (U.drop j)/D:Nat):Int)]/\U2.length=xs.length+1/\Z4 U2/\val U2=val (U.take j)+4294967296^j*(val (U.drop j)%D) /\
  X0 H' nx2=some (.cells (N1 U2) 0)/\(∀ i,i≠nx2->X0 H' i=X0 H4 i)/\nx4<=nx') ?_ ?_
 .intro tj hj
  refine K0 (D73 (b:=nx2) (o:=j) (n:=n+2) (f:=g) (vs:=vs) (oC:=0) hgU4 hUs (by omega) (show V3 H4 nx=some (N1 V0) by rw[V3,hgV4];rfl) (by omega) hgetV hvss hvsl hg3 (by omega)) ?_
  rintro _ H5 _ ⟨rfl,hot5,R,w,hgR,hRl,hRs,hRsame,hw,rfl,hRv⟩
  rw[show n+2+1=n+3 from rfl,hpart.1,hvsv] at hRv
  have hRlt:=D10 (X34 hRs j) (n+3)
  have hDQ:D<4294967296^(n+3):=Nat.lt_trans hDlt (Nat.pow_lt_pow_right (by omega) (by omega))
  obtain⟨dd0,dd1⟩:=G82 hDpos hDQ hRlt hg1 hg2 hw hRv
  have done:∀ (R2:List Nat),R2.length=xs.length+1->(∀ q,q<j\/j+(n+3)<=q->R2[q]? = U[q]?)->val ((R2.drop j).take (n+3))=val (U.drop j)%D->val R2=val (U.take j)+4294967296^j*(val (U.drop j)%D):=by
   intro R2 hl2 hs2 hv2
   have h1:=U35 (ds:=R2) (j:=j) (by omega)
   have h2:=U35 (ds:=R2.drop j) (j:=n+3) (by simp;omega)
   rw[List.drop_drop,D80 (R:=U) (R':=R2) (j:=j+(n+3)) (fun q hq=>hs2 q (.inr hq)),hpart.2,Nat.mul_zero,Nat.add_zero,hv2] at h2
   rw[h1,h2,Y83 (R:=U) (R':=R2) (j:=j) (fun q hq=>hs2 q (.inl hq))]
  have hw2:w=0\/w=1:=by omega
  rcases hw2 with rfl | rfl
  .obtain⟨hge,hPe⟩:=dd0 rfl
   simp (disch:=first|omega|assumption) only[W0,show decide ((0:Nat)=1)=false from rfl]
   refine hj _ _ _ ⟨R,by rw[hge],by omega,hRs,done R (by omega) (fun q hq=>hRsame q (by omega)) hPe,hgR,hot5,by omega⟩
  .obtain⟨hge,hPe⟩:=dd1 rfl
   have hgp:0<g:=by rw[hge];exact Nat.succ_pos _
   simp (disch:=first|omega|assumption) only[W0,U82 (a:=g) _ hgp (by omega)]
   have hgV5:V3 H5 nx=some (N1 V0):=by rw[V3,hot5 nx (by omega),hgV4];rfl
   refine K0 (U74 (b:=nx2) (o:=j) (n:=n+2) (vs:=vs) (oC:=0) hgR hRs (by omega) hgV5 (by omega) hgetV hvss hvsl (by omega)) ?_
   rintro _ H6 nx7 ⟨hnx7,hot6,R2,w2,hgR2,hR2l,hR2s,hR2same,hR2v⟩
   rw[show n+2+1=n+3 from rfl,hvsv,hPe] at hR2v
   have hR2lt:=D10 (X34 hR2s j) (n+3)
   have hmlt:=Nat.mod_lt (val (U.drop j)) hDpos
   have hfin:val ((R2.drop j).take (n+3))=val (U.drop j)%D:=by
    have hw2:w2=1:=by
     rcases Nat.lt_or_ge w2 1 with e | e
     .obtain rfl:w2=0:=by omega
      omega
     .rcases Nat.lt_or_ge 1 w2 with e' | e'
      .have:=Nat.mul_le_mul_left (4294967296^(n+3)) (show 2<=w2 from e')
       omega
      .omega
    subst hw2
    omega
   refine hj _ _ _ ⟨R2,by rw[hge,Nat.add_sub_cancel],by omega,hR2s,done R2 (by omega) (fun q hq=>by rw[hR2same q (by omega)];exact hRsame q (by omega)) hfin,hgR2,fun i hi=>by rw[hot6 i hi];exact hot5 i hi,by omega⟩
 rintro L H6 nx7 ⟨U2,rfl,hU2l,hU2s,hU2v,hgU2,hot6,hnx7⟩
 have hgQ6:X0 H6 nx3=some (.cells (N1 Q) 0):=by rw[hot6 nx3 (by omega)];exact hgQ4
 have eqm:val (U.drop j)/D%4294967296=val (U.drop j)/D:=Nat.mod_eq_of_lt hqB
 simp (disch:=first|omega|assumption) only[W0,J9,eqm,hgQ6,G1,Z7 (l:=Q) (i:=j) (x:=val (U.drop j)/D) (show j<Q.length by omega),show j+1<=Q.length by omega]
 have hmlt:=Nat.mod_lt (val (U.drop j)) hDpos
 have htk2:=D10 hUs j
 refine hih j _ _ _ (by omega) ⟨U2,Q.set j (val (U.drop j)/D),rfl,by omega,hU2l,hU2s,by simp[hQl],C9 hQs hqB,?_,?_,by rw[M0 _ (by omega)];exact hgU2,Q0 _ _ _,fun i hi hne=>by rw[M0 _ (by omega),hot6 i hne];exact hot i hi hne,by omega⟩
 .have hqs:(Q.set j (val (U.drop j)/D))[j]? = some (val (U.drop j)/D):=by rw[List.getElem?_set_self (by omega)]
  rw[J17 hqs,D48,hU2v]
  have hdm:=Nat.mod_add_div (val (U.drop j)) D
  rw[hUtd] at hval
  rw[<- hval,Nat.pow_succ,Nat.add_mul]
  have h1:4294967296^j*val (U.drop j)=4294967296^j*(val (U.drop j)%D)+4294967296^j*(val (U.drop j)/D*D):=by
   rw[<- Nat.mul_add,Nat.mul_comm (val (U.drop j)/D),hdm]
  rw[Nat.mul_add (4294967296^j) (val (U.drop j)/D*D)]
  have h2:4294967296^j*(4294967296*val (Q.drop (j+1))*D)=4294967296^j*4294967296*(val (Q.drop (j+1))*D):=by ac_rfl
  omega
 .rw[hU2v]
  have h1:=Nat.mul_le_mul_left (4294967296^j) (show val (U.drop j)%D+1<=D from hmlt)
  rw[Nat.mul_add (4294967296^j) (val (U.drop j)%D) 1,Nat.mul_one] at h1
  omega
end Go.Proofs.YtpiobdofbhkmjaaDoor

namespace Go.Proofs.YtpiobdofbhkmjaaDoor
open Go.Clo
variable {H:Y0} {b n nx:Nat}
theorem Z47 {c sl:Nat} {L:Nat} {ds:List Nat} (hb:b<nx) (hg:X0 H b=some (.cells (N1 ds) sl)) (hsl:sl=0\/sl=1) (hs:Z4 ds) (hL:ds.length=L) (hl:L<10000000) (hc:L<=c) (hn:val ds=n):
  J2 Tryd.prog 54 [.slice (some ⟨b,0,none⟩) L c] H nx fun v H' nx'=>NN H' nx' v n/\H=H'/\nx=nx':=by
 subst hL;subst hn
 have hD:Dg H nx (some ⟨b,0,none⟩) c ds:=⟨fun i v h=>⟨b,0,_,rfl,hb,by rw[V3,hg];rfl,by rw[Nat.zero_add];exact h⟩,.inr ⟨b,0,_,rfl,hb,.inr ⟨sl,hsl,hg⟩⟩,hs,hc⟩
 refine (C47 hD (by omega)).mono ?_
 rintro _ _ _ ⟨rfl,rfl,rfl⟩
 exact⟨⟨_,_,rfl,hD.trim⟩,rfl,rfl⟩
theorem J82 {A:Option Addr} (h:Dg H nx A (R0 n).length (R0 n)) (hl:(R0 n).length<1000000) (h0:0<n):
  J2 Tryd.prog 69 [.slice A (R0 n).length (R0 n).length] H nx fun v H' nx'=>∃ q,nx<=q/\q<nx'/\v = .slice (some ⟨q,0,none⟩) (R0 n).length (R0 n).length/\X0 H' q=some (.cells (N1 (R0 n)) 1)/\D0 H nx H' nx':=by
 refine spec69 ?_
 unfold F69
 have hL:0<(R0 n).length:=by
  rcases Nat.eq_zero_or_pos (R0 n).length with e | e
  .have:=K13.1 e;omega
  .exact e
 obtain⟨b,o,row,rfl,hb,_,_⟩:=h.sl.open (i:=0) (by rw[G1];omega)
 rw[C41]
 simp (disch:=first|omega|assumption) only[W0,B0.val,M52]
 have hE:D0 H nx (hs H nx (some (.cells [] 0))) (nx+1):=(D0.refl H nx).new _ (Nat.le_refl _) (by omega)
 have hsrc:Src (hs H nx (some (.cells [] 0))) 1 (.slice (some ⟨b,o,none⟩) (R0 n).length (R0 n).length) (R0 n).length (N1 (R0 n)):=Y36 (h.sl.ext hE) (h.sk.has.ext hE) (by rw[G1,Nat.mul_one]) (by omega)
 rw[E52 (Q0 _ _ _) hsrc hL (D30 _) (by omega) (by omega)]
 exact⟨nx+1,by omega,by omega,rfl,Q0 _ _ _,hE.new _ (by omega) (by omega)⟩
theorem Y32 {v w:Value} {a:Nat} (hv:NN H nx v a) (hw:NN H nx w b) (hl:(R0 a).length<400000) (hl2:(R0 b).length<400000):
  J2 Tryd.prog 59 [v,w] H nx fun r H' nx'=>(if b=0 then r = .tuple ⟨[.slice none 0 0,.slice none 0 0,.int .i64 18]⟩ else ∃ x y,r = .tuple ⟨[x,y,.int .i64 0]⟩/\NN H' nx' x (a/b)/\NN H' nx' y (a%b))/\D0 H nx H' nx':=by
 obtain⟨A,c,rfl,hA⟩:=hv
 obtain⟨C,d,rfl,hC⟩:=hw
 refine spec59 ?_
 unfold F59
 refine K0 (Q13 hA (by omega)) ?_
 rintro _ _ _ ⟨rfl,rfl,rfl⟩
 refine K0 (Q13 hC (by omega)) ?_
 rintro _ _ _ ⟨rfl,rfl,rfl⟩
 by_cases hb0:b=0
 .subst hb0
  have e:decide (((R0 0).length:Int)=0)=true:=decide_eq_true (by rw[Z6];rfl)
  simp (disch:=first|omega|assumption) only[W0,e]
  exact D0.refl _ _
 have hbp:0<b:=by omega
 have hbL:(R0 b).length≠0:=fun e=>hb0 (K13.1 e)
 have e:decide (((R0 b).length:Int)=0)=false:=decide_eq_false (by omega)
 simp (disch:=first|omega|assumption) only[W0,e]
 refine K0 (M62 ⟨_,_,rfl,hA.self⟩ ⟨_,_,rfl,hC.self⟩ (by omega) (by omega)) ?_
 rintro _ H1 nx1 ⟨rfl,hE1⟩
 have hA1:=hA.self.ext hE1
 have hC1:=hC.self.ext hE1
 by_cases hab:a<b
 .have e1:W16 a b<0:=by unfold W16;rw[if_pos hab];omega
  simp (disch:=first|omega|assumption) only[W0,e1]
  refine K0 (Q62 hA1 (by omega)) ?_
  rintro u H2 nx2 ⟨hu,hE2⟩
  refine⟨?_,hE1.trans hE2⟩
  rw[if_neg hb0]
  exact⟨_,u,rfl,by rw[Nat.div_eq_of_lt hab];exact R55 _ _,by rw[Nat.mod_eq_of_lt hab];exact hu⟩
 have e1:¬ W16 a b<0:=by
  unfold W16;rw[if_neg hab]
  split<;>omega
 by_cases h1:(R0 b).length=1
 .have e2:decide (((R0 b).length:Int)=1)=true:=decide_eq_true (by omega)
  have hdb:R0 b=[b]:=by
   have hb2:b<4294967296:=by have:=U13 b;rw[h1] at this;omega
   rw[U23 hbp,Nat.mod_eq_of_lt hb2,Nat.div_eq_of_lt hb2,Z6]
  have hb32:b<4294967296:=by have:=U13 b;rw[h1] at this;omega
  simp (disch:=first|omega|assumption) only[W0,e1,e2]
  refine K0 (J82 hA1 (by omega) (by omega)) ?_
  rintro _ H2 nx2 ⟨q,hq1,hq2,rfl,hgq,hE2⟩
  obtain⟨bC,oC,rowC,rfl,_,hrowC,hgC⟩:=(hC1.sl.ext hE2).open (i:=0) (by rw[G1];omega)
  have gC:=hgC 0 _ (G3 (show (R0 b)[0]? = some b by rw[hdb];rfl))
  have e0:(0:Int)<((R0 b).length:Int):=by omega
  have ez:((0:Int)).toNat=0:=rfl
  have ei:∀ k:VP,W2 (.slice (some ⟨bC,oC,none⟩) (R0 b).length (R0 b).length) (.int .i64 0) none 1 k=k (.pointer (some ⟨bC,oC+0,none⟩)):=fun k=>by
   rw[Z38 (Int.le_refl 0) e0];rfl
  rw[ei,R48,Y3 hrowC,G40,gC]
  simp only[Option.elim_some]
  refine K0 (J64 hq2 hgq (V8 a) (by omega) hbp hb32) ?_
  rintro _ H3 nx3 ⟨rfl,rfl,hot3,qs,hg3,hql,hqs,hqv⟩
  rw[C5] at hqv
  rw[C5]
  have hE3:D0 H1 nx1 H3 nx2:=⟨hE2.le,fun i hi=>by rw[hot3 i (by omega)];exact hE2.get i hi⟩
  refine K0 (Z47 hq2 hg3 (.inr rfl) hqs hql (by omega) (Nat.le_refl _) hqv) ?_
  rintro u _ _ ⟨hu,rfl,rfl⟩
  have hrem:a%b<4294967296:=Nat.lt_trans (Nat.mod_lt a hbp) hb32
  rw[Y6 _ (by omega)]
  refine K0 (Z36 (by omega) _ _) ?_
  rintro u2 H4 nx4 ⟨hu2,hE4⟩
  refine⟨?_,(hE1.trans hE3).trans hE4⟩
  rw[if_neg hb0]
  exact⟨u,u2,rfl,hu.ext hE4,hu2⟩
 .have e2:decide (((R0 b).length:Int)=1)=false:=decide_eq_false (by omega)
  simp (disch:=first|omega|assumption) only[W0,e1,e2]
  refine K0 (J74 (n:=(R0 b).length-2) hA1 hC1 (by omega) (by omega) (by omega)) ?_
  rintro _ H2 nx2 ⟨hE2,bq,br,Lq,Lr,qs,rs,rfl,hbq,hbr,hgq,hgr,hql,hrl,hLq,hLr,hqs,hrs,hqv,hrv⟩
  simp (disch:=first|omega|assumption) only[W0]
  refine K0 (Z47 hbq hgq (.inl rfl) hqs hql (by omega) (Nat.le_refl _) hqv) ?_
  rintro u _ _ ⟨hu,rfl,rfl⟩
  refine K0 (Z47 hbr hgr (.inl rfl) hrs hrl (by omega) (Nat.le_refl _) hrv) ?_
  rintro u2 _ _ ⟨hu2,rfl,rfl⟩
  refine⟨?_,hE1.trans hE2⟩
  rw[if_neg hb0]
  exact⟨u,u2,rfl,hu,hu2⟩
end Go.Proofs.YtpiobdofbhkmjaaDoor

namespace Go.Clo
theorem D20 {a b:Nat} (h:a<=b):(R0 a).length<=(R0 b).length:=by
 rcases Nat.lt_or_ge (R0 b).length (R0 a).length with g | g
 .have:=C13 g;omega
 .exact g
theorem Z60 {P:Program} {g:Nat} {cap args:List Value} {H:Y0} {nx:Nat} {k:EP}:E22 P (.func (.func g) ⟨[]⟩ ⟨cap⟩) args H nx k=Z1 P g (args++cap) H nx k:=by
 show R7 ([]++args++cap) (fun vs=>M12 P g vs H nx False k)=M12 P g (args++cap) H nx False k
 rw[E3];rfl
theorem D36 {b:Nat} {r x1:Value} {Q:Prop} (hb:0<b) (h:if b=0 then r=x1 else Q):Q:=by rwa [if_neg (by omega)] at h
end Go.Clo
namespace Go.Proofs.YtpiobdofbhkmjaaDoor
open Go.Clo
set_option maxHeartbeats 1000000 in
theorem gcd_rec:∀ (b a:Nat) (v w:Value) (bx:Nat) (H:Y0) (nx:Nat),NN H nx v a->NN H nx w b->(R0 a).length<400000->(R0 b).length<400000->bx<nx ->
  X0 H bx=some (.cells [.func (.func 70) ⟨[]⟩ ⟨[.pointer (some ⟨bx,0,none⟩)]⟩] 0) ->
  J2 Tryd.prog 70 [v,w,.pointer (some ⟨bx,0,none⟩)] H nx fun r H' nx'=>NN H' nx' r (Nat.gcd b a)/\D0 H nx H' nx':=by
 intro b
 induction b using Nat.strongRecOn with
 | ind b ihb=>
 intro a v w bx H nx hv hw hl hl2 hbx hg
 refine spec70 ?_
 unfold F70
 refine K0 (K29 hw (by omega)) ?_
 rintro _ _ _ ⟨rfl,rfl,rfl⟩
 by_cases hb0:b=0
 .subst hb0
  simp (disch:=first|omega|assumption) only[W0,Z34,show decide (((0:Nat):Int)=0)=true from rfl]
  rw[Nat.gcd_zero_left]
  exact⟨hv,D0.refl _ _⟩
 have hbp:0<b:=by omega
 have hbl:=X13 hbp
 have e0:decide (((W4 b:Nat):Int)=0)=false:=decide_eq_false (by omega)
 simp (disch:=first|omega|assumption) only[W0,e0]
 refine K0 (M39 hv (by omega)) ?_
 rintro r1 _ _ ⟨hr1,rfl,rfl⟩
 have big:Nat.gcd b a=Nat.gcd (a%b) b:=Nat.gcd_rec b a
 have hrest:Z1 Tryd.prog 59 [v,w] H nx fun t42 H8 nx8=>J5 t42 0 fun t43=>J5 t42 1 fun t44=>J5 t42 2 fun t45=>ldP (X0 H8 bx) 0 none fun t46=>
   E22 Tryd.prog t46 [w,t44] H8 nx8 fun t49 H9 nx9=>NN H9 nx9 t49 (Nat.gcd b a)/\D0 H nx H9 nx9:=by
  refine K0 (Y32 hv hw hl hl2) ?_
  rintro r H8 nx8 ⟨hr,hE8⟩
  obtain⟨x,y,rfl,hx,hy⟩:=D36 hbp hr
  have hg8:=(hE8.get bx hbx).trans hg
  simp (disch:=first|omega|assumption) only[W0,hg8,Z60,List.cons_append,List.nil_append]
  have hm:=Nat.mod_lt a hbp
  refine K0 (ihb (a%b) hm b w y bx H8 nx8 (hw.ext hE8) hy hl2 (Nat.lt_of_le_of_lt (D20 (Nat.le_of_lt hm)) hl2) (Nat.lt_of_lt_of_le hbx hE8.le) hg8) ?_
  rintro r H9 nx9 ⟨hr,hE9⟩
  rw[big]
  exact⟨hr,hE8.trans hE9⟩
 by_cases ha:a<18446744073709551616
 case neg=>
  rw[if_neg ha] at hr1
  subst hr1
  simp (disch:=first|omega|assumption) only[W0]
  refine K0 (M39 hw (by omega)) ?_
  rintro r2 _ _ ⟨hr2,rfl,rfl⟩
  by_cases hbb:b<18446744073709551616
  .rw[if_pos hbb] at hr2
   subst hr2
   simp (disch:=first|omega|assumption) only[W0,K3]
   exact hrest
  .rw[if_neg hbb] at hr2
   subst hr2
   simp (disch:=first|omega|assumption) only[W0,K3]
   exact hrest
 rw[if_pos ha] at hr1
 subst hr1
 simp (disch:=first|omega|assumption) only[W0]
 refine K0 (M39 hw (by omega)) ?_
 rintro r2 _ _ ⟨hr2,rfl,rfl⟩
 by_cases hbb:b<18446744073709551616
 case neg=>
  rw[if_neg hbb] at hr2
  subst hr2
  simp (disch:=first|omega|assumption) only[W0,K3]
  exact hrest
 rw[if_pos hbb] at hr2
 subst hr2
 simp (disch:=first|omega|assumption) only[W0,K3]
 refine E1 (m:=b) (fun m L H' nx'=>∃ x:Nat,L=[.int .u64 (x:Int),.int .u64 (m:Int)]/\x<18446744073709551616/\m<18446744073709551616/\Nat.gcd m x=Nat.gcd b a/\H=H'/\nx<=nx') ?_ ⟨a,rfl,ha,hbb,rfl,rfl,Nat.le_refl _⟩
 rintro m ih L _ nx2 ⟨x,rfl,hx,hm,hgcd,rfl,hnx⟩ hih
 by_cases hm0:m=0
 .subst hm0
  simp (disch:=first|omega|assumption) only[W0,show decide (((0:Nat):Int)≠0)=false from rfl]
  refine K0 (Z36 hx H nx2) ?_
  rintro r H9 nx9 ⟨hr,hE9⟩
  rw[<- hgcd,Nat.gcd_zero_left]
  exact⟨hr,(D0.self hnx).trans hE9⟩
 .have hmp:0<m:=by omega
  have e1:decide (((m:Nat):Int)≠0)=true:=decide_eq_true (by omega)
  have hmod:=Nat.mod_lt x hmp
  simp (disch:=first|omega|assumption) only[W0,e1,W56 (a:=x) (b:=m) _ hmp]
  refine hih (x%m) _ _ _ hmod ⟨m,rfl,hm,by omega,?_,rfl,by omega⟩
  rw[<- hgcd,Nat.gcd_rec m x]
theorem Q79 {v w:Value} {a b:Nat} {H:Y0} {nx:Nat} (hv:NN H nx v a) (hw:NN H nx w b) (hl:(R0 a).length<400000) (hl2:(R0 b).length<400000):
  J2 Tryd.prog 58 [v,w] H nx fun r H' nx'=>NN H' nx' r (Nat.gcd a b)/\D0 H nx H' nx':=by
 refine spec58 ?_
 unfold F58
 have hE0:D0 H nx (hs H nx (some (.cells [.nilFunc] 0))) (nx+1):=(D0.refl H nx).new _ (Nat.le_refl _) (by omega)
 simp (disch:=first|omega|assumption) only[W0,B0.val,show G6 [Value.nilFunc] 0 [Value.func (.func 70) ⟨[]⟩ ⟨[.pointer (some ⟨nx,0,none⟩)]⟩]=[Value.func (.func 70) ⟨[]⟩ ⟨[.pointer (some ⟨nx,0,none⟩)]⟩] from rfl]
 have hE1:=hE0.hs (i:=nx) (b:=some (.cells [Value.func (.func 70) ⟨[]⟩ ⟨[.pointer (some ⟨nx,0,none⟩)]⟩] 0)) (Nat.le_refl _)
 have hg1:=Q0 (hs H nx (some (.cells [.nilFunc] 0))) nx (some (.cells [Value.func (.func 70) ⟨[]⟩ ⟨[.pointer (some ⟨nx,0,none⟩)]⟩] 0))
 generalize hs (hs H nx (some (.cells [.nilFunc] 0))) nx (some (.cells [Value.func (.func 70) ⟨[]⟩ ⟨[.pointer (some ⟨nx,0,none⟩)]⟩] 0))=K at hE1 hg1 ⊢
 refine E1 (m:=b) (fun m L H' nx'=>∃ (x:Nat) (u1 u2:Value),L=[u1,u2]/\NN H' nx' u1 x/\NN H' nx' u2 m/\(R0 x).length<400000/\(R0 m).length<400000/\Nat.gcd m x=Nat.gcd b a/\D0 K (nx+1) H' nx') ?_
  ⟨a,v,w,rfl,hv.ext hE1,hw.ext hE1,hl,hl2,rfl,D0.refl _ _⟩
 rintro m ih L H2 nx2 ⟨x,u1,u2,rfl,h1,h2,hlx,hlm,hgcd,hE2⟩ hih
 have hg2:=(hE2.get nx (by omega)).trans hg1
 simp (disch:=first|omega|assumption) only[W0]
 refine K0 (K29 h2 (by omega)) ?_
 rintro _ _ _ ⟨rfl,rfl,rfl⟩
 by_cases hbig:4096<W4 m
 .have hbig':(4096:Int)<(W4 m:Int):=by omega
  have hmp:0<m:=by
   rcases Nat.eq_zero_or_pos m with e | e
   .subst e;rw[Z34] at hbig;omega
   .exact e
  simp (disch:=first|omega|assumption) only[W0,hbig']
  refine K0 (Y32 h1 h2 hlx hlm) ?_
  rintro r H3 nx3 ⟨hr,hE3⟩
  obtain⟨y,z,rfl,hy,hz⟩:=D36 hmp hr
  have hm:=Nat.mod_lt x hmp
  simp (disch:=first|omega|assumption) only[W0]
  refine hih (x%m) _ _ _ hm ⟨m,u2,z,rfl,h2.ext hE3,hz,hlm,Nat.lt_of_le_of_lt (D20 (Nat.le_of_lt hm)) hlm,?_,hE2.trans hE3⟩
  rw[<- hgcd,Nat.gcd_rec m x]
 .have hbig':¬ (4096:Int)<(W4 m:Int):=by omega
  simp (disch:=first|omega|assumption) only[W0,hbig',hg2,Z60,List.cons_append,List.nil_append]
  refine K0 (gcd_rec m x u1 u2 nx H2 nx2 h1 h2 hlx hlm (Nat.lt_of_lt_of_le (Nat.lt_succ_self nx) hE2.le) hg2) ?_
  rintro r H3 nx3 ⟨hr,hE3⟩
  rw[hgcd,Nat.gcd_comm] at hr
  exact⟨hr,(hE1.trans hE2).trans hE3⟩
end Go.Proofs.YtpiobdofbhkmjaaDoor
