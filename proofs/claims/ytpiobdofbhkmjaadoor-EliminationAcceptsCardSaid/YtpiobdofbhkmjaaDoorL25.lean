/-
  Contracts: bits.LeadingZeros32,nat.shiftLeft,nat.shiftRight.
  Contract: nat.guessDigit (the digit of a long division,or one more).
  Contracts: nat.subProduct,nat.addBack (in place,on a part of a block).
-/
import Derived.Test.YtpiobdofbhkmjaaDoorL24
set_option linter.unusedSimpArgs false
set_option linter.unusedVariables false
set_option linter.unusedSectionVars false
namespace Go.Clo
theorem Y93 {a:Nat} (k:VP):J0 .shl (.int .u64 (a:Int)) (.int .u64 32) k=k (.int .u64 ((a%4294967296*4294967296:Nat):Int)):=by
 rw[C7]
 have h0:¬ ((32:Int))<0:=by omega
 simp only[U12,M7,E20,cond_true,h0,if_false,Option.elim_some,IntKind.bits]
 congr 2
 have e:((a:Int)*(2:Int)^min ((32:Int)).toNat 64)=((a*4294967296:Nat):Int):=by
  simp
 rw[e,D90]
 congr 1
 rw[show (18446744073709551616:Nat)=4294967296*4294967296 from rfl,Nat.mul_mod_mul_right]
theorem K65 {s:Nat} (h:s<32):2^s<=2147483648:=Nat.pow_le_pow_right (n:=2) (by omega) (show s<=31 by omega)
theorem G79 {x W w0 W' s:Nat} (hs:s<32) (hW:W=w0+4294967296*W'):(x+4294967296*W)/2^s=(x+4294967296*w0)/2^s%4294967296+4294967296*(W/2^s)\/4294967296<=x:=by
 by_cases hx:x<4294967296
 .refine .inl ?_
  have hp:0<2^s:=Nat.two_pow_pos s
  have e1:(x+4294967296*W)/2^s/4294967296=W/2^s:=by
   rw[Nat.div_div_eq_div_mul,Nat.mul_comm (2^s),<- Nat.div_div_eq_div_mul,Nat.add_mul_div_left _ _ (by omega),Nat.div_eq_of_lt hx,Nat.zero_add]
  have e2:(x+4294967296*W)/2^s%4294967296=(x+4294967296*w0)/2^s%4294967296:=by
   have hB:(4294967296:Nat)=2^s*2^(32-s):=by rw[<- Nat.pow_add,show s+(32-s)=32 by omega]
   have e3:x+4294967296*W=(x+4294967296*w0)+2^s*(4294967296*(2^(32-s)*W')):=by
    have e4:4294967296*(4294967296*W')=2^s*(4294967296*(2^(32-s)*W')):=by
     calc 4294967296*(4294967296*W')=4294967296*(2^s*2^(32-s)*W'):=by rw[<- hB]
      _=2^s*(4294967296*(2^(32-s)*W')):=by ac_rfl
    rw[hW,<- e4];omega
   rw[e3,Nat.add_mul_div_left _ _ hp,Nat.add_mul_mod_self_left]
  rw[<- e2,<- e1,Nat.mod_add_div]
 .exact .inr (by omega)
end Go.Clo
namespace Go.Proofs.YtpiobdofbhkmjaaDoor
open Go.Clo
theorem B83 {x:Nat} (hx:x<4294967296) (H:Y0) (nx:Nat):J2 Tryd.prog 86 [.int .u32 (x:Int)] H nx fun v H' nx' => .int .i64 ((32-W4 x:Nat):Int)=v/\H=H'/\nx=nx':=by
 refine spec86 ?_
 unfold F86
 refine K0 (N89 hx H nx) ?_
 rintro _ _ _ ⟨rfl,rfl,rfl⟩
 have hb:=N32 (n:=x) (b:=32) hx
 simp (disch:=first|omega|assumption) only[W0]
 congr 1
 omega
theorem U42 {A:Option Addr} {c s:Nat} {ds:List Nat} {H:Y0} {nx:Nat} (h:Dg H nx A c ds) (hl:ds.length<900000) (hs3:s<32):
  J2 Tryd.prog 87 [.slice A ds.length c,.int .u64 (s:Int)] H nx fun v H' nx'=>v = .slice (some ⟨nx,0,none⟩) (ds.length+1) (ds.length+1)/\nx<nx'/\D0 H nx H' nx' /\
   ∃ out,X0 H' nx=some (.cells (N1 out) 0)/\out.length=ds.length+1/\Z4 out/\val out=val ds*2^s:=by
 refine spec87 ?_
 unfold F87
 simp (disch:=first|omega|assumption) only[W0,B0.val]
 rw[show ((ds.length:Int)+1)=((ds.length+1:Nat):Int) by omega,V12 (by omega),N12]
 have hp:=K65 hs3
 have hE0:D0 H nx (hs H nx (some (.cells (N1 (List.replicate (ds.length+1) 0)) 0))) (nx+1):=(D0.refl H nx).new _ (Nat.le_refl _) (by omega)
 refine E1 (m:=ds.length) (fun m L H' nx'=>∃ (i carry:Nat) (out:List Nat),m+i=ds.length/\L=[.int .u64 (carry:Int),.int .i64 (i:Int)]/\carry<2^s/\out.length=ds.length+1/\Z4 out /\
  val (out.take i)+4294967296^i*carry=val (ds.take i)*2^s/\X0 H' nx=some (.cells (N1 out) 0)/\D0 H nx H' nx'/\nx<nx') ?_ ⟨0,0,List.replicate (ds.length+1) 0,rfl,rfl,Nat.two_pow_pos s,by simp,W18 _,by simp[val],Q0 _ _ _,hE0,by omega⟩
 rintro m ih L H1 nx1 ⟨i,carry,out,hm,rfl,hcar,hlen,hsm,hval,hg,hE,hnx⟩ hih
 by_cases hi:i<ds.length
 case neg=>
  have hi':¬ (i:Int)<(ds.length:Int):=by omega
  have hil:i=ds.length:=by omega
  subst hil
  have e1:carry%4294967296=carry:=by omega
  simp (disch:=first|omega|assumption) only[W0,hi',J9,e1,hg,G1,Z7 (l:=out) (i:=ds.length) (x:=carry) (show ds.length<out.length by omega),show ds.length+1<=out.length by omega]
  refine⟨hnx,hE.hs (Nat.le_refl _),out.set ds.length carry,rfl,by simp[hlen],C9 hsm (by omega),?_⟩
  have h1:=R15 (out:=out) (i:=ds.length) (x:=carry) (by omega)
  rw[M6 (by simp;omega)] at h1
  rw[M6 (Nat.le_refl ds.length)] at hval
  omega
 have hi':(i:Int)<(ds.length:Int):=by omega
 obtain⟨x,hx⟩:∃ x,ds[i]? = some x:=⟨_,List.getElem?_eq_getElem hi⟩
 have hx32:=h.small.get hx
 obtain⟨bA,oA,G17,rfl,_,hrowA,hgA⟩:=(h.sl.ext hE).open (i:=i) (by rw[G1];omega)
 have gA:=hgA _ _ (G3 hx)
 have hxp:x*2^s<=4294967295*2^s:=Nat.mul_le_mul_right _ (by omega)
 have hcur:carry+x*2^s<4294967296*2^s:=by omega
 simp (disch:=first|omega|assumption) only[W0,hi',Y3 hrowA,gA,Y6 _ (show x<18446744073709551616 by omega),X55 (a:=x) (n:=s) _ (by omega) (by omega),C52 (a:=carry) (b:=x) (n:=s) _ hcar (by omega) (by omega),J9,K22 (a:=carry+x*2^s) _ (by omega),
  hg,G1,Z7 (l:=out) (i:=i) (x:=(carry+x*2^s)%4294967296) (show i<out.length by omega),show i+1<=out.length by omega]
 refine hih (m-1) _ _ _ (by omega) ⟨i+1,(carry+x*2^s)/4294967296,out.set i ((carry+x*2^s)%4294967296),by omega,by simp,(Nat.div_lt_iff_lt_mul (by omega)).2 (by omega),by simp[hlen],C9 hsm (by omega),?_,Q0 _ _ _,hE.hs (Nat.le_refl _),hnx⟩
 rw[R15 (by omega),M5 hx,Nat.add_mul,<- hval,Nat.pow_succ,Nat.mul_assoc (4294967296^i) 4294967296]
 have e1:4294967296^i*(carry+x*2^s)=4294967296^i*((carry+x*2^s)%4294967296)+4294967296^i*(4294967296*((carry+x*2^s)/4294967296)):=by rw[<- Nat.mul_add,Nat.mod_add_div]
 rw[Nat.mul_add] at e1
 rw[Nat.mul_assoc]
 omega
theorem X60 {A:Option Addr} {c s:Nat} {ds:List Nat} {H:Y0} {nx:Nat} (h:Dg H nx A c ds) (hl:ds.length<900000) (hs3:s<32):
  J2 Tryd.prog 91 [.slice A ds.length c,.int .u64 (s:Int)] H nx fun v H' nx'=>v = .slice (some ⟨nx,0,none⟩) ds.length ds.length/\nx<nx'/\D0 H nx H' nx' /\
   ∃ out,X0 H' nx=some (.cells (N1 out) 0)/\out.length=ds.length/\Z4 out/\val out=val ds/2^s:=by
 refine spec91 ?_
 unfold F91
 simp (disch:=first|omega|assumption) only[W0,B0.val]
 rw[V12 (by omega),N12]
 have hp:=K65 hs3
 have hE0:D0 H nx (hs H nx (some (.cells (N1 (List.replicate ds.length 0)) 0))) (nx+1):=(D0.refl H nx).new _ (Nat.le_refl _) (by omega)
 refine E1 (m:=ds.length) (fun m L H' nx'=>∃ (high:Nat) (o:List Nat),L=[.int .u64 (high:Int),.int .i64 ((m:Int)-1)]/\m<=ds.length/\high<18446744073709551616/\(∃ W',val (ds.drop m)=high%4294967296+4294967296*W')/\o.length=ds.length/\Z4 o /\
  val (o.drop m)=val (ds.drop m)/2^s/\X0 H' nx=some (.cells (N1 o) 0)/\D0 H nx H' nx'/\nx<nx') ?_
  ⟨0,List.replicate ds.length 0,rfl,Nat.le_refl _,by omega,⟨0,by rw[List.drop_of_length_le (Nat.le_refl _)];rfl⟩,by simp,W18 _,by rw[List.drop_of_length_le (Nat.le_refl ds.length),List.drop_of_length_le (by simp)];simp[val],Q0 _ _ _,hE0,by omega⟩
 rintro m ih L H1 nx1 ⟨high,o,rfl,hm,hh,⟨W',hW⟩,hlen,hsm,hval,hg,hE,hnx⟩ hih
 by_cases h0:m=0
 .subst h0
  have e2:¬ (0:Int)<=((0:Nat):Int)-1:=by omega
  simp (disch:=first|omega|assumption) only[W0,e2]
  rw[List.drop_zero,List.drop_zero] at hval
  exact⟨hnx,hE,o,hg,hlen,hsm,hval⟩
 .have e2:(0:Int)<=(m:Int)-1:=by omega
  have e4:((m:Int)-1).toNat=m-1:=by omega
  obtain⟨x,hx⟩:∃ x,ds[m-1]? = some x:=⟨_,List.getElem?_eq_getElem (by omega)⟩
  have hx32:=h.small.get hx
  obtain⟨bA,oA,G17,rfl,_,hrowA,hgA⟩:=(h.sl.ext hE).open (i:=m-1) (by rw[G1];omega)
  have gA:=hgA _ _ (G3 hx)
  have hcur:high%4294967296*4294967296+x<18446744073709551616:=by omega
  have hq32:(high%4294967296*4294967296+x)/2^s%4294967296<4294967296:=Nat.mod_lt _ (by omega)
  simp (disch:=first|omega|assumption) only[W0,e2,e4,Y3 hrowA,gA,Y93,Y6 _ (show x<18446744073709551616 by omega),N26 (a:=high%4294967296) (b:=x) _ (by omega) hx32,X56 (a:=high%4294967296*4294967296+x) (n:=s) _ hcur,J9,
   hg,G1,Z7 (l:=o) (i:=m-1) (x:=(high%4294967296*4294967296+x)/2^s%4294967296) (show m-1<o.length by omega),show m-1+1<=o.length by omega]
  refine hih (m-1) _ _ _ (by omega) ⟨high%4294967296*4294967296+x,o.set (m-1) ((high%4294967296*4294967296+x)/2^s%4294967296),by congr 3;omega,by omega,hcur,⟨val (ds.drop m),?_⟩,by simp[hlen],C9 hsm hq32,?_,Q0 _ _ _,hE.hs (Nat.le_refl _),hnx⟩
  .rw[J17 hx,show m-1+1=m by omega]
   omega
  .have hxs:(o.set (m-1) ((high%4294967296*4294967296+x)/2^s%4294967296))[m-1]? = some ((high%4294967296*4294967296+x)/2^s%4294967296):=by rw[List.getElem?_set_self (by omega)]
   rw[J17 hxs,J17 hx,D48,show m-1+1=m by omega,hval]
   rcases G79 (x:=x) hs3 hW with e | e
   .rw[e,show x+4294967296*(high%4294967296)=high%4294967296*4294967296+x by omega]
   .omega
end Go.Proofs.YtpiobdofbhkmjaaDoor

namespace Go.Clo
theorem U82 {a:Nat} (k:VP) (h:0<a) (h2:a<18446744073709551616):J0 .sub (.int .u64 (a:Int)) (.int .u64 1) k=k (.int .u64 ((a-1:Nat):Int)):=by
 have:=X25 (a:=a) (b:=1) k h2 (by omega)
 rw[show ((1:Nat):Int)=1 from rfl] at this
 rw[this,show (a+18446744073709551616-1)%18446744073709551616=a-1 by omega]
theorem C88 {P ul vl U3 V2 g:Nat} (hP:0<P) (hu:ul<P) (hg:g*(vl+P*V2)<=ul+P*U3):g*V2<=U3:=by
 have h1:P*(g*V2)<=g*(vl+P*V2):=by
  rw[Nat.mul_add,show P*(g*V2)=g*(P*V2) by ac_rfl];omega
 have h2:P*(g*V2)<P*(U3+1):=by rw[Nat.mul_add];omega
 have:=Nat.lt_of_mul_lt_mul_left h2
 omega
theorem J76 {P ul vl U3 V2 g q:Nat} (hP:0<P) (hv:vl<P) (hq:ul+P*U3<(q+1)*(vl+P*V2)) (hg:g*V2<=U3) (hb:g<=V2+1):g<=q+1:=by
 refine Nat.le_of_not_lt fun hlt => ?_
 have h1:(q+1)*(vl+P*V2)<=(g-1)*(vl+P*V2):=Nat.mul_le_mul_right _ (by omega)
 have h2:(g-1)*(vl+P*V2)<=(g-1)*(P*(V2+1)):=Nat.mul_le_mul_left _ (by rw[Nat.mul_add];omega)
 have h3:P*(g*V2)<=P*U3:=Nat.mul_le_mul_left _ hg
 have h4:P*(g*V2)<P*((g-1)*(V2+1)):=by
  rw[show P*((g-1)*(V2+1))=(g-1)*(P*(V2+1)) by ac_rfl];omega
 have h5:=Nat.lt_of_mul_lt_mul_left h4
 obtain⟨g',rfl⟩:∃ g',g=g'+1:=⟨g-1,by omega⟩
 rw[Nat.add_sub_cancel,Nat.mul_add,Nat.add_mul] at h5
 omega
theorem M85 {vs:List Nat} {n v0 v1:Nat} (hl:vs.length=n+2) (h0:vs[n]? = some v0) (h1:vs[n+1]? = some v1):val vs=val (vs.take n)+4294967296^n*(v1*4294967296+v0):=by
 have e:=C19 h0
 rw[J17 h1,List.drop_of_length_le (by omega),val] at e
 rw[e];congr 2;omega
theorem U87 {us:List Nat} {n u0 u1 u2 T:Nat} (hl:us.length=n+3) (h0:us[n]? = some u0) (h1:us[n+1]? = some u1) (h2:us[n+2]? = some u2) (hT:T=u2*4294967296+u1):val us=val (us.take n)+4294967296^n*(T*4294967296+u0):=by
 subst hT
 have e:=C19 h0
 rw[J17 h1,J17 h2,List.drop_of_length_le (by omega),val] at e
 rw[e];congr 2;omega
theorem K81 {a b:Nat} (h:a<b):(a:Int)<(b:Int):=Int.ofNat_lt.2 h
theorem Z76 {a b:Nat} (h:¬ a<b):¬ (a:Int)<(b:Int):=fun h2=>h (Int.ofNat_lt.1 h2)
end Go.Clo
namespace Go.Proofs.YtpiobdofbhkmjaaDoor
open Go.Clo
set_option maxRecDepth 10000 in
set_option maxHeartbeats 1000000 in
theorem Q84 {A C:Option Addr} {us vs:List Nat} {n cA cC:Nat} {H:Y0} {nx:Nat} (hu:Dg H nx A cA us) (hv:Dg H nx C cC vs) (hvl:vs.length=n+2) (hul:us.length=n+3) (hn:n<900000) {v1:Nat} (hv1:vs[n+1]? = some v1) (htop:2147483648<=v1)
  (hlt:val us<val vs*4294967296):J2 Tryd.prog 88 [.slice A (n+3) cA,.slice C (n+2) cC] H nx fun r H' nx'=>∃ g:Nat,r = .int .u64 (g:Int)/\val us/val vs<=g/\g<=val us/val vs+1/\g<=4294967296/\H=H'/\nx<=nx':=by
 refine spec88 ?_
 unfold F88
 obtain⟨v0,hv0⟩:∃ v0,vs[n]? = some v0:=⟨_,List.getElem?_eq_getElem (by omega)⟩
 obtain⟨u0,hu0⟩:∃ u0,us[n]? = some u0:=⟨_,List.getElem?_eq_getElem (by omega)⟩
 obtain⟨u1,hu1⟩:∃ u1,us[n+1]? = some u1:=⟨_,List.getElem?_eq_getElem (by omega)⟩
 obtain⟨u2,hu2⟩:∃ u2,us[n+2]? = some u2:=⟨_,List.getElem?_eq_getElem (by omega)⟩
 have bv0:=hv.small.get hv0
 have bv1:=hv.small.get hv1
 have bu0:=hu.small.get hu0
 have bu1:=hu.small.get hu1
 have bu2:=hu.small.get hu2
 have eV:=M85 hvl hv0 hv1
 obtain⟨T,hT⟩:∃ T,T=u2*4294967296+u1:=⟨_,rfl⟩
 have eU:=U87 hul hu0 hu1 hu2 hT
 have tV:=D10 hv.small n
 have tU:=D10 hu.small n
 obtain⟨bA,oA,G17,rfl,_,hrowA,hgA⟩:=hu.sl.open (i:=n) (by rw[G1];omega)
 obtain⟨bC,oC,rowC,rfl,_,hrowC,hgC⟩:=hv.sl.open (i:=n) (by rw[G1];omega)
 have gu0:=hgA _ _ (G3 hu0)
 have gu1:=hgA _ _ (G3 hu1)
 have gu2:=hgA _ _ (G3 hu2)
 have gv0:=hgC _ _ (G3 hv0)
 have gv1:=hgC _ _ (G3 hv1)
 have hP:0<4294967296^n:=Nat.pow_pos (by omega)
 generalize hPe:4294967296^n=P at *
 generalize hul2:val (us.take n)=ul at *
 generalize hvl2:val (vs.take n)=vl at *
 have hvpos:0<val vs:=by rw[eV];have:=Nat.mul_pos hP (show 0<v1*4294967296+v0 by omega);omega
 generalize hq:val us/val vs=q
 have hqle:q*val vs<=val us:=by rw[<- hq];exact Nat.div_mul_le_self _ _
 have hqlt:val us<(q+1)*val vs:=by
  rw[<- hq]
  have:=Nat.lt_div_mul_add hvpos (a:=val us)
  rw[Nat.add_mul];omega
 have hqB:q<4294967296:=by
  rw[<- hq];exact (Nat.div_lt_iff_lt_mul hvpos).2 (by rw[Nat.mul_comm];exact hlt)
 have dist1:∀ g,g*(v1*4294967296+v0)=g*v1*4294967296+g*v0:=fun g=>by rw[Nat.mul_add g (v1*4294967296) v0,<- Nat.mul_assoc g v1 4294967296]
 have dist2:∀ g r,g*v1+r=T->T*4294967296=g*v1*4294967296+r*4294967296:=fun g r h=>by rw[<- h,Nat.add_mul (g*v1) r 4294967296]
 have hup:∀ g,g<=q->g*(v1*4294967296+v0)<=T*4294967296+u0:=by
  intro g hg
  refine C88 (vl:=vl) hP tU ?_
  rw[<- eV,<- eU]
  exact Nat.le_trans (Nat.mul_le_mul_right _ hg) hqle
 have hu2v:u2<=v1:=by
  refine Nat.le_of_not_lt fun hlt2 => ?_
  rw[eU,eV] at hlt
  have h1:(vl+P*(v1*4294967296+v0))*4294967296<P*(v1*4294967296+v0+1)*4294967296:=Nat.mul_lt_mul_of_pos_right (by
   have e0:P*(v1*4294967296+v0+1)=P*(v1*4294967296+v0)+P:=by rw[Nat.mul_add P (v1*4294967296+v0) 1,Nat.mul_one]
   omega) (by omega)
  have h2:P*((v1*4294967296+v0+1)*4294967296)<=P*(T*4294967296+u0):=Nat.mul_le_mul_left _ (by omega)
  rw[<- Nat.mul_assoc] at h2
  omega
 have c1:((n+2:Nat):Int)-1=((n+1:Nat):Int):=by omega
 have c2:((n+2:Nat):Int)-2=((n:Nat):Int):=by omega
 have hTb:T<18446744073709551616:=by omega
 have hOr:∀ k:VP,J0 .or (.int .u64 ((u2*4294967296:Nat):Int)) (.int .u64 (u1:Int)) k=k (.int .u64 (T:Int)):=fun k=>by rw[hT];exact N26 (a:=u2) (b:=u1) k bu2 bu1
 have hTv:T/v1<=4294967297:=by
  have:T/v1<4294967298:=(Nat.div_lt_iff_lt_mul (by omega)).2 (by omega)
  omega
 simp (disch:=first|omega|assumption) only[W0,c1,c2,Y3 hrowA,gu2,Y6 _ (show u2<18446744073709551616 by omega),R32 _ bu2,gu1,Y6 _ (show u1<18446744073709551616 by omega),hOr,Y3 hrowC,gv1,Y6 _ (show v1<18446744073709551616 by omega),
  Q70 (a:=T) (b:=v1) _ hTb (by omega),W56 (a:=T) (b:=v1) _ (by omega)]
 refine E1 (m:=T/v1) (fun m L H' nx'=>∃ rest:Nat,L=[.int .u64 (m:Int),.int .u64 (rest:Int)]/\m*v1+rest=T/\q<=m/\m<=4294967297/\rest<4294967296/\H=H'/\nx<=nx') ?_
  ⟨T%v1,rfl,by rw[Nat.mul_comm];exact Nat.div_add_mod T v1,?_,hTv,by have:=Nat.mod_lt T (show v1 > 0 by omega);omega,rfl,by omega⟩
 rotate_left
 .have h1:=hup q (Nat.le_refl q)
  have h2:q*v1<=T:=by
   have h3:=dist1 q
   omega
  exact (Nat.le_div_iff_mul_le (by omega)).2 h2
 rintro m ih L _ nx2 ⟨rest,rfl,hgr,hqm,hmB,hrest,rfl,hnx⟩ hih
 have hdown:∀ g rest',g<=4294967296->g*v1+rest'=T->g*v0<=rest'*4294967296+u0->g<=q+1:=by
  intro g rest' hg he hc
  refine J76 (P:=P) (ul:=ul) (vl:=vl) (U3:=T*4294967296+u0) (V2:=v1*4294967296+v0) hP tV (by rw[<- eV,<- eU];exact hqlt) ?_ (by omega)
  have e1:=dist1 g
  have e2:=dist2 g rest' he
  omega
 have step:q<m->∀ (nx3:Nat),nx<=nx3->J0 .sub (.int .u64 (m:Int)) (.int .u64 1) (fun t63=>J0 .add (.int .u64 (rest:Int)) (.int .u64 (v1:Int)) fun t71=>J0 .gtr t71 (.int .u64 4294967295) fun t73=>G2 t73
   (∃ g:Nat,t63 = .int .u64 (g:Int)/\q<=g/\g<=q+1/\g<=4294967296/\H=H/\nx<=nx3) (ih [t63,t71] H nx3)):=by
  intro hqm2 nx3 hnx3
  rw[U82 _ (by omega) (by omega),D21 _ (by omega),R46]
  have he:(m-1)*v1+(rest+v1)=T:=by
   obtain⟨m',rfl⟩:∃ m',m=m'+1:=⟨m-1,by omega⟩
   rw[Nat.add_sub_cancel];rw[Nat.add_mul m' 1 v1] at hgr;omega
  by_cases hbig:4294967295<rest+v1
  .have hb':decide ((4294967295:Int)<((rest+v1:Nat):Int))=true:=decide_eq_true (by omega)
   rw[hb',W10,if_pos rfl]
   refine⟨m-1,rfl,by omega,?_,by omega,rfl,hnx3⟩
   refine hdown (m-1) (rest+v1) (by omega) he ?_
   have h1:(m-1)*v0<=4294967296*4294967295:=Nat.mul_le_mul (by omega) (by omega)
   omega
  .have hb':decide ((4294967295:Int)<((rest+v1:Nat):Int))=false:=decide_eq_false (by omega)
   rw[hb',W10,if_neg (by simp)]
   exact hih (m-1) _ _ _ (by omega) ⟨rest+v1,rfl,he,by omega,by omega,by omega,rfl,hnx3⟩
 by_cases hm1:4294967295<m
 .have hm1':(4294967295:Int)<(m:Int):=by omega
  simp (disch:=first|omega|assumption) only[W0,K3,hm1']
  have h1:=step (by omega) (nx2+22) (by omega)
  simp only[true_and] at h1
  simp (disch:=first|omega|assumption) only[W0,Y3 hrowC,gv1,Y6 _ (show v1<18446744073709551616 by omega)]
  exact h1
 .have hm1':¬ (4294967295:Int)<(m:Int):=by omega
  have hmv:m*v0<18446744073709551616:=by
   have:m*v0<=4294967295*4294967295:=Nat.mul_le_mul (by omega) (by omega)
   omega
  by_cases hc:rest*4294967296+u0<m*v0
  .have hc':=K81 hc
   simp (disch:=first|omega|assumption) only[W0,K3,hm1',Y3 hrowC,gv0,Y6 _ (show v0<18446744073709551616 by omega),J43 (a:=m) (b:=v0) _ hmv,R32 (a:=rest) _ hrest,Y3 hrowA,gu0,Y6 _ (show u0<18446744073709551616 by omega),N26 (a:=rest) (b:=u0) _ hrest bu0,hc',
    gv1,Y6 _ (show v1<18446744073709551616 by omega)]
   have hqm2:q<m:=by
    refine Nat.lt_of_not_le fun hle => ?_
    have h1:=hup m hle
    have e1:=dist1 m
    have e2:=dist2 m rest hgr
    omega
   have h1:=step hqm2 (nx2+22) (by omega)
   simp only[true_and] at h1
   exact h1
  .have hc':=Z76 hc
   simp (disch:=first|omega|assumption) only[W0,K3,hm1',Y3 hrowC,gv0,Y6 _ (show v0<18446744073709551616 by omega),J43 (a:=m) (b:=v0) _ hmv,R32 (a:=rest) _ hrest,Y3 hrowA,gu0,Y6 _ (show u0<18446744073709551616 by omega),N26 (a:=rest) (b:=u0) _ hrest bu0,hc']
   exact⟨m,rfl,hqm,hdown m rest (by omega) hgr (by omega),by omega,by omega⟩
end Go.Proofs.YtpiobdofbhkmjaaDoor

namespace Go.Clo
theorem B33 {R:List Nat} {o i x:Nat}:(R.set (o+i) x).drop o=(R.drop o).set i x:=by
 apply List.ext_getElem?
 intro j
 rw[List.getElem?_drop]
 by_cases h:j=i
 .subst h
  by_cases hl:o+j<R.length
  .rw[List.getElem?_set_self hl,List.getElem?_set_self (by simp;omega)]
  .rw[List.getElem?_eq_none (by simp;omega),List.getElem?_eq_none (by simp;omega)]
 .rw[List.getElem?_set_ne (by omega),List.getElem?_set_ne (by omega),List.getElem?_drop]
theorem B92 {a b:Nat} (k:VP):J0 .add (.int .u32 (a:Int)) (.int .u32 (b:Int)) k=k (.int .u32 (((a+b)%4294967296:Nat):Int)):=by
 rw[D47,<- Int.natCast_add,G70]
theorem M36 {R:List Nat} {o i x:Nat} (h:R[o+i]? = some x):val ((R.drop o).take (i+1))=val ((R.drop o).take i)+4294967296^i*x:=M5 (by rw[List.getElem?_drop];exact h)
theorem E58 {x y c:Nat} (hx:x<4294967296) (hyc:y+c<=4294967296):∃ q r,((x+18446744073709551616-y)%18446744073709551616+18446744073709551616-c)%18446744073709551616%4294967296=q /\
  ((x+18446744073709551616-y)%18446744073709551616+18446744073709551616-c)%18446744073709551616/9223372036854775808=r/\((x+18446744073709551616-y)%18446744073709551616+18446744073709551616-c)%18446744073709551616<18446744073709551616/\q<4294967296/\r<=1/\x+4294967296*r=q+y+c:=by
 by_cases h:y+c<=x
 .exact⟨x-y-c,0,by omega,by omega,by omega,by omega,by omega,by omega⟩
 .exact⟨x+4294967296-y-c,1,by omega,by omega,by omega,by omega,by omega,by omega⟩
end Go.Clo
namespace Go.Proofs.YtpiobdofbhkmjaaDoor
open Go.Clo
set_option maxRecDepth 10000 in
set_option maxHeartbeats 1000000 in
theorem D73 {b o bC oC cu cC n f:Nat} {R vs:List Nat} {rowV:List Value} {H:Y0} {nx:Nat} (hg:X0 H b=some (.cells (N1 R) 0)) (hR:Z4 R) (hoR:o+n+1<=R.length) (hrow:V3 H bC=some rowV) (hbC:bC≠b)
  (hgC:∀ j v,(N1 vs)[j]? = some v->rowV[oC+j]? = some v) (hsv:Z4 vs) (hvl:vs.length=n) (hf:f<=4294967296) (hn:n<900000):
  J2 Tryd.prog 89 [.slice (some ⟨b,o,none⟩) (n+1) cu,.slice (some ⟨bC,oC,none⟩) n cC,.int .u64 (f:Int)] H nx fun r H' nx'=>nx=nx'/\(∀ i,i≠b->X0 H' i=X0 H i) /\
   ∃ (R':List Nat) (w:Nat),X0 H' b=some (.cells (N1 R') 0)/\R'.length=R.length/\Z4 R'/\(∀ q,q<o\/o+n+1<=q->R'[q]? = R[q]?)/\w<=1/\r = .bool (decide (w=1)) /\
    val ((R'.drop o).take (n+1))+f*val vs=val ((R.drop o).take (n+1))+4294967296^(n+1)*w:=by
 refine spec89 ?_
 unfold F89
 simp (disch:=first|omega|assumption) only[W0]
 refine E1 (m:=n) (fun m L H' nx'=>∃ (i carry bor:Nat) (R1:List Nat),m+i=n/\L=[.int .u64 (carry:Int),.int .u64 (bor:Int),.int .i64 (i:Int)]/\carry<4294967296/\bor<=1/\R1.length=R.length/\Z4 R1/\(∀ q,q<o\/o+i<=q->R1[q]? = R[q]?) /\
  val ((R1.drop o).take i)+f*val (vs.take i)=val ((R.drop o).take i)+4294967296^i*(carry+bor)/\X0 H' b=some (.cells (N1 R1) 0)/\(∀ i,i≠b->X0 H' i=X0 H i)/\nx=nx') ?_
  ⟨0,0,0,R,rfl,rfl,by omega,by omega,rfl,hR,fun _ _=>rfl,by simp[val],hg,fun _ _=>rfl,rfl⟩
 rintro m ih L H1 _ ⟨i,carry,bor,R1,hm,rfl,hcar,hbor,hlen,hsm,hsame,hval,hg1,hot,rfl⟩ hih
 by_cases hi:i<n
 case neg=>
  have hi':¬ (i:Int)<(n:Int):=by omega
  have hil:i=n:=by omega
  subst hil
  obtain⟨x,hx⟩:∃ x,R[o+i]? = some x:=⟨_,List.getElem?_eq_getElem (by omega)⟩
  have hx1:R1[o+i]? = some x:=by rw[hsame _ (.inr (Nat.le_refl _))];exact hx
  have hx32:=hR.get hx
  have gX:=G3 hx1
  obtain⟨q,r,hq,hr,hE,hq32,hr1,heq⟩:=E58 (x:=x) (y:=carry) (c:=bor) hx32 (by omega)
  have dn:decide ((r:Int)≠0)=decide (r=1):=by
   have:r=0\/r=1:=by omega
   rcases this with rfl | rfl<;>rfl
  simp (disch:=first|omega|assumption) only[W0,hi',hg1,gX,Y6 _ (show x<18446744073709551616 by omega),X25 (a:=x) (b:=carry) _ (by omega) (by omega),X25 (a:=(x+18446744073709551616-carry)%18446744073709551616) (b:=bor) _ (by omega) (by omega),J9,hq,V41 _ hE,hr,dn,
   G1,Z7 (l:=R1) (i:=o+i) (x:=q) (show o+i<R1.length by omega),show o+i+1<=R1.length by omega]
  refine⟨fun j hj=>by rw[M0 _ hj];exact hot j hj,R1.set (o+i) q,r,rfl,by simp[hlen],C9 hsm hq32,fun j hj => ?_,hr1,rfl,?_⟩
  .rw[List.getElem?_set_ne (by omega)];exact hsame j (by omega)
  .rw[B33,R15 (by simp;omega),M36 hx,Nat.pow_succ,Nat.mul_assoc]
   rw[M6 (ds:=vs) (by omega)] at hval
   have e1:4294967296^i*x+4294967296^i*(4294967296*r)=4294967296^i*q+4294967296^i*(carry+bor):=by
    rw[<- Nat.mul_add (4294967296^i) x,<- Nat.mul_add (4294967296^i) q];congr 1;omega
   omega
 have hi':(i:Int)<(n:Int):=by omega
 obtain⟨y,hy⟩:∃ y,vs[i]? = some y:=⟨_,List.getElem?_eq_getElem (by omega)⟩
 obtain⟨x,hx⟩:∃ x,R[o+i]? = some x:=⟨_,List.getElem?_eq_getElem (by omega)⟩
 have hx1:R1[o+i]? = some x:=by rw[hsame _ (.inr (Nat.le_refl _))];exact hx
 have hx32:=hR.get hx
 have hy32:=hsv.get hy
 have gX:=G3 hx1
 have gY:=hgC _ _ (G3 hy)
 have hrow1:V3 H1 bC=some rowV:=by rw[V3,hot _ hbC];exact hrow
 have hfy:f*y<=4294967296*4294967295:=Nat.mul_le_mul hf (by omega)
 generalize hp:f*y=p at hfy
 obtain⟨t,ht⟩:∃ t,t=carry+p:=⟨_,rfl⟩
 have htb:t<18446744073709551616:=by omega
 have hadd:∀ k:VP,J0 .add (.int .u64 (carry:Int)) (.int .u64 (p:Int)) k=k (.int .u64 (t:Int)):=fun k=>by rw[ht];exact D21 (a:=carry) (b:=p) k (by omega)
 have hmul:∀ k:VP,J0 .mul (.int .u64 (f:Int)) (.int .u64 (y:Int)) k=k (.int .u64 (p:Int)):=fun k=>by rw[<- hp];exact J43 (a:=f) (b:=y) k (by omega)
 obtain⟨q,r,hq,hr,hE,hq32,hr1,heq⟩:=E58 (x:=x) (y:=t%4294967296) (c:=bor) hx32 (by omega)
 simp (disch:=first|omega|assumption) only[W0,hi',Y3 hrow1,gY,Y6 _ (show y<18446744073709551616 by omega),hmul,hadd,hg1,gX,Y6 _ (show x<18446744073709551616 by omega),B84 (a:=t) _ htb,X25 (a:=x) (b:=t%4294967296) _ (by omega) (by omega),
  X25 (a:=(x+18446744073709551616-t%4294967296)%18446744073709551616) (b:=bor) _ (by omega) (by omega),J9,hq,V41 _ hE,hr,K22 _ htb,
  G1,Z7 (l:=R1) (i:=o+i) (x:=q) (show o+i<R1.length by omega),show o+i+1<=R1.length by omega]
 refine hih (m-1) _ _ _ (by omega) ⟨i+1,t/4294967296,r,R1.set (o+i) q,by omega,by simp,by omega,hr1,by simp[hlen],C9 hsm hq32,fun j hj => ?_,?_,Q0 _ _ _,fun j hj=>by rw[M0 _ hj];exact hot j hj,rfl⟩
 .rw[List.getElem?_set_ne (by omega)];exact hsame j (by omega)
 .rw[B33,R15 (by simp;omega),M36 hx,M5 hy,Nat.pow_succ,Nat.mul_assoc (4294967296^i) 4294967296]
  have e1:f*(val (vs.take i)+4294967296^i*y)=f*val (vs.take i)+4294967296^i*p:=by
   rw[Nat.mul_add f (val (vs.take i)),<- hp]
   congr 1
   ac_rfl
  have e2:4294967296^i*x+4294967296^i*(4294967296*(t/4294967296+r))=4294967296^i*q+4294967296^i*p+4294967296^i*(carry+bor):=by
   rw[<- Nat.mul_add (4294967296^i) x,<- Nat.mul_add (4294967296^i) q,<- Nat.mul_add (4294967296^i) (q+p)]
   congr 1
   have:=Nat.mod_add_div t 4294967296
   rw[Nat.mul_add 4294967296 (t/4294967296) r]
   omega
  rw[e1]
  omega
set_option maxRecDepth 10000 in
set_option maxHeartbeats 1000000 in
theorem U74 {b o bC oC cu cC n:Nat} {R vs:List Nat} {rowV:List Value} {H:Y0} {nx:Nat} (hg:X0 H b=some (.cells (N1 R) 0)) (hR:Z4 R) (hoR:o+n+1<=R.length) (hrow:V3 H bC=some rowV) (hbC:bC≠b)
  (hgC:∀ j v,(N1 vs)[j]? = some v->rowV[oC+j]? = some v) (hsv:Z4 vs) (hvl:vs.length=n) (hn:n<900000):
  J2 Tryd.prog 90 [.slice (some ⟨b,o,none⟩) (n+1) cu,.slice (some ⟨bC,oC,none⟩) n cC] H nx fun r H' nx'=>nx<=nx'/\(∀ i,i≠b->X0 H' i=X0 H i) /\
   ∃ (R':List Nat) (w:Nat),X0 H' b=some (.cells (N1 R') 0)/\R'.length=R.length/\Z4 R'/\(∀ q,q<o\/o+n+1<=q->R'[q]? = R[q]?) /\
    val ((R'.drop o).take (n+1))+4294967296^(n+1)*w=val ((R.drop o).take (n+1))+val vs:=by
 refine spec90 ?_
 unfold F90
 simp (disch:=first|omega|assumption) only[W0]
 refine E1 (m:=n) (fun m L H' nx'=>∃ (i carry:Nat) (R1:List Nat),m+i=n/\L=[.int .u64 (carry:Int),.int .i64 (i:Int)]/\carry<=1/\R1.length=R.length/\Z4 R1/\(∀ q,q<o\/o+i<=q->R1[q]? = R[q]?) /\
  val ((R1.drop o).take i)+4294967296^i*carry=val ((R.drop o).take i)+val (vs.take i)/\X0 H' b=some (.cells (N1 R1) 0)/\(∀ i,i≠b->X0 H' i=X0 H i)/\nx<=nx') ?_
  ⟨0,0,R,rfl,rfl,by omega,rfl,hR,fun _ _=>rfl,by simp[val],hg,fun _ _=>rfl,Nat.le_refl _⟩
 rintro m ih L H1 nx1 ⟨i,carry,R1,hm,rfl,hcar,hlen,hsm,hsame,hval,hg1,hot,hnx⟩ hih
 by_cases hi:i<n
 case neg=>
  have hi':¬ (i:Int)<(n:Int):=by omega
  have hil:i=n:=by omega
  subst hil
  obtain⟨x,hx⟩:∃ x,R[o+i]? = some x:=⟨_,List.getElem?_eq_getElem (by omega)⟩
  have hx1:R1[o+i]? = some x:=by rw[hsame _ (.inr (Nat.le_refl _))];exact hx
  have hx32:=hR.get hx
  have gX:=G3 hx1
  have ec:carry%4294967296=carry:=by omega
  simp (disch:=first|omega|assumption) only[W0,hi',hg1,gX,J9,ec,B92,G1,Z7 (l:=R1) (i:=o+i) (x:=(x+carry)%4294967296) (show o+i<R1.length by omega),show o+i+1<=R1.length by omega]
  refine⟨hnx,fun j hj=>by rw[M0 _ hj];exact hot j hj,R1.set (o+i) ((x+carry)%4294967296),(x+carry)/4294967296,rfl,by simp[hlen],C9 hsm (by omega),fun j hj => ?_,?_⟩
  .rw[List.getElem?_set_ne (by omega)];exact hsame j (by omega)
  .rw[B33,R15 (by simp;omega),M36 hx,Nat.pow_succ,Nat.mul_assoc]
   rw[M6 (ds:=vs) (by omega)] at hval
   have e1:4294967296^i*((x+carry)%4294967296)+4294967296^i*(4294967296*((x+carry)/4294967296))=4294967296^i*x+4294967296^i*carry:=by
    rw[<- Nat.mul_add (4294967296^i) ((x+carry)%4294967296),Nat.mod_add_div,Nat.mul_add (4294967296^i) x]
   omega
 have hi':(i:Int)<(n:Int):=by omega
 obtain⟨y,hy⟩:∃ y,vs[i]? = some y:=⟨_,List.getElem?_eq_getElem (by omega)⟩
 obtain⟨x,hx⟩:∃ x,R[o+i]? = some x:=⟨_,List.getElem?_eq_getElem (by omega)⟩
 have hx1:R1[o+i]? = some x:=by rw[hsame _ (.inr (Nat.le_refl _))];exact hx
 have hx32:=hR.get hx
 have hy32:=hsv.get hy
 have gX:=G3 hx1
 have gY:=hgC _ _ (G3 hy)
 have hrow1:V3 H1 bC=some rowV:=by rw[V3,hot _ hbC];exact hrow
 obtain⟨t,ht⟩:∃ t,t=carry+(x+y):=⟨_,rfl⟩
 have htb:t<18446744073709551616:=by omega
 have hadd:∀ k:VP,J0 .add (.int .u64 (carry:Int)) (.int .u64 ((x+y:Nat):Int)) k=k (.int .u64 (t:Int)):=fun k=>by rw[ht];exact D21 (a:=carry) (b:=x+y) k (by omega)
 simp (disch:=first|omega|assumption) only[W0,hi',Y3 hrow1,gY,Y6 _ (show y<18446744073709551616 by omega),hg1,gX,Y6 _ (show x<18446744073709551616 by omega),D21 (a:=x) (b:=y) _ (by omega),hadd,J9,K22 _ htb,
  G1,Z7 (l:=R1) (i:=o+i) (x:=t%4294967296) (show o+i<R1.length by omega),show o+i+1<=R1.length by omega]
 refine hih (m-1) _ _ _ (by omega) ⟨i+1,t/4294967296,R1.set (o+i) (t%4294967296),by omega,by simp,by omega,by simp[hlen],C9 hsm (by omega),fun j hj => ?_,?_,Q0 _ _ _,fun j hj=>by rw[M0 _ hj];exact hot j hj,by omega⟩
 .rw[List.getElem?_set_ne (by omega)];exact hsame j (by omega)
 .rw[B33,R15 (by simp;omega),M36 hx,M5 hy,Nat.pow_succ,Nat.mul_assoc (4294967296^i) 4294967296]
  have e2:4294967296^i*(t%4294967296)+4294967296^i*(4294967296*(t/4294967296))=4294967296^i*carry+4294967296^i*x+4294967296^i*y:=by
   rw[<- Nat.mul_add (4294967296^i) (t%4294967296),Nat.mod_add_div,ht,Nat.mul_add (4294967296^i) carry,Nat.mul_add (4294967296^i) x]
   omega
  omega
end Go.Proofs.YtpiobdofbhkmjaaDoor
