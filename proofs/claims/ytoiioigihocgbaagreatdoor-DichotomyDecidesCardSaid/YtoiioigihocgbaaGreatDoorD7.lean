/-
  Contracts: nat.Sub.
  Contracts: nat.Mul.
  More arithmetic of 64 bits;contracts: nat.Uint64,nat.divDigit.
  Contracts: bits.LeadingZeros32,nat.shiftLeft,nat.shiftRight.
  Contract: nat.guessDigit (the digit of a long division,or one more).
  Contracts: nat.subProduct,nat.addBack (in place,on a part of a block).
  Contracts: nat.divLong,nat.DivMod.
  Contract: nat.DivMod.
  MADE BY PROGRAM (wip/gen/gen.py): functions 94 75 115 103 80 99 96 79 138 144 142 143 141 as marked code,and their claims written out.
  Contracts: rat.common (the greatest common divisor).
-/
import Derived.Test.YtoiioigihocgbaaGreatDoorD6
import Derived.KernelRfl
set_option maxHeartbeats 8000000
set_option maxRecDepth 100000
set_option linter.all false
noncomputable section
open BitVec renaming ofInt->cT,toNat_ofNat->eP
open Go.IntKind renaming bits->dW
open Go.Value renaming int->cD
open List renaming cons_append->dL,drop_of_length_le->cM,ext_getElem?->dH,getElem?_drop->dB,getElem?_eq_getElem->aE,getElem?_eq_none->aT,getElem?_eq_some_iff->aJ,getElem?_map->cP,getElem?_set_ne->bL,getElem?_set_self->dG,getElem?_take->aX,length_take->cK,nil_append->eR,replicate->aF
open Nat renaming add_mul->dM,add_zero->eM,beq->bR,ble->dD,eq_of_beq_eq_true->bT,eq_zero_or_pos->cI,gcd->fF,le_of_lt->eG,le_refl->aD,le_trans->bK,lt_of_le_of_lt->cE,lt_of_lt_of_le->aO,lt_or_ge->aW,mod_eq_of_lt->bV,mod_lt->eZ,mul_add->bJ,mul_assoc->eE,mul_comm->cG,mul_le_mul->eL,mul_le_mul_left->bP,mul_le_mul_right->dS,mul_lt_mul_of_pos_right->fU,mul_one->eQ,pow_le_pow_right->aK,pow_succ->dR,two_pow_pos->aQ,zero_add->cF
open Option renaming elim_some->aN,map_eq_some_iff->bU
namespace Go.Proofs.YtoiioigihocgbaaGreatDoor
open Go.Clo
theorem C101{v w:Value}{a b:Nat}{H:Y0}{nx:Nat}(hv:NN H nx v a)(hw:NN H nx w b)(hl:(D11 a).length<500000)(au:(D11 b).length<500000):
  Q2 Tryz.prog 146 [v,w] H nx fun r H' nx'=>(if a<b then r = .tuple ⟨[.slice none 0 0,.int .i64 19]⟩ else ∃ u,r = .tuple ⟨[u,.int .i64 0]⟩/\NN H' nx' u (a-b))/\D0 H nx H' nx':=by
 obtain⟨A,c,rfl,hA⟩:=hv;obtain⟨C,d,rfl,hC⟩:=hw;refine spec146 ?_;unfold F146;refine R0 (Y69 hA (by omega)) ?_;rintro _ _ _ ⟨rfl,rfl,rfl⟩;refine R0 (Y69 hC (by omega)) ?_;rintro _ _ _ ⟨rfl,rfl,rfl⟩;refine R0 (M95 ⟨_,_,rfl,hA.self⟩ ⟨_,_,rfl,hC.self⟩ (by omega) (by omega)) ?_;rintro _ H1 O ⟨rfl,J⟩
 by_cases U:a<b
 .have e1:X72 a b<0:=by unfold X72;rw[if_pos U];omega
  simp(disch:=first|omega|assumption)only[W0,Q0.val,e1];refine⟨?_,J⟩;rw[if_pos U]
  first | trivial | rfl
 have e1:¬ X72 a b<0:=by
  unfold X72;rw[if_neg U]
  split<;>omega
 have ac:=hA.self.ext J;have ae:=hC.self.ext J;have aq:(D11 b).length<=(D11 a).length:=by
  rcases aW (D11 a).length (D11 b).length with g | g
  .exact absurd (X70 g) U
  .exact g
 simp(disch:=first|omega|assumption)only[W0,Q0.val,e1];rw[M27 (by omega),C23];have av:D0 H nx (hs H1 O (some (.cells (K12 (aF (D11 a).length 0)) 0))) (O+1):=J.new _ J.le (by omega);have a6:=V20 a;have a7:=V20 b;have ag:=B25 a;have ad:=B25 b;generalize D11 a=ds at *
 generalize D11 b=es at *
 refine B1 (m:=ds.length) (fun m L H' nx'=>∃(i E:Nat) (out:List Nat),m+i=ds.length/\L=[.int .u64 (E:Int),.int .i64 (i:Int)]/\E<=1/\out.length=ds.length/\U14 out /\
  val (out.take i)+val (es.take i)=val (ds.take i)+4294967296^i*E/\J0 H' O=some (.cells (K12 out) 0)/\D0 H1 O H' nx'/\O<nx') ?_ ⟨0,0,aF ds.length 0,rfl,rfl,by omega,by simp,R72 _,by simp[val],Z11 _ _ _,(D0.refl H1 O).new _ (aD _) (by omega),by omega⟩
 rintro m ih L H2 nx2 ⟨i,E,out,hm,rfl,ao,W,a2,V,hg,hE,a5⟩ ak;have a9:=J.trans hE
 by_cases hi:i<ds.length
 case neg=>
  have a0:¬ (i:Int)<(ds.length:Int):=by omega
  rw[X25 (ds:=out) (by omega),X25 (ds:=es) (by omega),X25 (ds:=ds) (by omega)] at V;have a4:val out=a-b:=by
   have h1:=J95 a2;have h2:E=0\/E=1:=by omega
   rcases h2 with rfl | rfl
   .omega
   .rw[W,show i=ds.length by omega] at *
    omega
  simp(disch:=first|omega|assumption)only[W0,a0];refine R0 (U84 a5 hg a2 W (by omega) (aD _) a4) ?_;rintro v _ _ ⟨hv,rfl,rfl⟩;refine⟨?_,a9⟩;rw[if_neg U];exact⟨v,rfl,hv⟩
 have a0:(i:Int)<(ds.length:Int):=by omega
 obtain⟨x,hx⟩:∃ x,ds[i]? = some x:=⟨_,aE hi⟩
 obtain⟨bA,oA,V63,rfl,_,a1,ah⟩:=(ac.sl.ext hE).open (i:=i) (by rw[E1];omega);have gA:=ah _ _ (Q3 hx);have al:=ag.get hx;simp(disch:=first|omega|assumption)only[W0,a0,X3 a1,gA,U22 _ (show x<18446744073709551616 by omega),Z76 _ (show x<18446744073709551616 by omega) (show E<18446744073709551616 by omega)];refine N5 (fun L H' nx'=>∃ s q r:Nat,L=[.int .u64 (s:Int)]/\s<18446744073709551616/\s%4294967296=q/\s/9223372036854775808=r/\q<4294967296/\r<=1 /\
  val (out.take i)+4294967296^i*q+val (es.take (i+1))=val (ds.take (i+1))+4294967296^(i+1)*r/\H2=H'/\nx2=nx') ?_ ?_
 .intro tj hj
  by_cases ai:i<es.length
  .have Q:(i:Int)<(es.length:Int):=by omega
   obtain⟨y,hy⟩:∃ y,es[i]? = some y:=⟨_,aE ai⟩
   obtain⟨bC,oC,ap,rfl,_,Z,a8⟩:=(ae.sl.ext hE).open (i:=i) (by rw[E1];omega);have gC:=a8 _ _ (Q3 hy);have an:=ad.get hy;simp(disch:=first|omega|assumption)only[W0,Q,X3 Z,gC,U22 _ (show y<18446744073709551616 by omega),Z76 _ (show(x+18446744073709551616-E)%18446744073709551616<18446744073709551616 by omega) (show y<18446744073709551616 by omega)]
   by_cases aa:E+y<=x
   .refine hj _ _ _ ⟨_,x-E-y,0,rfl,by omega,by omega,by omega,by omega,by omega,?_,rfl,rfl⟩
    rw[G20 hx,G20 hy,show x=(x-E-y)+E+y by omega,bJ,bJ];have:(x-E-y)+E+y-E-y=x-E-y:=by omega
    rw[this];omega
   .refine hj _ _ _ ⟨_,x+4294967296-E-y,1,rfl,by omega,by omega,by omega,by omega,by omega,?_,rfl,rfl⟩
    rw[G20 hx,G20 hy,dR,eQ];have e3:4294967296^i*(x+4294967296-E-y)+4294967296^i*E+4294967296^i*y=4294967296^i*x+4294967296^i*4294967296:=by
     rw[<- bJ,<- bJ,<- bJ];congr 1;omega
    omega
  .have Q:¬ (i:Int)<(es.length:Int):=by omega
   rw[X25 (ds:=es) (by omega)] at V;simp(disch:=first|omega|assumption)only[W0,Q]
   by_cases aa:E<=x
   .refine hj _ _ _ ⟨_,x-E,0,rfl,by omega,by omega,by omega,by omega,by omega,?_,rfl,rfl⟩
    rw[G20 hx,X25 (ds:=es) (by omega)];have e3:4294967296^i*(x-E)+4294967296^i*E=4294967296^i*x:=by rw[<- bJ];congr 1;omega
    omega
   .refine hj _ _ _ ⟨_,x+4294967296-E,1,rfl,by omega,by omega,by omega,by omega,by omega,?_,rfl,rfl⟩
    rw[G20 hx,X25 (ds:=es) (by omega),dR,eQ];have e3:4294967296^i*(x+4294967296-E)+4294967296^i*E=4294967296^i*x+4294967296^i*4294967296:=by
     rw[<- bJ,<- bJ];congr 1;omega
    omega
 rintro L _ _ ⟨s,q,r,rfl,hs,hq,hr,a3,ab,aj,rfl,rfl⟩;simp(disch:=first|omega|assumption)only[W0,G34,hq,hr,X85 _ hs,hg,E1,V10 (l:=out) (i:=i) (x:=q) (show i<out.length by omega),show i+1<=out.length by omega];refine ak (m-1) _ _ _ (by omega) ⟨i+1,r,out.set i q,by omega,by simp,ab,by simp;omega,U39 a2 a3,?_,Z11 _ _ _,hE.hs (aD _),a5⟩;rw[U72 (by omega)];exact aj
theorem Z79{v w:Value}{a b:Nat}{H:Y0}{nx:Nat}(hv:NN H nx v a)(hw:NN H nx w b)(hl:(D11 a).length<400000)(ay:(D11 b).length<400000):
  Q2 Tryz.prog 98 [v,w] H nx fun r H' nx'=>NN H' nx' r (a*b)/\D0 H nx H' nx':=by
 obtain⟨A,c,rfl,hA⟩:=hv;obtain⟨C,d,rfl,hC⟩:=hw;refine spec98 ?_;unfold F98;refine R0 (Y69 hA (by omega)) ?_;rintro _ _ _ ⟨rfl,rfl,rfl⟩;refine R0 (Y69 hC (by omega)) ?_;rintro _ _ _ ⟨rfl,rfl,rfl⟩;have ag:=hA.self;have aj:=hC.self;clear hA hC;simp(disch:=first|omega|assumption)only[W0,Q0.val];have U:=V20 a;have V:=V20 b;have al:=B25 a;have ah:=B25 b;generalize D11 a=ds at *
 generalize D11 b=es at *
 rw[show((ds.length:Int)+(es.length:Int))=((ds.length+es.length:Nat):Int) by omega,M27 (by omega),C23];have ak:D0 H nx (hs H nx (some (.cells (K12 (aF (ds.length+es.length) 0)) 0))) (nx+1):=(D0.refl H nx).new _ (aD _) (by omega);refine B1 (m:=ds.length) (fun m L H' nx'=>∃(i:Nat) (out:List Nat),m+i=ds.length/\L=[.int .i64 (i:Int)]/\out.length=ds.length+es.length/\U14 out /\
  val (out.take (i+es.length))=val (ds.take i)*val es/\J0 H' nx=some (.cells (K12 out) 0)/\D0 H nx H' nx'/\nx<nx') ?_ ⟨0,aF (ds.length+es.length) 0,rfl,rfl,by simp,R72 _,by rw[List.take_replicate,J101];simp[val],Z11 _ _ _,ak,by omega⟩
 rintro m ih L H1 b3 ⟨i,out,hm,rfl,Z,a8,J,hg,hE,a9⟩ ap
 by_cases hi:i<ds.length
 case neg=>
  have a1:¬ (i:Int)<(ds.length:Int):=by omega
  have a7:val out=a*b:=by
   rw[X25 (ds:=out) (by omega),X25 (ds:=ds) (by omega)] at J;rw[J,U,V]
  simp(disch:=first|omega|assumption)only[W0,a1];refine R0 (U84 a9 hg a8 Z (by omega) (aD _) a7) ?_;rintro v _ _ ⟨hv,rfl,rfl⟩;exact⟨hv,hE⟩
 have a1:(i:Int)<(ds.length:Int):=by omega
 obtain⟨x,hx⟩:∃ x,ds[i]? = some x:=⟨_,aE hi⟩
 have aq:=al.get hx;simp(disch:=first|omega|assumption)only[W0,a1];refine B1 (m:=es.length) (fun m L H' nx'=>∃(j E:Nat) (o2:List Nat),m+j=es.length/\L=[.int .u64 (E:Int),.int .i64 (j:Int)]/\E<4294967296/\o2.length=ds.length+es.length/\U14 o2 /\
  val (o2.take (i+j))+4294967296^(i+j)*E=val (out.take (i+j))+4294967296^i*(x*val (es.take j))/\(∀ q,i+j<=q->o2[q]? = out[q]?)/\J0 H' nx=some (.cells (K12 o2) 0)/\D0 H nx H' nx'/\nx<nx') ?_
  ⟨0,0,out,rfl,rfl,by omega,Z,a8,by simp[val],fun _ _=>rfl,hg,hE,a9⟩
 rintro m2 ax L H2 nx2 ⟨j,E,o2,az,rfl,a5,ad,O,a4,Q,ab,W,aa⟩ a6
 by_cases hj:j<es.length
 case neg=>
  have a2:¬ (j:Int)<(es.length:Int):=by omega
  have ao:j=es.length:=by omega
  subst ao;have e1:E%4294967296=E:=by omega
  have ei:((i:Int)+(es.length:Int)).toNat=i+es.length:=by omega
  simp(disch:=first|omega|assumption)only[W0,a2,G34,e1,ei,ab,E1,V10 (l:=o2) (i:=i+es.length) (x:=E) (show i+es.length<o2.length by omega),show i+es.length+1<=o2.length by omega];refine ap (m-1) _ _ _ (by omega) ⟨i+1,o2.set (i+es.length) E,by omega,by simp,by simp;omega,U39 O a5,?_,Z11 _ _ _,W.hs (aD _),aa⟩;rw[show i+1+es.length=(i+es.length)+1 by omega,U72 (by omega),a4,J,X25 (ds:=es) (aD _),G20 hx,dM,eE]
 have a2:(j:Int)<(es.length:Int):=by omega
 obtain⟨y,hy⟩:∃ y,es[j]? = some y:=⟨_,aE hj⟩
 obtain⟨z,hz⟩:∃ z,o2[i+j]? = some z:=⟨_,aE (by omega)⟩
 have au:=ah.get hy;have av:=O.get hz;obtain⟨bA,oA,V63,rfl,_,a3,an⟩:=(ag.sl.ext W).open (i:=i) (by rw[E1];omega);have gA:=an _ _ (Q3 hx);obtain⟨bC,oC,aw,rfl,_,a0,ae⟩:=(aj.sl.ext W).open (i:=j) (by rw[E1];omega);have gC:=ae _ _ (Q3 hy);have gZ:=Q3 hz;have ai:x*y<=4294967295*4294967295:=eL (by omega) (by omega);have ei:((i:Int)+(j:Int)).toNat=i+j:=by omega
 generalize hp:x*y=p at ai;simp(disch:=first|omega|assumption)only[W0,a2,X3 a3,gA,X3 a0,gC,U22 _ (show x<18446744073709551616 by omega),U22 _ (show y<18446744073709551616 by omega),U85 (a:=x) (b:=y) _ (by rw[hp];omega),hp,ei,ab,gZ,U22 _ (show z<18446744073709551616 by omega),
  B74 _ (show p+z<18446744073709551616 by omega),B74 _ (show E+(p+z)<18446744073709551616 by omega),G34,E1,V10 (l:=o2) (i:=i+j) (x:=(E+(p+z))%4294967296) (show i+j<o2.length by omega),show i+j+1<=o2.length by omega,D74 _ (show E+(p+z)<18446744073709551616 by omega)]
 refine a6 (m2-1) _ _ _ (by omega) ⟨j+1,(E+(p+z))/4294967296,o2.set (i+j) ((E+(p+z))%4294967296),by omega,by simp,by omega,by simp;omega,U39 O (by omega),?_,fun q hq => ?_,Z11 _ _ _,W.new _ (by omega) (by omega),by omega⟩
 .have ac:out[i+j]? = some z:=by rw[<- Q (i+j) (aD _)];exact hz
  rw[show i+(j+1)=i+j+1 by omega,U72 (by omega),G20 ac,G20 hy,dR,eE (4294967296^(i+j))];have e1:4294967296^(i+j)*(E+(p+z))=4294967296^(i+j)*((E+(p+z))%4294967296)+4294967296^(i+j)*(4294967296*((E+(p+z))/4294967296)):=by rw[<- bJ,Nat.mod_add_div]
  have e2:4294967296^i*(x*(val (es.take j)+4294967296^j*y))=4294967296^i*(x*val (es.take j))+4294967296^(i+j)*p:=by
   rw[bJ,bJ,<- hp,Nat.pow_add];congr 1
   ac_rfl
  rw[e2];rw[bJ,bJ] at e1;omega
 .rw[bL (by omega)]
  exact Q q (by omega)
end Go.Proofs.YtoiioigihocgbaaGreatDoor
namespace Go.Clo
theorem Q102{a b n:Nat}(h:b<2^n):a*2^n ||| b=a*2^n+b:=by
 rw[cG,Nat.two_pow_add_eq_or_of_lt h]
theorem M107{a b n:Nat}(h:a<2^n):a ||| b*2^n=a+b*2^n:=by
 rw[Nat.or_comm,Q102 h,Nat.add_comm]
section
variable {a b:Nat} (k:VP)
theorem G90{n:Nat}{K:IntKind}(hn:n<64)(h:a*2^n<18446744073709551616):D10 .shl (.int .u64 (a:Int)) (.int K (n:Int)) k=k (.int .u64 ((a*2^n:Nat):Int)):=by
 rw[X6];have h0:¬ (n:Int)<0:=by omega
 simp only[R9,N4,C18,cond_true,h0,if_false,aN,dW];congr 2;have e:((a:Int)*(2:Int)^min ((n:Int)).toNat 64)=((a*2^n:Nat):Int):=by
  have:min n 64=n:=by omega
  simp[this]
 rw[e,Q75 h]
theorem E79(h:a<4294967296):D10 .shl (.int .u64 (a:Int)) (.int .u64 32) k=k (.int .u64 ((a*4294967296:Nat):Int)):=G90 (n:=32) k (by omega) (by omega)
theorem V103(ha:a<18446744073709551616)(hb:b<18446744073709551616):D10 .or (.int .u64 (a:Int)) (.int .u64 (b:Int)) k=k (.int .u64 ((a ||| b:Nat):Int)):=by
 rw[X6];show k (.int .u64 (IntKind.u64.wrap ((cT 64 (a:Int) ||| cT 64 (b:Int)).toNat:Int)))=_;rw[W10,W10,BitVec.toNat_or,eP,eP,bV (by simpa using ha),bV (by simpa using hb),Q75 (Nat.or_lt_two_pow (n:=64) ha hb)]
theorem N76(ha:a<4294967296)(hb:b<4294967296):D10 .or (.int .u64 ((a*4294967296:Nat):Int)) (.int .u64 (b:Int)) k=k (.int .u64 ((a*4294967296+b:Nat):Int)):=by
 rw[V103 k (by omega) (by omega),show a*4294967296 ||| b=a*4294967296+b from Q102 (n:=32) hb]
theorem R88{n:Nat}(ha:a<2^n)(hn:a<18446744073709551616)(hb:b*2^n<18446744073709551616):D10 .or (.int .u64 (a:Int)) (.int .u64 ((b*2^n:Nat):Int)) k=k (.int .u64 ((a+b*2^n:Nat):Int)):=by
 rw[V103 k hn hb,M107 ha]
theorem D103(ha:a<18446744073709551616):D10 .and (.int .u64 (a:Int)) (.int .u64 4294967295) k=k (.int .u64 ((a%4294967296:Nat):Int)):=by
 rw[X6];show k (.int .u64 (IntKind.u64.wrap ((cT 64 (a:Int) &&& cT 64 ((4294967295:Nat):Int)).toNat:Int)))=_;rw[W10,W10,BitVec.toNat_and,eP,eP,bV (by simpa using ha)];have:a &&& (4294967295%2^64)=a%4294967296:=Nat.and_two_pow_sub_one_eq_mod a 32;rw[this,Q75 (by omega)]
theorem Y98 (ha:a<18446744073709551616) (hb:0<b):D10 .quo (.int .u64 (a:Int)) (.int .u64 (b:Int)) k=k (.int .u64 ((a/b:Nat):Int)):=by
 rw[E105 _ _ _ _ (by omega)]
 have:((a:Int).tdiv (b:Int))=((a/b:Nat):Int):=by rw[Int.ofNat_tdiv]
 rw[this,Q75 (Nat.lt_of_le_of_lt (Nat.div_le_self _ _) ha)]
theorem B90(hb:0<b):D10 .rem (.int .u64 (a:Int)) (.int .u64 (b:Int)) k=k (.int .u64 ((a%b:Nat):Int)):=by
 rw[Z62 _ _ _ _ (by omega)];have:((a:Int).tmod (b:Int))=((a%b:Nat):Int):=by rw[Int.ofNat_tmod]
 rw[this]
end
theorem D72{ds:List Nat}{i d:Nat}(h:ds[i]? = some d):val (ds.drop i)=d+4294967296*val (ds.drop (i+1)):=by
 have hi:i<ds.length:=(aJ.1 h).1;have hd:ds[i]=d:=(aJ.1 h).2;rw[List.drop_eq_getElem_cons hi,hd,val]
theorem C86{o:List Nat}{i x:Nat}:(o.set i x).drop (i+1)=o.drop (i+1):=by
 apply dH;intro j;rw[dB,dB,bL (by omega)]
end Go.Clo
namespace Go.Proofs.YtoiioigihocgbaaGreatDoor
open Go.Clo
theorem V84{v:Value}{n:Nat}{H:Y0}{nx:Nat}(h:NN H nx v n)(hl:(D11 n).length<1000000):
  Q2 Tryz.prog 116 [v] H nx fun r H' nx'=>(if n<18446744073709551616 then r = .tuple ⟨[.int .u64 (n:Int),.bool true]⟩ else r = .tuple ⟨[.int .u64 0,.bool false]⟩)/\H=H'/\nx=nx':=by
 obtain⟨A,c,rfl,hD⟩:=h;refine spec116 ?_;unfold F116;refine R0 (Y69 hD hl) ?_;rintro _ _ _ ⟨rfl,rfl,rfl⟩;have Q:=B25 n
 by_cases h2:(D11 n).length<=2
 case neg=>
  have e1:(2:Int)<((D11 n).length:Int):=by omega
  have V:¬ n<18446744073709551616:=fun hn=>by
   have:=E29 (n:=n) (k:=2) (by simpa using hn);omega
  simp(disch:=first|omega|assumption)only[W0,e1,V]
 have e1:¬ (2:Int)<((D11 n).length:Int):=by omega
 have hn:n<18446744073709551616:=by
  have h3:=Q68 n;have h4:4294967296^(D11 n).length<=4294967296^2:=aK (by omega) h2;omega
 simp(disch:=first|omega|assumption)only[W0,e1];have a0:=V20 n;generalize D11 n=ds at *
 refine B1 (m:=ds.length) (fun m L H' nx'=>∃ i:Nat,m+i=ds.length/\L=[.int .u64 (val (ds.take i):Int),.int .i64 (i:Int)]/\H=H'/\nx=nx') ?_ ⟨0,rfl,rfl,rfl,rfl⟩;rintro m ih L _ _ ⟨i,hm,rfl,rfl,rfl⟩ a2
 by_cases hi:i<ds.length
 .have E:(i:Int)<(ds.length:Int):=by omega
  obtain⟨x,hx⟩:∃ x,ds[i]? = some x:=⟨_,aE hi⟩
  have a3:=Q.get hx;obtain⟨bA,oA,V63,rfl,_,J,Z⟩:=hD.sl.open (i:=i) (by rw[E1];omega);have gA:=Z _ _ (Q3 hx);have ht:=Z48 Q i;have O:i=0\/i=1:=by omega
  have em:∀ k:VP,D10 .mul (.int .i64 32) (.int .i64 (i:Int)) k=k (.int .i64 ((32*i:Nat):Int)):=fun k=>by
   rw[B82,Y23 (by omega) (by omega)];rfl
  have hp:4294967296^i=2^(32*i):=by rw[Nat.pow_mul]
  have U:x*2^(32*i)<18446744073709551616:=by
   rcases O with rfl | rfl
   .simp;omega
   .simp;omega
  have W:val (ds.take i)<2^(32*i):=by rw[<- hp];exact ht
  have a1:val (ds.take i)<18446744073709551616:=by
   rcases O with rfl | rfl
   .simp at ht;omega
   .simp at ht;omega
  simp(disch:=first|omega|assumption)only[W0,E,X3 J,gA,U22 _ (show x<18446744073709551616 by omega),em,G90 (a:=x) (n:=32*i) _ (by omega) U,R88 (a:=val (ds.take i)) (b:=x) (n:=32*i) _ W a1 U];refine a2 (m-1) _ _ _ (by omega) ⟨i+1,by omega,?_,rfl,rfl⟩;rw[G20 hx,hp,cG x];simp
 .have E:¬ (i:Int)<(ds.length:Int):=by omega
  simp(disch:=first|omega|assumption)only[W0,E];rw[if_pos hn,X25 (by omega),a0]
theorem E93{b c sl d:Nat}{ds:List Nat}{H:Y0}{nx:Nat}(hb:b<nx)(hg:J0 H b=some (.cells (K12 ds) sl))(hs:U14 ds)(hl:ds.length<1000000)(hd:0<d)(a5:d<4294967296):
  Q2 Tryz.prog 117 [.slice (some ⟨b,0,none⟩) ds.length c,.int .u32 (d:Int)] H nx fun r H' nx'=>r = .int .u32 ((val ds%d:Nat):Int)/\nx=nx'/\(∀ i,i≠b->J0 H' i=J0 H i) /\
   ∃ qs,J0 H' b=some (.cells (K12 qs) sl)/\qs.length=ds.length/\U14 qs/\val qs=val ds/d:=by
 refine spec117 ?_;unfold F117;simp(disch:=first|omega|assumption)only[W0];refine B1 (m:=ds.length) (fun m L H' nx'=>∃(rest:Nat) (o:List Nat),L=[.int .u64 (rest:Int),.int .i64 ((m:Int)-1)]/\m<=ds.length/\rest<d/\o.length=ds.length/\U14 o/\(∀ q,q<m->o[q]? = ds[q]?) /\
  val (o.drop m)*d+rest=val (ds.drop m)/\J0 H' b=some (.cells (K12 o) sl)/\(∀ i,i≠b->J0 H' i=J0 H i)/\nx=nx') ?_
  ⟨0,ds,rfl,aD _,hd,rfl,hs,fun _ _=>rfl,by rw[cM (aD _)];simp[val],hg,fun _ _=>rfl,rfl⟩
 rintro m ih L H1 _ ⟨rest,o,rfl,hm,hr,Q,W,J,E,a0,Z,rfl⟩ a3
 by_cases h0:m=0
 .subst h0
  have e2:¬ (0:Int)<=((0:Nat):Int)-1:=by omega
  simp(disch:=first|omega|assumption)only[W0,e2,G34];rw[List.drop_zero,List.drop_zero] at E;have hq:val ds/d=val o:=by rw[<- E,cG,Nat.mul_add_div hd,Nat.div_eq_of_lt hr,eM]
  have a4:val ds%d=rest:=by rw[<- E,cG,Nat.mul_add_mod,bV hr]
  refine⟨by rw[a4,bV (by omega)],Z,o,a0,Q,W,hq.symm⟩
 .have e2:(0:Int)<=(m:Int)-1:=by omega
  have e4:((m:Int)-1).toNat=m-1:=by omega
  obtain⟨x,hx⟩:∃ x,ds[m-1]? = some x:=⟨_,aE (by omega)⟩
  have a1:o[m-1]? = some x:=by rw[J _ (by omega)];exact hx
  have V:=hs.get hx;have gX:=Q3 a1;have U:rest*4294967296+x<d*4294967296:=by
   have:=dS 4294967296 (show rest+1<=d by omega);omega
  have O:(rest*4294967296+x)/d<4294967296:=(Nat.div_lt_iff_lt_mul hd).2 (by rw[cG 4294967296 d];exact U);simp(disch:=first|omega|assumption)only[W0,e2,e4,a0,gX,E79 _ (show rest<4294967296 by omega),U22 _ (show x<18446744073709551616 by omega),N76 (a:=rest) (b:=x) _ (by omega) V,U22 _ (show d<18446744073709551616 by omega),
   Y98 (a:=rest*4294967296+x) (b:=d) _ (by omega) hd,B90 (a:=rest*4294967296+x) (b:=d) _ hd,G34,bV O,E1,V10 (l:=o) (i:=m-1) (x:=(rest*4294967296+x)/d) (show m-1<o.length by omega),show m-1+1<=o.length by omega]
  refine a3 (m-1) _ _ _ (by omega) ⟨(rest*4294967296+x)%d,o.set (m-1) ((rest*4294967296+x)/d),by congr 3;omega,by omega,eZ _ hd,by simp[Q],U39 W O,fun q hq => ?_,?_,Z11 _ _ _,fun i hi=>by rw[Z1 _ hi];exact Z i hi,rfl⟩
  .rw[bL (by omega)];exact J q (by omega)
  .have a2:(o.set (m-1) ((rest*4294967296+x)/d))[m-1]? = some ((rest*4294967296+x)/d):=by rw[dG (by omega)]
   rw[D72 a2,D72 hx,C86,show m-1+1=m by omega,<- E,dM];have h1:=Nat.div_add_mod (rest*4294967296+x) d;rw[cG] at h1;have h2:4294967296*val (o.drop m)*d=4294967296*(val (o.drop m)*d):=eE _ _ _;omega
end Go.Proofs.YtoiioigihocgbaaGreatDoor
namespace Go.Clo
theorem Q108{a:Nat}(k:VP):D10 .shl (.int .u64 (a:Int)) (.int .u64 32) k=k (.int .u64 ((a%4294967296*4294967296:Nat):Int)):=by
 rw[X6];have h0:¬ ((32:Int))<0:=by omega
 simp only[R9,N4,C18,cond_true,h0,if_false,aN,dW];congr 2;have e:((a:Int)*(2:Int)^min ((32:Int)).toNat 64)=((a*4294967296:Nat):Int):=by
  simp
 rw[e,K108];congr 1;rw[show(18446744073709551616:Nat)=4294967296*4294967296 from rfl,Nat.mul_mod_mul_right]
theorem Z96{s:Nat}(h:s<32):2^s<=2147483648:=aK (n:=2) (by omega) (show s<=31 by omega)
theorem D102{x W w0 W' s:Nat}(hs:s<32)(hW:W=w0+4294967296*W'):(x+4294967296*W)/2^s=(x+4294967296*w0)/2^s%4294967296+4294967296*(W/2^s)\/4294967296<=x:=by
 by_cases hx:x<4294967296
 .refine .inl ?_
  have hp:0<2^s:=aQ s;have e1:(x+4294967296*W)/2^s/4294967296=W/2^s:=by
   rw[Nat.div_div_eq_div_mul,cG (2^s),<- Nat.div_div_eq_div_mul,Nat.add_mul_div_left _ _ (by omega),Nat.div_eq_of_lt hx,cF]
  have e2:(x+4294967296*W)/2^s%4294967296=(x+4294967296*w0)/2^s%4294967296:=by
   have hB:(4294967296:Nat)=2^s*2^(32-s):=by rw[<- Nat.pow_add,show s+(32-s)=32 by omega]
   have e3:x+4294967296*W=(x+4294967296*w0)+2^s*(4294967296*(2^(32-s)*W')):=by
    have e4:4294967296*(4294967296*W')=2^s*(4294967296*(2^(32-s)*W')):=by
     calc 4294967296*(4294967296*W')=4294967296*(2^s*2^(32-s)*W'):=by rw[<- hB]
      _=2^s*(4294967296*(2^(32-s)*W')):=by ac_rfl
    rw[hW,<- e4];omega
   rw[e3,Nat.add_mul_div_left _ _ hp,Nat.add_mul_mod_self_left]
  rw[<- e2,<- e1,Nat.mod_add_div]
 .exact .inr (by omega)
end Go.Clo
namespace Go.Proofs.YtoiioigihocgbaaGreatDoor
open Go.Clo
theorem Y101{x:Nat}(hx:x<4294967296)(H:Y0)(nx:Nat):Q2 Tryz.prog 129 [.int .u32 (x:Int)] H nx fun v H' nx' => .int .i64 ((32-C14 x:Nat):Int)=v/\H=H'/\nx=nx':=by
 refine spec129 ?_;unfold F129;refine R0 (K106 hx H nx) ?_;rintro _ _ _ ⟨rfl,rfl,rfl⟩;have hb:=V80 (n:=x) (b:=32) hx;simp(disch:=first|omega|assumption)only[W0];congr 1;omega
theorem B84{A:Option Addr}{c s:Nat}{ds:List Nat}{H:Y0}{nx:Nat}(h:Dg H nx A c ds)(hl:ds.length<900000)(a2:s<32):
  Q2 Tryz.prog 130 [.slice A ds.length c,.int .u64 (s:Int)] H nx fun v H' nx'=>v = .slice (some ⟨nx,0,none⟩) (ds.length+1) (ds.length+1)/\nx<nx'/\D0 H nx H' nx' /\
   ∃ out,J0 H' nx=some (.cells (K12 out) 0)/\out.length=ds.length+1/\U14 out/\val out=val ds*2^s:=by
 refine spec130 ?_;unfold F130;simp(disch:=first|omega|assumption)only[W0,Q0.val];rw[show((ds.length:Int)+1)=((ds.length+1:Nat):Int) by omega,M27 (by omega),C23];have hp:=Z96 a2;have a0:D0 H nx (hs H nx (some (.cells (K12 (aF (ds.length+1) 0)) 0))) (nx+1):=(D0.refl H nx).new _ (aD _) (by omega);refine B1 (m:=ds.length) (fun m L H' nx'=>∃(i E:Nat) (out:List Nat),m+i=ds.length/\L=[.int .u64 (E:Int),.int .i64 (i:Int)]/\E<2^s/\out.length=ds.length+1/\U14 out /\
  val (out.take i)+4294967296^i*E=val (ds.take i)*2^s/\J0 H' nx=some (.cells (K12 out) 0)/\D0 H nx H' nx'/\nx<nx') ?_ ⟨0,0,aF (ds.length+1) 0,rfl,rfl,aQ s,by simp,R72 _,by simp[val],Z11 _ _ _,a0,by omega⟩
 rintro m ih L H1 a7 ⟨i,E,out,hm,rfl,Z,O,V,J,hg,hE,W⟩ a3
 by_cases hi:i<ds.length
 case neg=>
  have Q:¬ (i:Int)<(ds.length:Int):=by omega
  have a4:i=ds.length:=by omega
  subst a4;have e1:E%4294967296=E:=by omega
  simp(disch:=first|omega|assumption)only[W0,Q,G34,e1,hg,E1,V10 (l:=out) (i:=ds.length) (x:=E) (show ds.length<out.length by omega),show ds.length+1<=out.length by omega];refine⟨W,hE.hs (aD _),out.set ds.length E,rfl,by simp[O],U39 V (by omega),?_⟩;have h1:=U72 (out:=out) (i:=ds.length) (x:=E) (by omega);rw[X25 (by simp;omega)] at h1;rw[X25 (aD ds.length)] at J;omega
 have Q:(i:Int)<(ds.length:Int):=by omega
 obtain⟨x,hx⟩:∃ x,ds[i]? = some x:=⟨_,aE hi⟩
 have a6:=h.small.get hx;obtain⟨bA,oA,V63,rfl,_,U,a1⟩:=(h.sl.ext hE).open (i:=i) (by rw[E1];omega);have gA:=a1 _ _ (Q3 hx);have a8:x*2^s<=4294967295*2^s:=dS _ (by omega);have a5:E+x*2^s<4294967296*2^s:=by omega
 simp(disch:=first|omega|assumption)only[W0,Q,X3 U,gA,U22 _ (show x<18446744073709551616 by omega),G90 (a:=x) (n:=s) _ (by omega) (by omega),R88 (a:=E) (b:=x) (n:=s) _ Z (by omega) (by omega),G34,D74 (a:=E+x*2^s) _ (by omega),
  hg,E1,V10 (l:=out) (i:=i) (x:=(E+x*2^s)%4294967296) (show i<out.length by omega),show i+1<=out.length by omega]
 refine a3 (m-1) _ _ _ (by omega) ⟨i+1,(E+x*2^s)/4294967296,out.set i ((E+x*2^s)%4294967296),by omega,by simp,(Nat.div_lt_iff_lt_mul (by omega)).2 (by omega),by simp[O],U39 V (by omega),?_,Z11 _ _ _,hE.hs (aD _),W⟩;rw[U72 (by omega),G20 hx,dM,<- J,dR,eE (4294967296^i) 4294967296];have e1:4294967296^i*(E+x*2^s)=4294967296^i*((E+x*2^s)%4294967296)+4294967296^i*(4294967296*((E+x*2^s)/4294967296)):=by rw[<- bJ,Nat.mod_add_div]
 rw[bJ] at e1;rw[eE];omega
theorem W93{A:Option Addr}{c s:Nat}{ds:List Nat}{H:Y0}{nx:Nat}(h:Dg H nx A c ds)(hl:ds.length<900000)(a0:s<32):
  Q2 Tryz.prog 134 [.slice A ds.length c,.int .u64 (s:Int)] H nx fun v H' nx'=>v = .slice (some ⟨nx,0,none⟩) ds.length ds.length/\nx<nx'/\D0 H nx H' nx' /\
   ∃ out,J0 H' nx=some (.cells (K12 out) 0)/\out.length=ds.length/\U14 out/\val out=val ds/2^s:=by
 refine spec134 ?_;unfold F134;simp(disch:=first|omega|assumption)only[W0,Q0.val];rw[M27 (by omega),C23];have hp:=Z96 a0;have a2:D0 H nx (hs H nx (some (.cells (K12 (aF ds.length 0)) 0))) (nx+1):=(D0.refl H nx).new _ (aD _) (by omega);refine B1 (m:=ds.length) (fun m L H' nx'=>∃(E:Nat) (o:List Nat),L=[.int .u64 (E:Int),.int .i64 ((m:Int)-1)]/\m<=ds.length/\E<18446744073709551616/\(∃ W',val (ds.drop m)=E%4294967296+4294967296*W')/\o.length=ds.length/\U14 o /\
  val (o.drop m)=val (ds.drop m)/2^s/\J0 H' nx=some (.cells (K12 o) 0)/\D0 H nx H' nx'/\nx<nx') ?_
  ⟨0,aF ds.length 0,rfl,aD _,by omega,⟨0,by rw[cM (aD _)];rfl⟩,by simp,R72 _,by rw[cM (aD ds.length),cM (by simp)];simp[val],Z11 _ _ _,a2,by omega⟩
 rintro m ih L H1 a6 ⟨E,o,rfl,hm,hh,⟨W',hW⟩,Q,W,J,hg,hE,a1⟩ a5
 by_cases h0:m=0
 .subst h0
  have e2:¬ (0:Int)<=((0:Nat):Int)-1:=by omega
  simp(disch:=first|omega|assumption)only[W0,e2];rw[List.drop_zero,List.drop_zero] at J;exact⟨a1,hE,o,hg,Q,W,J⟩
 .have e2:(0:Int)<=(m:Int)-1:=by omega
  have e4:((m:Int)-1).toNat=m-1:=by omega
  obtain⟨x,hx⟩:∃ x,ds[m-1]? = some x:=⟨_,aE (by omega)⟩
  have V:=h.small.get hx;obtain⟨bA,oA,V63,rfl,_,U,a3⟩:=(h.sl.ext hE).open (i:=m-1) (by rw[E1];omega);have gA:=a3 _ _ (Q3 hx);have O:E%4294967296*4294967296+x<18446744073709551616:=by omega
  have Z:(E%4294967296*4294967296+x)/2^s%4294967296<4294967296:=eZ _ (by omega);simp(disch:=first|omega|assumption)only[W0,e2,e4,X3 U,gA,Q108,U22 _ (show x<18446744073709551616 by omega),N76 (a:=E%4294967296) (b:=x) _ (by omega) V,R90 (a:=E%4294967296*4294967296+x) (n:=s) _ O,G34,
   hg,E1,V10 (l:=o) (i:=m-1) (x:=(E%4294967296*4294967296+x)/2^s%4294967296) (show m-1<o.length by omega),show m-1+1<=o.length by omega]
  refine a5 (m-1) _ _ _ (by omega) ⟨E%4294967296*4294967296+x,o.set (m-1) ((E%4294967296*4294967296+x)/2^s%4294967296),by congr 3;omega,by omega,O,⟨val (ds.drop m),?_⟩,by simp[Q],U39 W Z,?_,Z11 _ _ _,hE.hs (aD _),a1⟩
  .rw[D72 hx,show m-1+1=m by omega]
   omega
  .have a4:(o.set (m-1) ((E%4294967296*4294967296+x)/2^s%4294967296))[m-1]? = some ((E%4294967296*4294967296+x)/2^s%4294967296):=by rw[dG (by omega)]
   rw[D72 a4,D72 hx,C86,show m-1+1=m by omega,J];rcases D102 (x:=x) a0 hW with e | e
   .rw[e,show x+4294967296*(E%4294967296)=E%4294967296*4294967296+x by omega]
   .omega
end Go.Proofs.YtoiioigihocgbaaGreatDoor
namespace Go.Clo
theorem J103{a:Nat}(k:VP)(h:0<a)(h2:a<18446744073709551616):D10 .sub (.int .u64 (a:Int)) (.int .u64 1) k=k (.int .u64 ((a-1:Nat):Int)):=by
 have:=Z76 (a:=a) (b:=1) k h2 (by omega);rw[show((1:Nat):Int)=1 from rfl] at this;rw[this,show(a+18446744073709551616-1)%18446744073709551616=a-1 by omega]
theorem C104{P ul vl U3 V2 g:Nat}(hP:0<P)(hu:ul<P)(hg:g*(vl+P*V2)<=ul+P*U3):g*V2<=U3:=by
 have h1:P*(g*V2)<=g*(vl+P*V2):=by
  rw[bJ,show P*(g*V2)=g*(P*V2) by ac_rfl];omega
 have h2:P*(g*V2)<P*(U3+1):=by rw[bJ];omega
 have:=Nat.lt_of_mul_lt_mul_left h2;omega
theorem N99{P ul vl U3 V2 g q:Nat}(hP:0<P)(hv:vl<P)(hq:ul+P*U3<(q+1)*(vl+P*V2))(hg:g*V2<=U3)(hb:g<=V2+1):g<=q+1:=by
 refine Nat.le_of_not_lt fun E => ?_
 have h1:(q+1)*(vl+P*V2)<=(g-1)*(vl+P*V2):=dS _ (by omega);have h2:(g-1)*(vl+P*V2)<=(g-1)*(P*(V2+1)):=bP _ (by rw[bJ];omega);have h3:P*(g*V2)<=P*U3:=bP _ hg;have h4:P*(g*V2)<P*((g-1)*(V2+1)):=by
  rw[show P*((g-1)*(V2+1))=(g-1)*(P*(V2+1)) by ac_rfl];omega
 have h5:=Nat.lt_of_mul_lt_mul_left h4;obtain⟨g',rfl⟩:∃ g',g=g'+1:=⟨g-1,by omega⟩
 rw[Nat.add_sub_cancel,bJ,dM] at h5;omega
theorem Z104{vs:List Nat}{n v0 v1:Nat}(hl:vs.length=n+2)(h0:vs[n]? = some v0)(h1:vs[n+1]? = some v1):val vs=val (vs.take n)+4294967296^n*(v1*4294967296+v0):=by
 have e:=V73 h0;rw[D72 h1,cM (by omega),val] at e;rw[e];congr 2;omega
theorem V104{us:List Nat}{n u0 u1 u2 T:Nat}(hl:us.length=n+3)(h0:us[n]? = some u0)(h1:us[n+1]? = some u1)(h2:us[n+2]? = some u2)(hT:T=u2*4294967296+u1):val us=val (us.take n)+4294967296^n*(T*4294967296+u0):=by
 subst hT;have e:=V73 h0;rw[D72 h1,D72 h2,cM (by omega),val] at e;rw[e];congr 2;omega
theorem D100{a b:Nat}(h:a<b):(a:Int)<(b:Int):=Int.ofNat_lt.2 h
theorem E99{a b:Nat}(h:¬ a<b):¬ (a:Int)<(b:Int):=fun h2=>h (Int.ofNat_lt.1 h2)
end Go.Clo
namespace Go.Proofs.YtoiioigihocgbaaGreatDoor
open Go.Clo
theorem M105{A C:Option Addr}{us vs:List Nat}{n cA cC:Nat}{H:Y0}{nx:Nat}(hu:Dg H nx A cA us)(hv:Dg H nx C cC vs)(aw:vs.length=n+2)(b8:us.length=n+3)(hn:n<900000){v1:Nat}(ac:vs[n+1]? = some v1)(bk:2147483648<=v1)
  (ai:val us<val vs*4294967296):Q2 Tryz.prog 131 [.slice A (n+3) cA,.slice C (n+2) cC] H nx fun r H' nx'=>∃ g:Nat,r = .int .u64 (g:Int)/\val us/val vs<=g/\g<=val us/val vs+1/\g<=4294967296/\H=H'/\nx<=nx':=by
 refine spec131 ?_;unfold F131;obtain⟨v0,ab⟩:∃ v0,vs[n]? = some v0:=⟨_,aE (by omega)⟩
 obtain⟨u0,a6⟩:∃ u0,us[n]? = some u0:=⟨_,aE (by omega)⟩
 obtain⟨u1,a5⟩:∃ u1,us[n+1]? = some u1:=⟨_,aE (by omega)⟩
 obtain⟨u2,aa⟩:∃ u2,us[n+2]? = some u2:=⟨_,aE (by omega)⟩
 have c4:=hv.small.get ab;have bv:=hv.small.get ac;have ah:=hu.small.get a6;have az:=hu.small.get a5;have aj:=hu.small.get aa;have eV:=Z104 aw ab ac;obtain⟨T,hT⟩:∃ T,T=u2*4294967296+u1:=⟨_,rfl⟩
 have eU:=V104 b8 a6 a5 aa hT;have tV:=Z48 hv.small n;have tU:=Z48 hu.small n;obtain⟨bA,oA,V63,rfl,_,U,a9⟩:=hu.sl.open (i:=n) (by rw[E1];omega);obtain⟨bC,oC,bh,rfl,_,E,ag⟩:=hv.sl.open (i:=n) (by rw[E1];omega);have ae:=a9 _ _ (Q3 a6);have ba:=a9 _ _ (Q3 a5);have b3:=a9 _ _ (Q3 aa);have au:=ag _ _ (Q3 ab);have a4:=ag _ _ (Q3 ac);have hP:0<4294967296^n:=Nat.pow_pos (by omega);generalize c3:4294967296^n=P at *
 generalize bg:val (us.take n)=ul at *
 generalize bt:val (vs.take n)=vl at *
 have Z:0<val vs:=by rw[eV];have:=Nat.mul_pos hP (show 0<v1*4294967296+v0 by omega);omega
 generalize hq:val us/val vs=q;have ak:q*val vs<=val us:=by rw[<- hq];exact Nat.div_mul_le_self _ _
 have al:val us<(q+1)*val vs:=by
  rw[<- hq];have:=Nat.lt_div_mul_add Z (a:=val us);rw[dM];omega
 have c6:q<4294967296:=by
  rw[<- hq];exact(Nat.div_lt_iff_lt_mul Z).2 (by rw[cG];exact ai)
 have Q:∀ g,g*(v1*4294967296+v0)=g*v1*4294967296+g*v0:=fun g=>by rw[bJ g (v1*4294967296) v0,<- eE g v1 4294967296]
 have W:∀ g r,g*v1+r=T->T*4294967296=g*v1*4294967296+r*4294967296:=fun g r h=>by rw[<- h,dM (g*v1) r 4294967296]
 have ao:∀ g,g<=q->g*(v1*4294967296+v0)<=T*4294967296+u0:=by
  intro g hg;refine C104 (vl:=vl) hP tU ?_;rw[<- eV,<- eU];exact bK (dS _ hg) ak
 have bu:u2<=v1:=by
  refine Nat.le_of_not_lt fun bf => ?_
  rw[eU,eV] at ai;have h1:(vl+P*(v1*4294967296+v0))*4294967296<P*(v1*4294967296+v0+1)*4294967296:=fU (by
   have e0:P*(v1*4294967296+v0+1)=P*(v1*4294967296+v0)+P:=by rw[bJ P (v1*4294967296+v0) 1,eQ]
   omega) (by omega)
  have h2:P*((v1*4294967296+v0+1)*4294967296)<=P*(T*4294967296+u0):=bP _ (by omega);rw[<- eE] at h2;omega
 have c1:((n+2:Nat):Int)-1=((n+1:Nat):Int):=by omega
 have c2:((n+2:Nat):Int)-2=((n:Nat):Int):=by omega
 have av:T<18446744073709551616:=by omega
 have b4:∀ k:VP,D10 .or (.int .u64 ((u2*4294967296:Nat):Int)) (.int .u64 (u1:Int)) k=k (.int .u64 (T:Int)):=fun k=>by rw[hT];exact N76 (a:=u2) (b:=u1) k aj az
 have bc:T/v1<=4294967297:=by
  have:T/v1<4294967298:=(Nat.div_lt_iff_lt_mul (by omega)).2 (by omega);omega
 simp(disch:=first|omega|assumption)only[W0,c1,c2,X3 U,b3,U22 _ (show u2<18446744073709551616 by omega),E79 _ aj,ba,U22 _ (show u1<18446744073709551616 by omega),b4,X3 E,a4,U22 _ (show v1<18446744073709551616 by omega),
  Y98 (a:=T) (b:=v1) _ av (by omega),B90 (a:=T) (b:=v1) _ (by omega)]
 refine B1 (m:=T/v1) (fun m L H' nx'=>∃ rest:Nat,L=[.int .u64 (m:Int),.int .u64 (rest:Int)]/\m*v1+rest=T/\q<=m/\m<=4294967297/\rest<4294967296/\H=H'/\nx<=nx') ?_
  ⟨T%v1,rfl,by rw[cG];exact Nat.div_add_mod T v1,?_,bc,by have:=eZ T (show v1 > 0 by omega);omega,rfl,by omega⟩
 rotate_left
 .have h1:=ao q (aD q)
  have h2:q*v1<=T:=by
   have h3:=Q q;omega
  exact(Nat.le_div_iff_mul_le (by omega)).2 h2
 rintro m ih L _ nx2 ⟨rest,rfl,a8,b5,bw,J,rfl,bz⟩ bd;have a0:∀ g O,g<=4294967296->g*v1+O=T->g*v0<=O*4294967296+u0->g<=q+1:=by
  intro g O hg he hc;refine N99 (P:=P) (ul:=ul) (vl:=vl) (U3:=T*4294967296+u0) (V2:=v1*4294967296+v0) hP tV (by rw[<- eV,<- eU];exact al) ?_ (by omega);have e1:=Q g;have e2:=W g O he;omega
 have step:q<m->∀(a1:Nat),nx<=a1->D10 .sub (.int .u64 (m:Int)) (.int .u64 1) (fun aq=>D10 .add (.int .u64 (rest:Int)) (.int .u64 (v1:Int)) fun an=>D10 .gtr an (.int .u64 4294967295) fun ax=>K2 ax
   (∃ g:Nat,aq = .int .u64 (g:Int)/\q<=g/\g<=q+1/\g<=4294967296/\H=H/\nx<=a1) (ih [aq,an] H a1)):=by
  intro a2 a1 a3;rw[J103 _ (by omega) (by omega),B74 _ (by omega),G48];have he:(m-1)*v1+(rest+v1)=T:=by
   obtain⟨m',rfl⟩:∃ m',m=m'+1:=⟨m-1,by omega⟩
   rw[Nat.add_sub_cancel];rw[dM m' 1 v1] at a8;omega
  by_cases bo:4294967295<rest+v1
  .have a7:decide ((4294967295:Int)<((rest+v1:Nat):Int))=true:=decide_eq_true (by omega)
   rw[a7,C46,if_pos rfl];refine⟨m-1,rfl,by omega,?_,by omega,rfl,a3⟩;refine a0 (m-1) (rest+v1) (by omega) he ?_;have h1:(m-1)*v0<=4294967296*4294967295:=eL (by omega) (by omega);omega
  .have a7:decide ((4294967295:Int)<((rest+v1:Nat):Int))=false:=decide_eq_false (by omega)
   rw[a7,C46,if_neg (by simp)];exact bd (m-1) _ _ _ (by omega) ⟨rest+v1,rfl,he,by omega,by omega,by omega,rfl,a3⟩
 by_cases bx:4294967295<m
 .have V:(4294967295:Int)<(m:Int):=by omega
  simp(disch:=first|omega|assumption)only[W0,N13,V];have h1:=step (by omega) (nx2+22) (by omega);simp only[true_and] at h1;simp(disch:=first|omega|assumption)only[W0,X3 E,a4,U22 _ (show v1<18446744073709551616 by omega)];exact h1
 .have V:¬ (4294967295:Int)<(m:Int):=by omega
  have ap:m*v0<18446744073709551616:=by
   have:m*v0<=4294967295*4294967295:=eL (by omega) (by omega);omega
  by_cases hc:rest*4294967296+u0<m*v0
  .have ad:=D100 hc
   simp(disch:=first|omega|assumption)only[W0,N13,V,X3 E,au,U22 _ (show v0<18446744073709551616 by omega),U85 (a:=m) (b:=v0) _ ap,E79 (a:=rest) _ J,X3 U,ae,U22 _ (show u0<18446744073709551616 by omega),N76 (a:=rest) (b:=u0) _ J ah,ad,
    a4,U22 _ (show v1<18446744073709551616 by omega)]
   have a2:q<m:=by
    refine Nat.lt_of_not_le fun ay => ?_
    have h1:=ao m ay;have e1:=Q m;have e2:=W m rest a8;omega
   have h1:=step a2 (nx2+22) (by omega);simp only[true_and] at h1;exact h1
  .have ad:=E99 hc
   simp(disch:=first|omega|assumption)only[W0,N13,V,X3 E,au,U22 _ (show v0<18446744073709551616 by omega),U85 (a:=m) (b:=v0) _ ap,E79 (a:=rest) _ J,X3 U,ae,U22 _ (show u0<18446744073709551616 by omega),N76 (a:=rest) (b:=u0) _ J ah,ad];exact⟨m,rfl,b5,a0 m rest (by omega) a8 (by omega),by omega,by omega⟩
end Go.Proofs.YtoiioigihocgbaaGreatDoor
namespace Go.Clo
theorem U80{R:List Nat}{o i x:Nat}:(R.set (o+i) x).drop o=(R.drop o).set i x:=by
 apply dH;intro j;rw[dB]
 by_cases h:j=i
 .subst h
  by_cases hl:o+j<R.length
  .rw[dG hl,dG (by simp;omega)]
  .rw[aT (by simp;omega),aT (by simp;omega)]
 .rw[bL (by omega),bL (by omega),dB]
theorem M106{a b:Nat}(k:VP):D10 .add (.int .u32 (a:Int)) (.int .u32 (b:Int)) k=k (.int .u32 (((a+b)%4294967296:Nat):Int)):=by
 rw[Z63,<- Int.natCast_add,N96]
theorem E82{R:List Nat}{o i x:Nat}(h:R[o+i]? = some x):val ((R.drop o).take (i+1))=val ((R.drop o).take i)+4294967296^i*x:=G20 (by rw[dB];exact h)
theorem V92{x y c:Nat}(hx:x<4294967296)(E:y+c<=4294967296):∃ q r,((x+18446744073709551616-y)%18446744073709551616+18446744073709551616-c)%18446744073709551616%4294967296=q /\
  ((x+18446744073709551616-y)%18446744073709551616+18446744073709551616-c)%18446744073709551616/9223372036854775808=r/\((x+18446744073709551616-y)%18446744073709551616+18446744073709551616-c)%18446744073709551616<18446744073709551616/\q<4294967296/\r<=1/\x+4294967296*r=q+y+c:=by
 by_cases h:y+c<=x
 .exact⟨x-y-c,0,by omega,by omega,by omega,by omega,by omega,by omega⟩
 .exact⟨x+4294967296-y-c,1,by omega,by omega,by omega,by omega,by omega,by omega⟩
end Go.Clo
namespace Go.Proofs.YtoiioigihocgbaaGreatDoor
open Go.Clo
theorem Q99{b o bC oC cu cC n f:Nat}{R vs:List Nat}{V:List Value}{H:Y0}{nx:Nat}(hg:J0 H b=some (.cells (K12 R) 0))(hR:U14 R)(ao:o+n+1<=R.length)(a4:Q5 H bC=some V)(ag:bC≠b)
  (ab:∀ j v,(K12 vs)[j]? = some v->V[oC+j]? = some v)(ae:U14 vs)(an:vs.length=n)(hf:f<=4294967296)(hn:n<900000):
  Q2 Tryz.prog 132 [.slice (some ⟨b,o,none⟩) (n+1) cu,.slice (some ⟨bC,oC,none⟩) n cC,.int .u64 (f:Int)] H nx fun r H' nx'=>nx=nx'/\(∀ i,i≠b->J0 H' i=J0 H i) /\
   ∃(R':List Nat) (w:Nat),J0 H' b=some (.cells (K12 R') 0)/\R'.length=R.length/\U14 R'/\(∀ q,q<o\/o+n+1<=q->R'[q]? = R[q]?)/\w<=1/\r = .bool (decide (w=1)) /\
    val ((R'.drop o).take (n+1))+f*val vs=val ((R.drop o).take (n+1))+4294967296^(n+1)*w:=by
 refine spec132 ?_;unfold F132;simp(disch:=first|omega|assumption)only[W0];refine B1 (m:=n) (fun m L H' nx'=>∃(i E J:Nat) (R1:List Nat),m+i=n/\L=[.int .u64 (E:Int),.int .u64 (J:Int),.int .i64 (i:Int)]/\E<4294967296/\J<=1/\R1.length=R.length/\U14 R1/\(∀ q,q<o\/o+i<=q->R1[q]? = R[q]?) /\
  val ((R1.drop o).take i)+f*val (vs.take i)=val ((R.drop o).take i)+4294967296^i*(E+J)/\J0 H' b=some (.cells (K12 R1) 0)/\(∀ i,i≠b->J0 H' i=J0 H i)/\nx=nx') ?_
  ⟨0,0,0,R,rfl,rfl,by omega,by omega,rfl,hR,fun _ _=>rfl,by simp[val],hg,fun _ _=>rfl,rfl⟩
 rintro m ih L H1 _ ⟨i,E,J,R1,hm,rfl,al,ak,W,a7,O,a5,a9,a3,rfl⟩ ah
 by_cases hi:i<n
 case neg=>
  have a0:¬ (i:Int)<(n:Int):=by omega
  have ai:i=n:=by omega
  subst ai;obtain⟨x,hx⟩:∃ x,R[o+i]? = some x:=⟨_,aE (by omega)⟩
  have a2:R1[o+i]? = some x:=by rw[O _ (.inr (aD _))];exact hx
  have Q:=hR.get hx;have gX:=Q3 a2;obtain⟨q,r,hq,hr,hE,U,Z,ac⟩:=V92 (x:=x) (y:=E) (c:=J) Q (by omega);have dn:decide ((r:Int)≠0)=decide (r=1):=by
   have:r=0\/r=1:=by omega
   rcases this with rfl | rfl<;>rfl
  simp(disch:=first|omega|assumption)only[W0,a0,a9,gX,U22 _ (show x<18446744073709551616 by omega),Z76 (a:=x) (b:=E) _ (by omega) (by omega),Z76 (a:=(x+18446744073709551616-E)%18446744073709551616) (b:=J) _ (by omega) (by omega),G34,hq,X85 _ hE,hr,dn,
   E1,V10 (l:=R1) (i:=o+i) (x:=q) (show o+i<R1.length by omega),show o+i+1<=R1.length by omega]
  refine⟨fun j hj=>by rw[Z1 _ hj];exact a3 j hj,R1.set (o+i) q,r,rfl,by simp[W],U39 a7 U,fun j hj => ?_,Z,rfl,?_⟩
  .rw[bL (by omega)];exact O j (by omega)
  .rw[U80,U72 (by simp;omega),E82 hx,dR,eE]
   rw[X25 (ds:=vs) (by omega)] at a5;have e1:4294967296^i*x+4294967296^i*(4294967296*r)=4294967296^i*q+4294967296^i*(E+J):=by
    rw[<- bJ (4294967296^i) x,<- bJ (4294967296^i) q];congr 1;omega
   omega
 have a0:(i:Int)<(n:Int):=by omega
 obtain⟨y,hy⟩:∃ y,vs[i]? = some y:=⟨_,aE (by omega)⟩
 obtain⟨x,hx⟩:∃ x,R[o+i]? = some x:=⟨_,aE (by omega)⟩
 have a2:R1[o+i]? = some x:=by rw[O _ (.inr (aD _))];exact hx
 have Q:=hR.get hx;have aj:=ae.get hy;have gX:=Q3 a2;have gY:=ab _ _ (Q3 hy);have a1:Q5 H1 bC=some V:=by rw[Q5,a3 _ ag];exact a4
 have ad:f*y<=4294967296*4294967295:=eL hf (by omega);generalize hp:f*y=p at ad;obtain⟨t,ht⟩:∃ t,t=E+p:=⟨_,rfl⟩
 have a8:t<18446744073709551616:=by omega
 have aa:∀ k:VP,D10 .add (.int .u64 (E:Int)) (.int .u64 (p:Int)) k=k (.int .u64 (t:Int)):=fun k=>by rw[ht];exact B74 (a:=E) (b:=p) k (by omega)
 have a6:∀ k:VP,D10 .mul (.int .u64 (f:Int)) (.int .u64 (y:Int)) k=k (.int .u64 (p:Int)):=fun k=>by rw[<- hp];exact U85 (a:=f) (b:=y) k (by omega)
 obtain⟨q,r,hq,hr,hE,U,Z,ac⟩:=V92 (x:=x) (y:=t%4294967296) (c:=J) Q (by omega);simp(disch:=first|omega|assumption)only[W0,a0,X3 a1,gY,U22 _ (show y<18446744073709551616 by omega),a6,aa,a9,gX,U22 _ (show x<18446744073709551616 by omega),D103 (a:=t) _ a8,Z76 (a:=x) (b:=t%4294967296) _ (by omega) (by omega),
  Z76 (a:=(x+18446744073709551616-t%4294967296)%18446744073709551616) (b:=J) _ (by omega) (by omega),G34,hq,X85 _ hE,hr,D74 _ a8,
  E1,V10 (l:=R1) (i:=o+i) (x:=q) (show o+i<R1.length by omega),show o+i+1<=R1.length by omega]
 refine ah (m-1) _ _ _ (by omega) ⟨i+1,t/4294967296,r,R1.set (o+i) q,by omega,by simp,by omega,Z,by simp[W],U39 a7 U,fun j hj => ?_,?_,Z11 _ _ _,fun j hj=>by rw[Z1 _ hj];exact a3 j hj,rfl⟩
 .rw[bL (by omega)];exact O j (by omega)
 .rw[U80,U72 (by simp;omega),E82 hx,G20 hy,dR,eE (4294967296^i) 4294967296]
  have e1:f*(val (vs.take i)+4294967296^i*y)=f*val (vs.take i)+4294967296^i*p:=by
   rw[bJ f (val (vs.take i)),<- hp];congr 1
   ac_rfl
  have e2:4294967296^i*x+4294967296^i*(4294967296*(t/4294967296+r))=4294967296^i*q+4294967296^i*p+4294967296^i*(E+J):=by
   rw[<- bJ (4294967296^i) x,<- bJ (4294967296^i) q,<- bJ (4294967296^i) (q+p)];congr 1;have:=Nat.mod_add_div t 4294967296;rw[bJ 4294967296 (t/4294967296) r];omega
  rw[e1];omega
theorem M99{b o bC oC cu cC n:Nat}{R vs:List Nat}{O:List Value}{H:Y0}{nx:Nat}(hg:J0 H b=some (.cells (K12 R) 0))(hR:U14 R)(ag:o+n+1<=R.length)(a0:Q5 H bC=some O)(aa:bC≠b)
  (a6:∀ j v,(K12 vs)[j]? = some v->O[oC+j]? = some v)(a9:U14 vs)(ah:vs.length=n)(hn:n<900000):
  Q2 Tryz.prog 133 [.slice (some ⟨b,o,none⟩) (n+1) cu,.slice (some ⟨bC,oC,none⟩) n cC] H nx fun r H' nx'=>nx<=nx'/\(∀ i,i≠b->J0 H' i=J0 H i) /\
   ∃(R':List Nat) (w:Nat),J0 H' b=some (.cells (K12 R') 0)/\R'.length=R.length/\U14 R'/\(∀ q,q<o\/o+n+1<=q->R'[q]? = R[q]?) /\
    val ((R'.drop o).take (n+1))+4294967296^(n+1)*w=val ((R.drop o).take (n+1))+val vs:=by
 refine spec133 ?_;unfold F133;simp(disch:=first|omega|assumption)only[W0];refine B1 (m:=n) (fun m L H' nx'=>∃(i E:Nat) (R1:List Nat),m+i=n/\L=[.int .u64 (E:Int),.int .i64 (i:Int)]/\E<=1/\R1.length=R.length/\U14 R1/\(∀ q,q<o\/o+i<=q->R1[q]? = R[q]?) /\
  val ((R1.drop o).take i)+4294967296^i*E=val ((R.drop o).take i)+val (vs.take i)/\J0 H' b=some (.cells (K12 R1) 0)/\(∀ i,i≠b->J0 H' i=J0 H i)/\nx<=nx') ?_
  ⟨0,0,R,rfl,rfl,by omega,rfl,hR,fun _ _=>rfl,by simp[val],hg,fun _ _=>rfl,aD _⟩
 rintro m ih L H1 ai ⟨i,E,R1,hm,rfl,ae,Q,a3,J,a2,a4,V,a7⟩ ab
 by_cases hi:i<n
 case neg=>
  have W:¬ (i:Int)<(n:Int):=by omega
  have ac:i=n:=by omega
  subst ac;obtain⟨x,hx⟩:∃ x,R[o+i]? = some x:=⟨_,aE (by omega)⟩
  have U:R1[o+i]? = some x:=by rw[J _ (.inr (aD _))];exact hx
  have a1:=hR.get hx;have gX:=Q3 U;have ec:E%4294967296=E:=by omega
  simp(disch:=first|omega|assumption)only[W0,W,a4,gX,G34,ec,M106,E1,V10 (l:=R1) (i:=o+i) (x:=(x+E)%4294967296) (show o+i<R1.length by omega),show o+i+1<=R1.length by omega];refine⟨a7,fun j hj=>by rw[Z1 _ hj];exact V j hj,R1.set (o+i) ((x+E)%4294967296),(x+E)/4294967296,rfl,by simp[Q],U39 a3 (by omega),fun j hj => ?_,?_⟩
  .rw[bL (by omega)];exact J j (by omega)
  .rw[U80,U72 (by simp;omega),E82 hx,dR,eE]
   rw[X25 (ds:=vs) (by omega)] at a2;have e1:4294967296^i*((x+E)%4294967296)+4294967296^i*(4294967296*((x+E)/4294967296))=4294967296^i*x+4294967296^i*E:=by
    rw[<- bJ (4294967296^i) ((x+E)%4294967296),Nat.mod_add_div,bJ (4294967296^i) x]
   omega
 have W:(i:Int)<(n:Int):=by omega
 obtain⟨y,hy⟩:∃ y,vs[i]? = some y:=⟨_,aE (by omega)⟩
 obtain⟨x,hx⟩:∃ x,R[o+i]? = some x:=⟨_,aE (by omega)⟩
 have U:R1[o+i]? = some x:=by rw[J _ (.inr (aD _))];exact hx
 have a1:=hR.get hx;have ad:=a9.get hy;have gX:=Q3 U;have gY:=a6 _ _ (Q3 hy);have Z:Q5 H1 bC=some O:=by rw[Q5,V _ aa];exact a0
 obtain⟨t,ht⟩:∃ t,t=E+(x+y):=⟨_,rfl⟩
 have a8:t<18446744073709551616:=by omega
 have a5:∀ k:VP,D10 .add (.int .u64 (E:Int)) (.int .u64 ((x+y:Nat):Int)) k=k (.int .u64 (t:Int)):=fun k=>by rw[ht];exact B74 (a:=E) (b:=x+y) k (by omega)
 simp(disch:=first|omega|assumption)only[W0,W,X3 Z,gY,U22 _ (show y<18446744073709551616 by omega),a4,gX,U22 _ (show x<18446744073709551616 by omega),B74 (a:=x) (b:=y) _ (by omega),a5,G34,D74 _ a8,
  E1,V10 (l:=R1) (i:=o+i) (x:=t%4294967296) (show o+i<R1.length by omega),show o+i+1<=R1.length by omega]
 refine ab (m-1) _ _ _ (by omega) ⟨i+1,t/4294967296,R1.set (o+i) (t%4294967296),by omega,by simp,by omega,by simp[Q],U39 a3 (by omega),fun j hj => ?_,?_,Z11 _ _ _,fun j hj=>by rw[Z1 _ hj];exact V j hj,by omega⟩
 .rw[bL (by omega)];exact J j (by omega)
 .rw[U80,U72 (by simp;omega),E82 hx,G20 hy,dR,eE (4294967296^i) 4294967296]
  have e2:4294967296^i*(t%4294967296)+4294967296^i*(4294967296*(t/4294967296))=4294967296^i*E+4294967296^i*x+4294967296^i*y:=by
   rw[<- bJ (4294967296^i) (t%4294967296),Nat.mod_add_div,ht,bJ (4294967296^i) E,bJ (4294967296^i) x];omega
  omega
end Go.Proofs.YtoiioigihocgbaaGreatDoor
namespace Go.Clo
theorem V75{a n:Nat}(h:a<=n):Y13 (some (.int .i64 (a:Int))) n=some a:=by
 show(match (cD .i64 (Int.ofNat a)) with | .int _ (.ofNat i)=>cond (dD i n) (some i) none | _=>none)=_;simp[V6 h]
theorem Y109{H:Y0}{b o n c l h:Nat}{row:List Value}(hg:J0 H b=some (.cells row 0))(hl:l<c)(E:l<=h)(hh:h<=c)(k:VP):
  wSl (.slice (some ⟨b,o,none⟩) n c) 1 (some (.int .i64 (l:Int))) (some (.int .i64 (h:Int))) none H k=k (.slice (some ⟨b,o+l,none⟩) (h-l) (c-l)):=by
 have e:B26 (some ⟨b,o,none⟩) n c 1 (some (.int .i64 (l:Int))) (some (.int .i64 (h:Int))) none false=some (.slice (some ⟨b,o+l,none⟩) (h-l) (c-l)):=by
  have e1:Y13 none c=some c:=rfl;have e2:hiA (some (.int .i64 (h:Int))) none n c=some h:=V75 hh;have e3:loA (some (.int .i64 (l:Int))) h=some l:=V75 E;simp only[B26,e1,e2,e3,K43 (show c≠l by omega),V6 (show l<=c by omega)];simp
 unfold wSl;dsimp only;rw[Y4,hg];simp only[aN,slB];rw[show N8 (.cells row 0) o c 1=some false from rfl];dsimp only;rw[e];exact E7 _ _
theorem Q101{H:Y0}{b o n c h:Nat}{row:List Value}(hg:J0 H b=some (.cells row 0))(hh:h<=c)(k:VP):
  wSl (.slice (some ⟨b,o,none⟩) n c) 1 none (some (.int .i64 (h:Int))) none H k=k (.slice (some ⟨b,o,none⟩) h c):=by
 have e:B26 (some ⟨b,o,none⟩) n c 1 none (some (.int .i64 (h:Int))) none false=some (.slice (some ⟨b,o,none⟩) h c):=by
  have e1:Y13 none c=some c:=rfl;have e2:hiA (some (.int .i64 (h:Int))) none n c=some h:=V75 hh;have e3:loA none h=some 0:=rfl;simp only[B26,e1,e2,e3,V6 (Nat.zero_le c)]
  cases bR c 0<;>simp
 unfold wSl;dsimp only;rw[Y4,hg];simp only[aN,slB];rw[show N8 (.cells row 0) o c 1=some false from rfl];dsimp only;rw[e];exact E7 _ _
theorem R92(ds:List Nat)(j:Nat):val ds=val (ds.take j)+4294967296^j*val (ds.drop j)\/ds.length<j:=by
 by_cases h:j<=ds.length
 .refine .inl ?_
  have:=G77 (ds.take j) (ds.drop j);rw[List.take_append_drop,cK,Nat.min_eq_left h] at this;exact this
 .exact .inr (by omega)
theorem M81{ds:List Nat}{j:Nat}(h:j<=ds.length):val ds=val (ds.take j)+4294967296^j*val (ds.drop j):=(R92 ds j).resolve_right (by omega)
theorem E101{R R':List Nat}{j:Nat}(h:∀ q,q<j->R'[q]? = R[q]?):R'.take j=R.take j:=by
 apply dH;intro q;rw[aX,aX]
 split
 .exact h q (by assumption)
 .rfl
theorem G101{R R':List Nat}{j:Nat}(h:∀ q,j<=q->R'[q]? = R[q]?):R'.drop j=R.drop j:=by
 apply dH;intro q;rw[dB,dB];exact h _ (by omega)
theorem Z101{Q D g w P P':Nat}(hD:0<D)(U:D<Q)(J:P'<Q)(O:P/D<=g)(V:g<=P/D+1)(hw:w<=1)(h:P'+g*D=P+Q*w):(w=0->g=P/D/\P'=P%D)/\(w=1->g=P/D+1/\P'+D=P%D+Q):=by
 have E:=Nat.div_add_mod P D;have hm:=eZ P hD;rw[cG] at E;have hg:g=P/D\/g=P/D+1:=by omega
 generalize P/D=q at *
 generalize P%D=r at *
 constructor
 .rintro rfl
  rcases hg with rfl | rfl
  .exact⟨rfl,by omega⟩
  .rw[dM,Nat.one_mul] at h;omega
 .rintro rfl
  rcases hg with rfl | rfl
  .omega
  .rw[dM,Nat.one_mul] at h;exact⟨rfl,by omega⟩
end Go.Clo
namespace Go.Proofs.YtoiioigihocgbaaGreatDoor
open Go.Clo
theorem M80{b o c:Nat}{ds:List Nat}{row:List Nat}{H:Y0}{nx:Nat}(hb:b<nx)(hg:J0 H b=some (.cells (K12 row) 0))(hp:∀(i d:Nat),ds[i]? = some d->row[o+i]? = some d)(hs:U14 ds)(hc:ds.length<=c):Dg H nx (some ⟨b,o,none⟩) c ds:=
 ⟨fun i v hv=>by
  simp only[K12,cP,bU] at hv;obtain⟨d,hd,rfl⟩:=hv;exact⟨b,o,_,rfl,hb,by rw[Q5,hg];rfl,Q3 (hp i d hd)⟩,SK.new hb hg,hs,hc⟩
theorem M98{A C:Option Addr}{a b n:Nat}{H:Y0}{nx:Nat}(hA:Dg H nx A (D11 a).length (D11 a))(hC:Dg H nx C (D11 b).length (D11 b))(hn:(D11 b).length=n+2)(ei:b<=a)(hl:(D11 a).length<500000):
  Q2 Tryz.prog 118 [.slice A (D11 a).length (D11 a).length,.slice C (D11 b).length (D11 b).length] H nx fun r H' nx'=>D0 H nx H' nx'/\∃(bq br Lq Lr:Nat) (qs rs:List Nat),r = .tuple ⟨[.slice (some ⟨bq,0,none⟩) Lq Lq,.slice (some ⟨br,0,none⟩) Lr Lr]⟩ /\
   bq<nx'/\br<nx'/\J0 H' bq=some (.cells (K12 qs) 0)/\J0 H' br=some (.cells (K12 rs) 0)/\qs.length=Lq/\rs.length=Lr/\Lq<1000000/\Lr<1000000/\U14 qs/\U14 rs/\val qs=a/b/\val rs=a%b:=by
 refine spec118 ?_;unfold F118;have bh:(D11 b).length<=(D11 a).length:=by
  rcases aW (D11 a).length (D11 b).length with g | g
  .have:=X70 g;omega
  .exact g
 have a6:0<b:=by
  rcases cI b with e | e
  .subst e;rw[D20] at hn;simp at hn
  .exact e
 obtain⟨top,a2,cy,_⟩:=U76 a6;rw[hn,show n+2-1=n+1 by omega] at a2;have a1:=hC.small.get a2;have di:=V20 a;have ci:=V20 b;have e6:=Q68 b;have d6:=E84 a6;have dz:=Q68 a;generalize D11 a=xs at *
 generalize D11 b=ys at *
 rw[hn] at bh e6 d6;rw[hn];obtain⟨el,en,df,e5,_,an,cc⟩:=hC.sl.open (i:=n+1) (by rw[E1];omega);have gt:=cc _ _ (Q3 a2);subst e5;have c1:((n+2:Nat):Int)-1=((n+1:Nat):Int):=by omega
 simp(disch:=first|omega|assumption)only[W0,Q0.val,c1,X3 an,gt];refine R0 (Y101 a1 H nx) ?_;rintro _ _ _ ⟨rfl,rfl,rfl⟩;have ej:=V80 (n:=top) (b:=32) a1;have ec:=C65 cy;obtain⟨s,e8⟩:∃ s,s=32-C14 top:=⟨_,rfl⟩
 have ab:s<32:=by omega
 rw[<- e8];simp(disch:=first|omega|assumption)only[U22 _ (show s<18446744073709551616 by omega)];have d5:=B84 (s:=s) hC (by omega) ab;rw[hn] at d5;refine R0 d5 ?_;rintro _ H2 nx2 ⟨rfl,ce,cz,V0,c8,e9,cd,bo⟩;have e0:2^C14 top*2^s=4294967296:=by rw[<- Nat.pow_add,show C14 top+s=32 by omega]
 have bt:b=val (ys.take (n+1))+4294967296^(n+1)*top:=by
  have h0:=V73 a2;rw[cM (by omega),val,ci] at h0;exact h0
 have eh:=Z48 hC.small (n+1);have b5:=C76 top;have al:=E76 cy;obtain⟨D,hD⟩:∃ D,D=b*2^s:=⟨_,rfl⟩
 have dl:0<4294967296^(n+1):=Nat.pow_pos (by omega);have ax:D<4294967296^(n+2):=by
  have h1:b<4294967296^(n+1)*2^C14 top:=by
   have h2:=bP (4294967296^(n+1)) (show top+1<=2^C14 top from b5);rw[bJ (4294967296^(n+1)) top 1,eQ] at h2;omega
  have h3:=fU h1 (aQ s);rw[eE,e0,<- dR,<- hD] at h3;exact h3
 have ef:4294967296^(n+1)*2147483648<=D:=by
  have h1:4294967296^(n+1)*2^(C14 top-1)<=b:=by
   have h2:=bP (4294967296^(n+1)) al;omega
  have h3:=dS (2^s) h1;rw[eE,<- Nat.pow_add,show C14 top-1+s=31 by omega,<- hD] at h3;exact h3
 have J:0<D:=by have:=Nat.mul_pos dl (show 0<2147483648 by omega);omega
 have b8:val V0=D:=by rw[bo,ci,hD]
 obtain⟨vs,ac⟩:∃ vs,vs=V0.take (n+2):=⟨_,rfl⟩
 have a8:vs.length=n+2:=by rw[ac];simp;omega
 have a4:U14 vs:=by rw[ac];exact K76 cd _
 have Z:val vs=D:=by
  have h1:=M81 (ds:=V0) (j:=n+2) (by omega);rw[<- ac,b8] at h1;have h0:val (V0.drop (n+2))=0:=by
   rcases cI (val (V0.drop (n+2))) with e | e
   .exact e
   .have:=bP (4294967296^(n+2)) (show 1<=val (V0.drop (n+2)) from e)
    omega
  rw[h0,Nat.mul_zero,eM] at h1;exact h1.symm
 obtain⟨v1,d9⟩:∃ v1,vs[n+1]? = some v1:=⟨_,aE (by omega)⟩
 have ak:2147483648<=v1:=by
  have h1:D=val (vs.take (n+1))+4294967296^(n+1)*v1:=by
   have h0:=V73 d9;rw[cM (by omega),val,Z] at h0;exact h0
  have h2:=Z48 a4 (n+1);refine Nat.le_of_not_lt fun dq => ?_
  have h3:=bP (4294967296^(n+1)) (show v1+1<=2147483648 from dq);rw[bJ (4294967296^(n+1)) v1 1,eQ] at h3;omega
 have ad:∀ j v,(K12 vs)[j]? = some v->(K12 V0)[0+j]? = some v:=fun j v h=>by
  rw[ac,Q91,aX] at h
  split at h
  .rw[cF];exact h
  .cases h
 rw[Q101 c8 (by omega)];have dm:=hA.ext cz;refine R0 (B84 (s:=s) dm (by omega) ab) ?_;rintro _ H3 E ⟨rfl,eg,cj,U0,dy,d2,cu,ag⟩;rw[di] at ag;obtain⟨N,hN⟩:∃ N,N=a*2^s:=⟨_,rfl⟩
 rw[<- hN] at ag;have c2:((xs.length:Int)-((n+2:Nat):Int))=((xs.length-(n+2):Nat):Int):=by omega
 simp(disch:=first|omega|assumption)only[c2];rw[show(((xs.length-(n+2):Nat):Int)+1)=((xs.length-(n+2)+1:Nat):Int) by omega,M27 (by omega),C23];obtain⟨Lq,de⟩:∃ Lq,Lq=xs.length-(n+2)+1:=⟨_,rfl⟩
 rw[<- de];have bu:J0 (Go.Clo.hs H3 E (some (.cells (K12 (aF Lq 0)) 0))) E=some (.cells (K12 (aF Lq 0)) 0):=Z11 _ _ _;have cp:J0 (Go.Clo.hs H3 E (some (.cells (K12 (aF Lq 0)) 0))) nx2=some (.cells (K12 U0) 0):=by rw[Z1 _ (by omega)];exact dy
 have cn:J0 (Go.Clo.hs H3 E (some (.cells (K12 (aF Lq 0)) 0))) nx=some (.cells (K12 V0) 0):=by rw[Z1 _ (by omega),cj.get nx ce];exact c8
 have d7:D0 H nx (Go.Clo.hs H3 E (some (.cells (K12 (aF Lq 0)) 0))) (E+1):=(cz.trans cj).new _ (by omega) (by omega);generalize Go.Clo.hs H3 E (some (.cells (K12 (aF Lq 0)) 0))=K at bu cp cn d7 ⊢;have dx:N<4294967296^Lq*D:=by
  have h1:a*2^s<4294967296^xs.length*2^s:=fU dz (aQ s);have h2:4294967296^Lq*(4294967296^(n+1)*2^s)<=4294967296^Lq*(b*2^s):=bP _ (dS _ d6);rw[<- eE,<- Nat.pow_add,show Lq+(n+1)=xs.length by omega,<- hD] at h2;omega
 refine B1 (m:=Lq) (fun m L H' nx'=>∃(U Q:List Nat),L=[.int .i64 ((m:Int)-1)]/\m<=Lq/\U.length=xs.length+1/\U14 U/\Q.length=Lq/\U14 Q/\val U+4294967296^m*(val (Q.drop m)*D)=N/\val U<4294967296^m*D /\
  J0 H' nx2=some (.cells (K12 U) 0)/\J0 H' E=some (.cells (K12 Q) 0)/\(∀ i,i<E->i≠nx2->J0 H' i=J0 K i)/\E<nx') ?_
  ⟨U0,aF Lq 0,by congr 3;omega,aD _,d2,cu,by simp,R72 _,by rw[cM (by simp),val];omega,by rw[ag];exact dx,cp,bu,fun _ _ _=>rfl,by omega⟩
 rintro m ih L H4 a5 ⟨U,Q,rfl,hm,eo,au,dc,bf,O,aj,W,az,bc,aw⟩ dk;have bv:∀(H5:Y0) (aq:Nat),E<aq->(∀ i,i<E->i≠nx2->J0 H5 i=J0 K i)->D0 H nx H5 aq:=fun H5 aq h1 h2=>⟨by omega,fun i hi=>by rw[h2 i (by omega) (by omega)];exact d7.get i hi⟩
 by_cases h0:m=0
 .subst h0
  have e2:¬ (0:Int)<=((0:Nat):Int)-1:=by omega
  simp(disch:=first|omega|assumption)only[W0,e2];rw[Q101 W (by omega)];rw[Nat.pow_zero,Nat.one_mul] at aj O;rw[List.drop_zero] at O;have e4:val (U.take (n+2))=val U:=by
   have h1:=M81 (ds:=U) (j:=n+2) (by omega);rcases cI (val (U.drop (n+2))) with e | e
   .rw[e] at h1;omega
   .have:=bP (4294967296^(n+2)) (show 1<=val (U.drop (n+2)) from e)
    omega
  have dh:Dg H4 a5 (some ⟨nx2,0,none⟩) (xs.length+1) (U.take (n+2)):=M80 (by omega) W (fun i d h=>by
   rw[aX] at h
   split at h
   .rw[cF];exact h
   .cases h) (K76 au _) (by simp;omega)
  have d4:=W93 (s:=s) dh (by simp;omega) ab;rw[show(U.take (n+2)).length=n+2 by simp;omega] at d4;refine R0 d4 ?_;rintro _ H5 aq ⟨rfl,bx,d0,rs,ap,bg,ae,ai⟩;have cq:=aQ s;have b4:val U=(a%b)*2^s/\val Q=a/b:=by
   have h1:N/D=val Q:=by
    rw[<- O,Nat.add_mul_div_right _ _ J,Nat.div_eq_of_lt aj,cF]
   have h3:N%D=val U:=by
    rw[<- O,Nat.add_mul_mod_self_right,bV aj]
   rw[hN,hD] at h1 h3;rw[Nat.mul_div_mul_right _ _ cq] at h1;rw[Nat.mul_mod_mul_right] at h3;exact⟨h3.symm,h1.symm⟩
  refine⟨(bv H4 a5 aw bc).trans d0,E,a5,Lq,n+2,Q,rs,rfl,by omega,bx,by rw[d0.get E aw];exact az,ap,dc,bg,by omega,by omega,bf,ae,b4.2,?_⟩;rw[ai,e4,b4.1,Nat.mul_div_cancel _ cq]
 have e2:(0:Int)<=(m:Int)-1:=by omega
 obtain⟨j,rfl⟩:∃ j,m=j+1:=⟨m-1,by omega⟩
 have c3:(((j+1:Nat):Int)-1)=(j:Int):=by omega
 have c4:((j:Int)+((n+2:Nat):Int))=((j+(n+2):Nat):Int):=by omega
 have c5:(((j+(n+2):Nat):Int)+1)=((j+(n+2)+1:Nat):Int):=by omega
 have c6:j+(n+2)+1-j=n+3:=by omega
 have e3:(0:Int)<=(j:Int):=by omega
 simp(disch:=first|omega|assumption)only[W0,c3,c4,c5,e3];rw[Y109 W (by omega) (by omega) (by omega),c6,cF];have eb:0<4294967296^j:=Nat.pow_pos (by omega);have d8:=M81 (ds:=U) (j:=j) (by omega);have ah:val (U.drop j)<D*4294967296:=by
  refine Nat.lt_of_not_le fun dw => ?_
  have h1:=bP (4294967296^j) dw;rw[dR,eE,cG 4294967296 D] at aj;omega
 have V:val ((U.drop j).take (n+3))=val (U.drop j)/\val (U.drop (j+(n+3)))=0:=by
  have h1:=M81 (ds:=U.drop j) (j:=n+3) (by simp;omega);rw[List.drop_drop] at h1;rcases cI (val (U.drop (j+(n+3)))) with e | e
  .rw[e] at h1;exact⟨by omega,e⟩
  .exfalso
   have h3:D*4294967296<4294967296^(n+2)*4294967296:=fU ax (by omega);have h4:val (U.drop j)<4294967296^(n+3):=Nat.lt_trans ah h3;have h5:4294967296^(n+3)<=val (U.drop j):=by rw[h1];exact bK (Nat.le_mul_of_pos_right _ e) (Nat.le_add_left _ _)
   exact absurd h4 (Nat.not_lt.2 h5)
 have a7:J0 H4 nx=some (.cells (K12 V0) 0):=by rw[bc nx (by omega) (by omega)];exact cn
 have bk:Dg H4 a5 (some ⟨nx2,j,none⟩) (xs.length+1-j) ((U.drop j).take (n+3)):=M80 (by omega) W (fun i d h=>by
  rw[aX] at h
  split at h
  .rw[dB] at h;exact h
  .cases h) (K76 (N80 au _) _) (by simp;omega)
 have cx:Dg H4 a5 (some ⟨nx,0,none⟩) (n+2+1) vs:=M80 (by omega) a7 (fun i d h=>by
  rw[ac,aX] at h
  split at h
  .rw[cF];exact h
  .cases h) a4 (by omega)
 refine R0 (M105 bk cx a8 (by simp;omega) (by omega) d9 ak (by rw[V.1,Z];exact ah)) ?_;rintro _ _ ek ⟨g,rfl,cf,db,e7,rfl,ea⟩;rw[V.1,Z] at cf db;have da:val (U.drop j)/D<4294967296:=(Nat.div_lt_iff_lt_mul J).2 (by rw[cG];exact ah);refine N5 (fun L H' nx'=>∃ U2:List Nat,L=[.int .u64 ((val (U.drop j)/D:Nat):Int)]/\U2.length=xs.length+1/\U14 U2/\val U2=val (U.take j)+4294967296^j*(val (U.drop j)%D) /\
  J0 H' nx2=some (.cells (K12 U2) 0)/\(∀ i,i≠nx2->J0 H' i=J0 H4 i)/\a5<=nx') ?_ ?_
 .intro tj hj
  refine R0 (Q99 (b:=nx2) (o:=j) (n:=n+2) (f:=g) (vs:=vs) (oC:=0) W au (by omega) (show Q5 H4 nx=some (K12 V0) by rw[Q5,a7];rfl) (by omega) ad a4 a8 e7 (by omega)) ?_;rintro _ H5 _ ⟨rfl,a9,R,w,ap,bg,ae,a3,hw,rfl,ai⟩;rw[show n+2+1=n+3 from rfl,V.1,Z] at ai;have ct:=Z48 (N80 ae j) (n+3);have dr:D<4294967296^(n+3):=Nat.lt_trans ax (Nat.pow_lt_pow_right (by omega) (by omega));obtain⟨dg,dv⟩:=Z101 J dr ct cf db hw ai;have done:∀(R2:List Nat),R2.length=xs.length+1->(∀ q,q<j\/j+(n+3)<=q->R2[q]? = U[q]?)->val ((R2.drop j).take (n+3))=val (U.drop j)%D->val R2=val (U.take j)+4294967296^j*(val (U.drop j)%D):=by
   intro R2 em cg dd;have h1:=M81 (ds:=R2) (j:=j) (by omega);have h2:=M81 (ds:=R2.drop j) (j:=n+3) (by simp;omega);rw[List.drop_drop,G101 (R:=U) (R':=R2) (j:=j+(n+3)) (fun q hq=>cg q (.inr hq)),V.2,Nat.mul_zero,eM,dd] at h2;rw[h1,h2,E101 (R:=U) (R':=R2) (j:=j) (fun q hq=>cg q (.inl hq))]
  have ba:w=0\/w=1:=by omega
  rcases ba with rfl | rfl
  .obtain⟨ao,bd⟩:=dg rfl
   simp(disch:=first|omega|assumption)only[W0,show decide ((0:Nat)=1)=false from rfl];refine hj _ _ _ ⟨R,by rw[ao],by omega,ae,done R (by omega) (fun q hq=>a3 q (by omega)) bd,ap,a9,by omega⟩
  .obtain⟨ao,bd⟩:=dv rfl
   have du:0<g:=by rw[ao];exact Nat.succ_pos _
   simp(disch:=first|omega|assumption)only[W0,J103 (a:=g) _ du (by omega)];have c9:Q5 H5 nx=some (K12 V0):=by rw[Q5,a9 nx (by omega),a7];rfl
   refine R0 (M99 (b:=nx2) (o:=j) (n:=n+2) (vs:=vs) (oC:=0) ap ae (by omega) c9 (by omega) ad a4 a8 (by omega)) ?_;rintro _ H6 dp ⟨bw,a0,R2,w2,ca,ee,b3,aa,d3⟩;rw[show n+2+1=n+3 from rfl,Z,bd] at d3;have dt:=Z48 (N80 b3 j) (n+3);have av:=eZ (val (U.drop j)) J;have d1:val ((R2.drop j).take (n+3))=val (U.drop j)%D:=by
    have ba:w2=1:=by
     rcases aW w2 1 with e | e
     .obtain rfl:w2=0:=by omega
      omega
     .rcases aW 1 w2 with e' | e'
      .have:=bP (4294967296^(n+3)) (show 2<=w2 from e')
       omega
      .omega
    subst ba;omega
   refine hj _ _ _ ⟨R2,by rw[ao,Nat.add_sub_cancel],by omega,b3,done R2 (by omega) (fun q hq=>by rw[aa q (by omega)];exact a3 q (by omega)) d1,ca,fun i hi=>by rw[a0 i hi];exact a9 i hi,by omega⟩
 rintro L H6 dp ⟨U2,rfl,ck,c7,ay,cv,a0,bw⟩;have bz:J0 H6 E=some (.cells (K12 Q) 0):=by rw[a0 E (by omega)];exact az
 have e1:val (U.drop j)/D%4294967296=val (U.drop j)/D:=bV da;simp(disch:=first|omega|assumption)only[W0,G34,e1,bz,E1,V10 (l:=Q) (i:=j) (x:=val (U.drop j)/D) (show j<Q.length by omega),show j+1<=Q.length by omega];have av:=eZ (val (U.drop j)) J;have ed:=Z48 au j;refine dk j _ _ _ (by omega) ⟨U2,Q.set j (val (U.drop j)/D),rfl,by omega,ck,c7,by simp[dc],U39 bf da,?_,?_,by rw[Z1 _ (by omega)];exact cv,Z11 _ _ _,fun i hi co=>by rw[Z1 _ (by omega),a0 i co];exact bc i hi co,by omega⟩
 .have dn:(Q.set j (val (U.drop j)/D))[j]? = some (val (U.drop j)/D):=by rw[dG (by omega)]
  rw[D72 dn,C86,ay];have dj:=Nat.mod_add_div (val (U.drop j)) D;rw[d8] at O;rw[<- O,dR,dM];have h1:4294967296^j*val (U.drop j)=4294967296^j*(val (U.drop j)%D)+4294967296^j*(val (U.drop j)/D*D):=by
   rw[<- bJ,cG (val (U.drop j)/D),dj]
  rw[bJ (4294967296^j) (val (U.drop j)/D*D)];have h2:4294967296^j*(4294967296*val (Q.drop (j+1))*D)=4294967296^j*4294967296*(val (Q.drop (j+1))*D):=by ac_rfl
  omega
 .rw[ay]
  have h1:=bP (4294967296^j) (show val (U.drop j)%D+1<=D from av);rw[bJ (4294967296^j) (val (U.drop j)%D) 1,eQ] at h1;omega
section
variable {H:Y0} {b n nx:Nat}
theorem Z87{c sl:Nat}{L:Nat}{ds:List Nat}(hb:b<nx)(hg:J0 H b=some (.cells (K12 ds) sl))(E:sl=0\/sl=1)(hs:U14 ds)(hL:ds.length=L)(hl:L<10000000)(hc:L<=c)(hn:val ds=n):
  Q2 Tryz.prog 111 [.slice (some ⟨b,0,none⟩) L c] H nx fun v H' nx'=>NN H' nx' v n/\H=H'/\nx=nx':=by
 subst hL;subst hn;have hD:Dg H nx (some ⟨b,0,none⟩) c ds:=⟨fun i v h=>⟨b,0,_,rfl,hb,by rw[Q5,hg];rfl,by rw[cF];exact h⟩,.inr ⟨b,0,_,rfl,hb,.inr ⟨sl,E,hg⟩⟩,hs,hc⟩
 refine(R86 hD (by omega)).mono ?_;rintro _ _ _ ⟨rfl,rfl,rfl⟩;exact⟨⟨_,_,rfl,hD.trim⟩,rfl,rfl⟩
theorem Y103{A:Option Addr}(h:Dg H nx A (D11 n).length (D11 n))(hl:(D11 n).length<1000000)(h0:0<n):
  Q2 Tryz.prog 113 [.slice A (D11 n).length (D11 n).length] H nx fun v H' nx'=>∃ q,nx<=q/\q<nx'/\v = .slice (some ⟨q,0,none⟩) (D11 n).length (D11 n).length/\J0 H' q=some (.cells (K12 (D11 n)) 1)/\D0 H nx H' nx':=by
 refine spec113 ?_;unfold F113;have hL:0<(D11 n).length:=by
  rcases cI (D11 n).length with e | e
  .have:=M65.1 e;omega
  .exact e
 obtain⟨b,o,row,rfl,hb,_,_⟩:=h.sl.open (i:=0) (by rw[E1];omega);rw[N83];simp(disch:=first|omega|assumption)only[W0,Q0.val,Z88];have hE:D0 H nx (hs H nx (some (.cells [] 0))) (nx+1):=(D0.refl H nx).new _ (aD _) (by omega);have E:Src (hs H nx (some (.cells [] 0))) 1 (.slice (some ⟨b,o,none⟩) (D11 n).length (D11 n).length) (D11 n).length (K12 (D11 n)):=C27 (h.sl.ext hE) (h.sk.has.ext hE) (by rw[E1,eQ]) (by omega);rw[R89 (Z11 _ _ _) E hL (D78 _) (by omega) (by omega)];exact⟨nx+1,by omega,by omega,rfl,Z11 _ _ _,hE.new _ (by omega) (by omega)⟩
theorem B79{v w:Value}{a:Nat}(hv:NN H nx v a)(hw:NN H nx w b)(hl:(D11 a).length<400000)(ay:(D11 b).length<400000):
  Q2 Tryz.prog 104 [v,w] H nx fun r H' nx'=>(if b=0 then r = .tuple ⟨[.slice none 0 0,.slice none 0 0,.int .i64 18]⟩ else ∃ x y,r = .tuple ⟨[x,y,.int .i64 0]⟩/\NN H' nx' x (a/b)/\NN H' nx' y (a%b))/\D0 H nx H' nx':=by
 obtain⟨A,c,rfl,hA⟩:=hv;obtain⟨C,d,rfl,hC⟩:=hw;refine spec104 ?_;unfold F104;refine R0 (Y69 hA (by omega)) ?_;rintro _ _ _ ⟨rfl,rfl,rfl⟩;refine R0 (Y69 hC (by omega)) ?_;rintro _ _ _ ⟨rfl,rfl,rfl⟩
 by_cases O:b=0
 .subst O
  have e:decide (((D11 0).length:Int)=0)=true:=decide_eq_true (by rw[D20];rfl);simp(disch:=first|omega|assumption)only[W0,e];exact D0.refl _ _
 have a4:0<b:=by omega
 have aw:(D11 b).length≠0:=fun e=>O (M65.1 e)
 have e:decide (((D11 b).length:Int)=0)=false:=decide_eq_false (by omega);simp(disch:=first|omega|assumption)only[W0,e];refine R0 (M95 ⟨_,_,rfl,hA.self⟩ ⟨_,_,rfl,hC.self⟩ (by omega) (by omega)) ?_;rintro _ H1 ai ⟨rfl,J⟩;have a0:=hA.self.ext J;have a7:=hC.self.ext J
 by_cases U:a<b
 .have e1:X72 a b<0:=by unfold X72;rw[if_pos U];omega
  simp(disch:=first|omega|assumption)only[W0,e1];refine R0 (Y95 a0 (by omega)) ?_;rintro u H2 nx2 ⟨hu,E⟩;refine⟨?_,J.trans E⟩;rw[if_neg O];exact⟨_,u,rfl,by rw[Nat.div_eq_of_lt U];exact Y90 _ _,by rw[bV U];exact hu⟩
 have e1:¬ X72 a b<0:=by
  unfold X72;rw[if_neg U]
  split<;>omega
 by_cases h1:(D11 b).length=1
 .have e2:decide (((D11 b).length:Int)=1)=true:=decide_eq_true (by omega)
  have ak:D11 b=[b]:=by
   have a6:b<4294967296:=by have:=Q68 b;rw[h1] at this;omega
   rw[M74 a4,bV a6,Nat.div_eq_of_lt a6,D20]
  have V:b<4294967296:=by have:=Q68 b;rw[h1] at this;omega
  simp(disch:=first|omega|assumption)only[W0,e1,e2];refine R0 (Y103 a0 (by omega) (by omega)) ?_;rintro _ H2 nx2 ⟨q,aq,a9,rfl,a1,E⟩;obtain⟨bC,oC,ao,rfl,_,W,aa⟩:=(a7.sl.ext E).open (i:=0) (by rw[E1];omega);have gC:=aa 0 _ (Q3 (show(D11 b)[0]? = some b by rw[ak];rfl));have e0:(0:Int)<((D11 b).length:Int):=by omega
  have ez:((0:Int)).toNat=0:=rfl;have ei:∀ k:VP,M3 (.slice (some ⟨bC,oC,none⟩) (D11 b).length (D11 b).length) (.int .i64 0) none 1 k=k (.pointer (some ⟨bC,oC+0,none⟩)):=fun k=>by
   rw[U33 (Int.le_refl 0) e0];rfl
  rw[ei,J48,X3 W,Q40,gC];simp only[aN];refine R0 (E93 a9 a1 (B25 a) (by omega) a4 V) ?_;rintro _ H3 ax ⟨rfl,rfl,a5,qs,al,a2,Z,Q⟩;rw[V20] at Q;rw[V20];have ab:D0 H1 ai H3 nx2:=⟨E.le,fun i hi=>by rw[a5 i (by omega)];exact E.get i hi⟩
  refine R0 (Z87 a9 al (.inr rfl) Z a2 (by omega) (aD _) Q) ?_;rintro u _ _ ⟨hu,rfl,rfl⟩;have an:a%b<4294967296:=Nat.lt_trans (eZ a a4) V;rw[U22 _ (by omega)];refine R0 (R81 (by omega) _ _) ?_;rintro u2 H4 au ⟨a3,a8⟩;refine⟨?_,(J.trans ab).trans a8⟩;rw[if_neg O];exact⟨u,u2,rfl,hu.ext a8,a3⟩
 .have e2:decide (((D11 b).length:Int)=1)=false:=decide_eq_false (by omega)
  simp(disch:=first|omega|assumption)only[W0,e1,e2];refine R0 (M98 (n:=(D11 b).length-2) a0 a7 (by omega) (by omega) (by omega)) ?_;rintro _ H2 nx2 ⟨E,bq,br,Lq,Lr,qs,rs,rfl,aj,ad,a1,ag,a2,ae,ap,av,Z,ah,Q,ac⟩;simp(disch:=first|omega|assumption)only[W0];refine R0 (Z87 aj a1 (.inl rfl) Z a2 (by omega) (aD _) Q) ?_;rintro u _ _ ⟨hu,rfl,rfl⟩;refine R0 (Z87 ad ag (.inl rfl) ah ae (by omega) (aD _) ac) ?_;rintro u2 _ _ ⟨a3,rfl,rfl⟩;refine⟨?_,J.trans E⟩;rw[if_neg O];exact⟨u,u2,rfl,hu,a3⟩
end
section
variable (a0 a1 a2:Value) (H:Y0) (nx:Nat) (k:EP)
def F94:Prop:=
 D10 .lss a0 i0 fun b=>
 K2 b (
 W8 .u64 a0 fun b=>
 wUn .neg b fun b=>
 Y2 Tryz.prog 101 [b] H nx fun b c d=>
 Rt b c d k) (
 W8 .u64 a0 fun b=>
 Y2 Tryz.prog 101 [b] H nx fun b c d=>
 Rt b c d k)
def F75:Prop:=
 wAl zR H nx fun b c d=>
 D10 .lss a0 i0 fun e=>
 Y2 Tryz.prog 94 [a0] c d fun c d f=>
 U11 zR [(0,1),(1,1),(2,1)] [(0,e),(1,c)] fun c=>
 Y2 Tryz.prog 80 [c] d f fun c d e=>
 D5 b c 3 d fun c=>
 J1 b (some 3) c fun b=>
 Rt b c e k
def F115:Prop:=
 Y2 Tryz.prog 102 [a1] H nx fun b c d=>
 D10 .eql b i0 fun b=>
 K2 b (
 Rt a0 c d k) (
 Y2 Tryz.prog 116 [a0] c d fun b c d=>
 G9 b 0 fun e=>
 G9 b 1 fun b=>
 Y2 Tryz.prog 116 [a1] c d fun c d f=>
 G9 c 0 fun g=>
 G9 c 1 fun c=>
 V4 (fun e=>
 K3 true c (
 e [b] d f) (
 e [bF] d f)) (fun b c d=>
 K2 b.a (
 G3 (fun b c d e=>
 D10 .neq c.b (.int .u64 0) fun f=>
 K2 f (
 M2 (e+6) fun e=>
 D10 .rem c.a c.b fun f=>
 wK True (
 b [c.b,f] d e)) (
 Y2 Tryz.prog 101 [c.a] d e fun b c d=>
 Rt b c d k)) [e,g] c d) (
 Y2 Tryz.prog 104 [a0,a1] c d fun b c d=>
 G9 b 0 fun _=>
 G9 b 1 fun e=>
 G9 b 2 fun _=>
 J1 a2 none c fun b=>
 M33 Tryz.prog b [a1,e] c d fun b c d=>
 Rt b c d k)))
def F103:Prop:=
 wAl [.nilFunc] H nx fun b c d=>
 D5 b (.func (.func 115) ⟨[]⟩ ⟨[b]⟩) 1 c fun c=>
 G3 (fun c d e f=>
 Y2 Tryz.prog 102 [d.b] e f fun e f g=>
 D10 .gtr e (.int .i64 4096) fun e=>
 K2 e (
 Y2 Tryz.prog 104 [d.a,d.b] f g fun b e f=>
 G9 b 0 fun _=>
 G9 b 1 fun g=>
 G9 b 2 fun _=>
 c [d.b,g] e f) (
 J1 b none f fun b=>
 M33 Tryz.prog b [d.a,d.b] f g fun b c d=>
 Rt b c d k)) [a0,a1] c d
def F80:Prop:=
 M12 a0 H nx fun b c d=>
 wAl zR c d fun c d e=>
 M2 (e+8) fun e=>
 wFl b 1 d fun f g=>
 Y2 Tryz.prog 100 [g] d e fun e h i=>
 wFl b 2 h fun j l=>
 Y2 Tryz.prog 100 [l] h i fun i m n=>
 wK ((tA ((cE j none h l)/\(tB (cE j none d l))))/\(tB (tA (tA (tB (cE f none d g)))))) (
 V4 (fun b=>
 R4 e 0 m fun c=>
 D10 .eql c i0 fun c=>
 K3 false c (
 R4 i 0 m fun c=>
 D10 .eql c i0 fun c=>
 b [c] m n) (
 b [bT] m n)) (fun d f g=>
 K2 d.a (
 wFl b 0 f fun _ b=>
 K3 true b (
 R4 e 0 f fun b=>
 D10 .gtr b i0 fun b=>
 Y2 Tryz.prog 101 [(.int .u64 1)] f g fun d f g=>
 U11 zR [(0,1),(1,1),(2,1)] [(0,b),(1,e),(2,d)] fun b=>
 D5 c b 3 f fun b=>
 J1 c (some 3) b fun c=>
 Rt c b g k) (
 Y2 Tryz.prog 101 [(.int .u64 1)] f g fun b d f=>
 U11 zR [(0,1),(1,1),(2,1)] [(0,bF),(1,e),(2,b)] fun b=>
 D5 c b 3 d fun b=>
 J1 c (some 3) b fun c=>
 Rt c b f k)) (
 V4 (fun b=>
 Y2 Tryz.prog 102 [i] f g fun c d f=>
 D10 .gtr c i1 fun c=>
 K2 c (
 Y2 Tryz.prog 103 [e,i] d f fun c d f=>
 Y2 Tryz.prog 102 [c] d f fun d f g=>
 D10 .gtr d i1 fun d=>
 K2 d (
 Y2 Tryz.prog 104 [e,c] f g fun d e f=>
 G9 d 0 fun g=>
 G9 d 1 fun _=>
 G9 d 2 fun _=>
 Y2 Tryz.prog 104 [i,c] e f fun c d e=>
 G9 c 0 fun f=>
 G9 c 1 fun _=>
 G9 c 2 fun _=>
 b [g,f] d e) (
 b [e,i] f g)) (
 b [e,i] d f)) (fun d e f=>
 wFl b 0 e fun _ b=>
 U11 zR [(0,1),(1,1),(2,1)] [(0,b),(1,d.a),(2,d.b)] fun b=>
 D5 c b 3 e fun b=>
 J1 c (some 3) b fun c=>
 Rt c b f k))))
def F99:Prop:=
 M12 a0 H nx fun b c d=>
 wFl b 2 c fun _ e=>
 Y2 Tryz.prog 102 [e] c d fun c d e=>
 D10 .eql c i0 fun c=>
 K2 c (
 Y2 Tryz.prog 101 [(.int .u64 1)] d e fun b c d=>
 Rt b c d k) (
 wFl b 2 d fun _ b=>
 Rt b d e k)
def F96:Prop:=
 M12 a0 H nx fun b c d=>
 wFl b 1 c fun _ e=>
 Y2 Tryz.prog 102 [e] c d fun c d e=>
 D10 .eql c i0 fun c=>
 K2 c (
 Rt i0 d e k) (
 wFl b 0 d fun _ b=>
 K2 b (
 Rt (.int .i64 (-1)) d e k) (
 Rt i1 d e k))
def F79:Prop:=
 M12 a0 H nx fun b c d=>
 M12 a1 c d fun c d e=>
 J1 b (some 3) d fun f=>
 Y2 Tryz.prog 96 [f] d e fun d e f=>
 J1 c (some 3) e fun g=>
 Y2 Tryz.prog 96 [g] e f fun e f g=>
 D10 .neq d e fun h=>
 K2 h (
 Y2 Tryz.prog 69 [d,e] f g fun b c d=>
 Rt b c d k) (
 M2 (g+14) fun e=>
 wFl b 1 f fun g h=>
 J1 c (some 3) f fun i=>
 Y2 Tryz.prog 99 [i] f e fun e j l=>
 Y2 Tryz.prog 98 [h,e] j l fun e l m=>
 wFl c 1 l fun n o=>
 J1 b (some 3) l fun p=>
 Y2 Tryz.prog 99 [p] l m fun m q r=>
 Y2 Tryz.prog 98 [o,m] q r fun m r s=>
 Y2 Tryz.prog 97 [e,m] r s fun e m r=>
 D10 .mul d e fun d=>
 wK ((tA (tA (tA ((cE b (some 3) l p)/\((cE b (some 3) j p)/\(tB (cE b (some 3) f p)))))))/\((tA (tA ((cE n none q o)/\((cE n none l o)/\((cE n none j o)/\(tB (cE n none f o)))))))/\((tA (tA (tA (tA (tA (tB (cE c (some 3) f i)))))))/\(tB (tA (tA (tA (tA ((cE g none j h)/\(tB (cE g none f h))))))))))) (
 Rt d m r k))
def F138:Prop:=
 M12 a0 H nx fun b c d=>
 wAl zR c d fun c d e=>
 wFl b 0 d fun _ f=>
 wUn .not f fun f=>
 wFl b 1 d fun _ g=>
 wFl b 2 d fun _ b=>
 U11 zR [(0,1),(1,1),(2,1)] [(0,f),(1,g),(2,b)] fun b=>
 Y2 Tryz.prog 80 [b] d e fun b d e=>
 D5 c b 3 d fun b=>
 J1 c (some 3) b fun c=>
 Rt c b e k
def F144:Prop:=
 M12 a0 H nx fun b c d=>
 M12 a1 c d fun c d e=>
 wAl zR d e fun d e f=>
 M2 (f+6) fun f=>
 J1 b (some 3) e fun g=>
 Y2 Tryz.prog 80 [g] e f fun f h i=>
 J1 c (some 3) h fun j=>
 Y2 Tryz.prog 80 [j] h i fun i l m=>
 D5 b f 3 l fun f=>
 D5 c i 3 f fun f=>
 wK ((tA (tA (tA ((cE c (some 3) h j)/\(tB (cE c (some 3) e j))))))/\(tB (tA (tA (tA (tA (tB (cE b (some 3) e g)))))))) (
 M2 (m+12) fun e=>
 wFl b 1 f fun g h=>
 wFl c 2 f fun i j=>
 Y2 Tryz.prog 98 [h,j] f e fun e l m=>
 wFl c 1 l fun n o=>
 wFl b 2 l fun p q=>
 Y2 Tryz.prog 98 [o,q] l m fun m r s=>
 wK ((tA ((cE p none l q)/\(tB (cE p none f q))))/\((tA ((cE n none l o)/\(tB (cE n none f o))))/\((tA (tA (tB (cE i none f j))))/\(tB (tA (tA (tB (cE g none f h)))))))) (
 wFl b 2 r fun _ f=>
 wFl c 2 r fun _ g=>
 Y2 Tryz.prog 98 [f,g] r s fun f g h=>
 wFl b 0 g fun _ i=>
 wFl c 0 g fun _ j=>
 D9 (.eqb false) [i,j] fun i=>
 K2 i (
 M2 (h+9) fun c=>
 wFl b 0 g fun b h=>
 Y2 Tryz.prog 145 [e,m] g c fun c e i=>
 U11 zR [(0,1),(1,1),(2,1)] [(0,h),(1,c),(2,f)] fun c=>
 Y2 Tryz.prog 80 [c] e i fun c f i=>
 D5 d c 3 f fun c=>
 wK (tB (tA (tA ((cE b none e h)/\(tB (cE b none g h)))))) (
 J1 d (some 3) c fun b=>
 Rt b c i k)) (
 Y2 Tryz.prog 146 [e,m] g h fun g h i=>
 G9 g 0 fun j=>
 G9 g 1 fun g=>
 D10 .eql g i0 fun g=>
 K2 g (
 wFl b 0 h fun _ b=>
 U11 zR [(0,1),(1,1),(2,1)] [(0,b),(1,j),(2,f)] fun b=>
 Y2 Tryz.prog 80 [b] h i fun b c e=>
 D5 d b 3 c fun b=>
 J1 d (some 3) b fun c=>
 Rt c b e k) (
 Y2 Tryz.prog 146 [m,e] h i fun b e g=>
 G9 b 0 fun h=>
 G9 b 1 fun _=>
 wFl c 0 e fun _ b=>
 U11 zR [(0,1),(1,1),(2,1)] [(0,b),(1,h),(2,f)] fun b=>
 Y2 Tryz.prog 80 [b] e g fun b c e=>
 D5 d b 3 c fun b=>
 J1 d (some 3) b fun c=>
 Rt c b e k))))
def F142:Prop:=
 M12 a0 H nx fun b c d=>
 M12 a1 c d fun c d e=>
 wAl zR d e fun d e f=>
 M2 (f+5) fun f=>
 J1 b (some 3) e fun g=>
 J1 c (some 3) e fun h=>
 Y2 Tryz.prog 138 [h] e f fun f i j=>
 Y2 Tryz.prog 144 [g,f] i j fun f j l=>
 D5 d f 3 j fun f=>
 wK ((tA (tA (tA (tB (cE c (some 3) e h)))))/\(tB (tA (tA ((cE b (some 3) i g)/\(tB (cE b (some 3) e g))))))) (
 J1 d (some 3) f fun b=>
 Rt b f l k)
def F143:Prop:=
 M12 a0 H nx fun b c d=>
 M12 a1 c d fun c d e=>
 wAl zR d e fun d e f=>
 M2 (f+6) fun f=>
 J1 b (some 3) e fun g=>
 Y2 Tryz.prog 80 [g] e f fun f h i=>
 J1 c (some 3) h fun j=>
 Y2 Tryz.prog 80 [j] h i fun i l m=>
 D5 b f 3 l fun f=>
 D5 c i 3 f fun f=>
 wK ((tA (tA (tA ((cE c (some 3) h j)/\(tB (cE c (some 3) e j))))))/\(tB (tA (tA (tA (tA (tB (cE b (some 3) e g)))))))) (
 M2 (m+18) fun e=>
 wFl b 0 f fun g h=>
 wFl c 0 f fun i j=>
 D9 (.eqb true) [h,j] fun l=>
 wFl b 1 f fun m n=>
 wFl c 1 f fun o p=>
 Y2 Tryz.prog 98 [n,p] f e fun e q r=>
 wFl b 2 q fun b s=>
 wFl c 2 q fun c t=>
 Y2 Tryz.prog 98 [s,t] q r fun r u v=>
 U11 zR [(0,1),(1,1),(2,1)] [(0,l),(1,e),(2,r)] fun e=>
 Y2 Tryz.prog 80 [e] u v fun e l r=>
 D5 d e 3 l fun e=>
 wK ((tA (tA (tA ((cE c none q t)/\(tB (cE c none f t))))))/\((tA (tA (tA ((cE b none q s)/\(tB (cE b none f s))))))/\((tA (tA (tA (tA (tB (cE o none f p))))))/\((tA (tA (tA (tA (tB (cE m none f n))))))/\((tA (tA ((cE i none u j)/\((cE i none q j)/\(tB (cE i none f j))))))/\(tB (tA (tA ((cE g none u h)/\((cE g none q h)/\(tB (cE g none f h)))))))))))) (
 J1 d (some 3) e fun b=>
 Rt b e r k))
def F141:Prop:=
 M12 a0 H nx fun b c d=>
 M12 a1 c d fun c d e=>
 wAl zR d e fun d e f=>
 J1 c (some 3) e fun g=>
 Y2 Tryz.prog 80 [g] e f fun e f g=>
 D5 c e 3 f fun e=>
 wFl c 1 e fun _ f=>
 R4 f 0 e fun f=>
 D10 .eql f i0 fun f=>
 K2 f (
 U11 zR [(0,1),(1,1),(2,1)] [] fun b=>
 D5 d b 3 e fun b=>
 J1 d (some 3) b fun c=>
 Rt (.tuple ⟨[c,(.int .i64 18)]⟩) b g k) (
 J1 b (some 3) e fun b=>
 wFl c 0 e fun _ f=>
 wFl c 2 e fun _ h=>
 wFl c 1 e fun _ c=>
 U11 zR [(0,1),(1,1),(2,1)] [(0,f),(1,h),(2,c)] fun c=>
 Y2 Tryz.prog 143 [b,c] e g fun b c e=>
 D5 d b 3 c fun b=>
 J1 d (some 3) b fun c=>
 Rt (.tuple ⟨[c,i0]⟩) b e k)
variable {a0 a1 a2 H nx k}
theorem spec94:F94 a0 H nx k->Q2 Tryz.prog 94 [a0] H nx k:=Q12 [] [] []
theorem spec75:F75 a0 H nx k->Q2 Tryz.prog 75 [a0] H nx k:=Q12 [] [] []
theorem spec115:F115 a0 a1 a2 H nx k->Q2 Tryz.prog 115 [a0,a1,a2] H nx k:=Q12 [(7,[30])] [[6,8]] [.one (.tst (.one .nil) (.one .nil))]
theorem spec103:F103 a0 a1 H nx k->Q2 Tryz.prog 103 [a0,a1] H nx k:=Q12 [] [[0,1]] []
theorem spec80:F80 a0 H nx k->Q2 Tryz.prog 80 [a0] H nx k:=Q12 [(3,[19]),(5,[3,4])] [] [.one (.tst (.one .nil) (.one .nil)),.one (.tst (.one .nil) (.one .nil))]
theorem spec99:F99 a0 H nx k->Q2 Tryz.prog 99 [a0] H nx k:=Q12 [] [] []
theorem spec96:F96 a0 H nx k->Q2 Tryz.prog 96 [a0] H nx k:=Q12 [] [] []
theorem spec79:F79 a0 a1 H nx k->Q2 Tryz.prog 79 [a0,a1] H nx k:=Q12 [] [] []
theorem spec138:F138 a0 H nx k->Q2 Tryz.prog 138 [a0] H nx k:=Q12 [] [] []
theorem spec144:F144 a0 a1 H nx k->Q2 Tryz.prog 144 [a0,a1] H nx k:=Q12 [] [] []
theorem spec142:F142 a0 a1 H nx k->Q2 Tryz.prog 142 [a0,a1] H nx k:=Q12 [] [] []
theorem spec143:F143 a0 a1 H nx k->Q2 Tryz.prog 143 [a0,a1] H nx k:=Q12 [] [] []
theorem spec141:F141 a0 a1 H nx k->Q2 Tryz.prog 141 [a0,a1] H nx k:=Q12 [] [] []
end
end Go.Proofs.YtoiioigihocgbaaGreatDoor
namespace Go.Clo
theorem N73{a b:Nat}(h:a<=b):(D11 a).length<=(D11 b).length:=by
 rcases aW (D11 b).length (D11 a).length with g | g
 .have:=X70 g;omega
 .exact g
theorem G92{P:Program}{g:Nat}{cap args:List Value}{H:Y0}{nx:Nat}{k:EP}:M33 P (.func (.func g) ⟨[]⟩ ⟨cap⟩) args H nx k=Y2 P g (args++cap) H nx k:=by
 show spine ([]++args++cap) (fun vs=>M8 P g vs H nx False k)=M8 P g (args++cap) H nx False k;rw[V14];rfl
theorem W83{b:Nat}{r x1:Value}{Q:Prop}(hb:0<b)(h:if b=0 then r=x1 else Q):Q:=by rwa [if_neg (by omega)] at h
end Go.Clo
namespace Go.Proofs.YtoiioigihocgbaaGreatDoor
open Go.Clo
theorem gcd_rec:∀(b a:Nat)(v w:Value)(bx:Nat)(H:Y0)(nx:Nat),NN H nx v a->NN H nx w b->(D11 a).length<400000->(D11 b).length<400000->bx<nx ->
  J0 H bx=some (.cells [.func (.func 115) ⟨[]⟩ ⟨[.pointer (some ⟨bx,0,none⟩)]⟩] 0) ->
  Q2 Tryz.prog 115 [v,w,.pointer (some ⟨bx,0,none⟩)] H nx fun r H' nx'=>NN H' nx' r (fF b a)/\D0 H nx H' nx':=by
 intro b
 induction b using Nat.strongRecOn with
 | ind b ae=>
 intro a v w bx H nx hv hw hl Z a5 hg;refine spec115 ?_;unfold F115;refine R0 (M77 hw (by omega)) ?_;rintro _ _ _ ⟨rfl,rfl,rfl⟩
 by_cases ac:b=0
 .subst ac
  simp(disch:=first|omega|assumption)only[W0,B80,show decide (((0:Nat):Int)=0)=true from rfl];rw[Nat.gcd_zero_left];exact⟨hv,D0.refl _ _⟩
 have a1:0<b:=by omega
 have aj:=C65 a1;have e0:decide (((C14 b:Nat):Int)=0)=false:=decide_eq_false (by omega);simp(disch:=first|omega|assumption)only[W0,e0];refine R0 (V84 hv (by omega)) ?_;rintro r1 _ _ ⟨U,rfl,rfl⟩;have ad:fF b a=fF (a%b) b:=Nat.gcd_rec b a;have J:Y2 Tryz.prog 104 [v,w] H nx fun a2 H8 a0=>G9 a2 0 fun ai=>G9 a2 1 fun aa=>G9 a2 2 fun ak=>ldP (J0 H8 bx) 0 none fun a9=>
   M33 Tryz.prog a9 [w,aa] H8 a0 fun a8 H9 V=>NN H9 V a8 (fF b a)/\D0 H nx H9 V:=by
  refine R0 (B79 hv hw hl Z) ?_;rintro r H8 a0 ⟨hr,Q⟩;obtain⟨x,y,rfl,hx,hy⟩:=W83 a1 hr;have a6:=(Q.get bx a5).trans hg;simp(disch:=first|omega|assumption)only[W0,a6,G92,dL,eR];have hm:=eZ a a1;refine R0 (ae (a%b) hm b w y bx H8 a0 (hw.ext Q) hy Z (cE (N73 (eG hm)) Z) (aO a5 Q.le) a6) ?_;rintro r H9 V ⟨hr,a3⟩;rw[ad];exact⟨hr,Q.trans a3⟩
 by_cases ha:a<18446744073709551616
 case neg=>
  rw[if_neg ha] at U;subst U;simp(disch:=first|omega|assumption)only[W0];refine R0 (V84 hw (by omega)) ?_;rintro r2 _ _ ⟨E,rfl,rfl⟩
  by_cases O:b<18446744073709551616
  .rw[if_pos O] at E
   subst E;simp(disch:=first|omega|assumption)only[W0,N13];exact J
  .rw[if_neg O] at E
   subst E;simp(disch:=first|omega|assumption)only[W0,N13];exact J
 rw[if_pos ha] at U;subst U;simp(disch:=first|omega|assumption)only[W0];refine R0 (V84 hw (by omega)) ?_;rintro r2 _ _ ⟨E,rfl,rfl⟩
 by_cases O:b<18446744073709551616
 case neg=>
  rw[if_neg O] at E;subst E;simp(disch:=first|omega|assumption)only[W0,N13];exact J
 rw[if_pos O] at E;subst E;simp(disch:=first|omega|assumption)only[W0,N13];refine B1 (m:=b) (fun m L H' nx'=>∃ x:Nat,L=[.int .u64 (x:Int),.int .u64 (m:Int)]/\x<18446744073709551616/\m<18446744073709551616/\fF m x=fF b a/\H=H'/\nx<=nx') ?_ ⟨a,rfl,ha,O,rfl,rfl,aD _⟩;rintro m ih L _ nx2 ⟨x,rfl,hx,hm,W,rfl,ab⟩ ag
 by_cases ah:m=0
 .subst ah
  simp(disch:=first|omega|assumption)only[W0,show decide (((0:Nat):Int)≠0)=false from rfl];refine R0 (R81 hx H nx2) ?_;rintro r H9 V ⟨hr,a3⟩;rw[<- W,Nat.gcd_zero_left];exact⟨hr,(D0.self ab).trans a3⟩
 .have a4:0<m:=by omega
  have e1:decide (((m:Nat):Int)≠0)=true:=decide_eq_true (by omega);have a7:=eZ x a4;simp(disch:=first|omega|assumption)only[W0,e1,B90 (a:=x) (b:=m) _ a4];refine ag (x%m) _ _ _ a7 ⟨m,rfl,hm,by omega,?_,rfl,by omega⟩;rw[<- W,Nat.gcd_rec m x]
theorem W102{v w:Value}{a b:Nat}{H:Y0}{nx:Nat}(hv:NN H nx v a)(hw:NN H nx w b)(hl:(D11 a).length<400000)(a3:(D11 b).length<400000):
  Q2 Tryz.prog 103 [v,w] H nx fun r H' nx'=>NN H' nx' r (fF a b)/\D0 H nx H' nx':=by
 refine spec103 ?_;unfold F103;have a4:D0 H nx (hs H nx (some (.cells [.nilFunc] 0))) (nx+1):=(D0.refl H nx).new _ (aD _) (by omega);simp(disch:=first|omega|assumption)only[W0,Q0.val,show B12 [Value.nilFunc] 0 [Value.func (.func 115) ⟨[]⟩ ⟨[.pointer (some ⟨nx,0,none⟩)]⟩]=[Value.func (.func 115) ⟨[]⟩ ⟨[.pointer (some ⟨nx,0,none⟩)]⟩] from rfl];have O:=a4.hs (i:=nx) (b:=some (.cells [Value.func (.func 115) ⟨[]⟩ ⟨[.pointer (some ⟨nx,0,none⟩)]⟩] 0)) (aD _);have a0:=Z11 (hs H nx (some (.cells [.nilFunc] 0))) nx (some (.cells [Value.func (.func 115) ⟨[]⟩ ⟨[.pointer (some ⟨nx,0,none⟩)]⟩] 0));generalize hs (hs H nx (some (.cells [.nilFunc] 0))) nx (some (.cells [Value.func (.func 115) ⟨[]⟩ ⟨[.pointer (some ⟨nx,0,none⟩)]⟩] 0))=K at O a0 ⊢;refine B1 (m:=b) (fun m L H' nx'=>∃(x:Nat) (u1 u2:Value),L=[u1,u2]/\NN H' nx' u1 x/\NN H' nx' u2 m/\(D11 x).length<400000/\(D11 m).length<400000/\fF m x=fF b a/\D0 K (nx+1) H' nx') ?_
  ⟨a,v,w,rfl,hv.ext O,hw.ext O,hl,a3,rfl,D0.refl _ _⟩
 rintro m ih L H2 nx2 ⟨x,u1,u2,rfl,h1,h2,Z,U,V,J⟩ a6;have a1:=(J.get nx (by omega)).trans a0;simp(disch:=first|omega|assumption)only[W0];refine R0 (M77 h2 (by omega)) ?_;rintro _ _ _ ⟨rfl,rfl,rfl⟩
 by_cases a2:4096<C14 m
 .have E:(4096:Int)<(C14 m:Int):=by omega
  have W:0<m:=by
   rcases cI m with e | e
   .subst e;rw[B80] at a2;omega
   .exact e
  simp(disch:=first|omega|assumption)only[W0,E];refine R0 (B79 h1 h2 Z U) ?_;rintro r H3 a5 ⟨hr,Q⟩;obtain⟨y,z,rfl,hy,hz⟩:=W83 W hr;have hm:=eZ x W;simp(disch:=first|omega|assumption)only[W0];refine a6 (x%m) _ _ _ hm ⟨m,u2,z,rfl,h2.ext Q,hz,U,cE (N73 (eG hm)) U,?_,J.trans Q⟩;rw[<- V,Nat.gcd_rec m x]
 .have E:¬ (4096:Int)<(C14 m:Int):=by omega
  simp(disch:=first|omega|assumption)only[W0,E,a1,G92,dL,eR];refine R0 (gcd_rec m x u1 u2 nx H2 nx2 h1 h2 Z U (aO (Nat.lt_succ_self nx) J.le) a1) ?_;rintro r H3 a5 ⟨hr,Q⟩;rw[V,Nat.gcd_comm] at hr;exact⟨hr,(O.trans J).trans Q⟩
end Go.Proofs.YtoiioigihocgbaaGreatDoor
