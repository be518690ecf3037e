/-
  Contracts: bits.Len32,nat.Bits,nat.Uint64.
  Contracts: nat.Add,nat.Sub,nat.Mul.
  Contracts: nat.Sub.
  Contracts: nat.Mul.
  More arithmetic of 64 bits;contracts: nat.Uint64,nat.divDigit.
-/
import Derived.Test.YtpiobdofbhkmjaaDoorL23
import Derived.KernelRfl
set_option linter.unusedSimpArgs false
set_option linter.unusedVariables false
set_option linter.unusedSectionVars false
namespace Go.Clo
def W4 (n:Nat):Nat:=if n=0 then 0 else n.log2+1
theorem Z34:W4 0=0:=rfl
theorem M25 (n:Nat):n<2^W4 n:=by
 unfold W4
 split
 .rename_i h;subst h;simp
 .exact Nat.lt_log2_self
theorem V26 {n:Nat} (h:0<n):2^(W4 n-1)<=n:=by
 unfold W4
 rw[if_neg (by omega)]
 exact Nat.log2_self_le (by omega)
theorem X13 {n:Nat} (h:0<n):0<W4 n:=by unfold W4;rw[if_neg (by omega)];omega
theorem C43 {a b:Nat} (h:2^a<2^b):a<b:=(Nat.pow_lt_pow_iff_right (by omega)).1 h
theorem V60 {n b:Nat} (h1:2^b<=n) (h2:n<2^(b+1)):W4 n=b+1:=by
 have h0:0<n:=Nat.lt_of_lt_of_le (Nat.two_pow_pos b) h1
 have a1:=M25 n
 have a2:=V26 h0
 have a3:=X13 h0
 have b1:b<W4 n:=C43 (Nat.lt_of_le_of_lt h1 a1)
 have b2:W4 n-1<b+1:=C43 (Nat.lt_of_le_of_lt a2 h2)
 omega
theorem K52 {n:Nat}:W4 n=1<->n=1:=by
 constructor
 .intro h
  have h1:=M25 n
  rw[h] at h1
  have:n≠0:=fun e=>by rw[e] at h;cases h
  omega
 .rintro rfl;rfl
theorem C29 {n k:Nat} (h:2^k<=n):W4 n=k+W4 (n/2^k):=by
 have hp:0<n/2^k:=Nat.div_pos h (Nat.two_pow_pos k)
 have a1:=M25 (n/2^k)
 have a2:=V26 hp
 have a3:=X13 hp
 have e:k+W4 (n/2^k)=(k+(W4 (n/2^k)-1))+1:=by omega
 rw[e]
 refine V60 ?_ ?_
 .rw[Nat.pow_add]
  exact Nat.le_trans (Nat.mul_le_mul_left _ a2) (Nat.mul_div_le _ _)
 .rw[show k+(W4 (n/2^k)-1)+1=k+W4 (n/2^k) by omega,Nat.pow_add]
  rw[Nat.mul_comm]
  exact (Nat.div_lt_iff_lt_mul (Nat.two_pow_pos k)).1 a1
def G29:List UInt8:=[0,1,2,2,3,3,3,3,4,4,4,4,4,4,4,4,5,5,5,5,5,5,5,5,5,5,5,5,5,5,5,5,6,6,6,6,6,6,6,6,6,6,6,6,6,6,6,6,6,6,6,6,6,6,6,6,6,6,6,6,6,6,6,6]++List.replicate 64 7++List.replicate 128 8
theorem G88:∀ i,i<256->G29[i]? = some (UInt8.ofNat (W4 i)):=by
 have h:((List.range 256).all fun i=>decide (G29[i]? = some (UInt8.ofNat (W4 i))))=true:=by decide +kernel
 intro i hi
 have:=List.all_eq_true.1 h i (by simpa using hi)
 simpa using this
theorem R86 {s:ByteArray} (hs:s.data.toList=G29) {i:Nat} (hi:i<256) (k:VP):wVf .sidx [.string s,.int .u8 (i:Int)] k=k (.int .u8 (W4 i:Int)):=by
 have hb:W4 i<256:=by
  have h1:=M25 i
  rcases Nat.eq_zero_or_pos i with e | e
  .subst e;simp[W4]
  .have h2:=V26 e
   have:W4 i-1<8:=C43 (Nat.lt_of_le_of_lt h2 hi)
   omega
 have hg:s.data[i]? = some (UInt8.ofNat (W4 i)):=by
  rw[<- Array.getElem?_toList,hs];exact G88 i hi
 have h:VF.ev .sidx [.string s,.int .u8 (i:Int)]=some (.int .u8 (W4 i:Int)):=by
  show G54 s (i:Int)=_
  unfold G54
  have e:s[((i:Int)).toNat]? = some (UInt8.ofNat (W4 i)):=by
   rw[Int.toNat_natCast,<- hg];rfl
  rw[if_pos (by omega),e]
  simp only[Option.map_some]
  congr 2
  show ((UInt8.ofNat (W4 i)).toNat:Int)=_
  have:(UInt8.ofNat (W4 i)).toNat=W4 i%256:=UInt8.toNat_ofNat'
  rw[this,Nat.mod_eq_of_lt (by omega)]
 unfold wVf
 rw[h,R9];rfl
theorem G80 {a:Nat} (h:a<256):IntKind.u8.wrap (a:Int)=(a:Int):=by
 simp only[IntKind.wrap,IntKind.signed,IntKind.bits];simp;omega
theorem Y94 {n:Nat} (h:n<256) (K:IntKind) (k:VP):M3 .u8 (.int K (n:Int)) k=k (.int .u8 (n:Int)):=by rw[W17,G80 h]
theorem V77 {n:Nat} (h:n<9223372036854775808) (K:IntKind) (k:VP):M3 .i64 (.int K (n:Int)) k=k (.int .i64 (n:Int)):=by rw[W17,R26 (by omega) (by omega)]
theorem N32 {n b:Nat} (h:n<2^b):W4 n<=b:=by
 rcases Nat.eq_zero_or_pos n with e | e
 .subst e;simp[W4]
 .have h2:=V26 e
  have h3:=X13 e
  have:W4 n-1<b:=C43 (Nat.lt_of_le_of_lt h2 h)
  omega
end Go.Clo
namespace Go.Proofs.YtpiobdofbhkmjaaDoor
open Go.Clo
set_option maxRecDepth 100000 in
theorem R94 {x:Nat} (hx:x<4294967296) (H:Y0) (nx:Nat) (k:EP) (hk:k (.int .i64 (W4 x:Int)) H nx):F67 (.int .u32 (x:Int)) H nx k:=by
 unfold F67
 have c2:∀ (y n:Nat),y<256->n+W4 y=W4 x->n<100->(M3 .u8 (.int .u32 (y:Int)) fun t15=>wVf .sidx [(.string ⟨⟨G29⟩⟩),t15] fun t16=>M3 .i64 t16 fun t17=>J0 .add (.int .i64 (n:Int)) t17 fun t18=>
   W1 t18 fun v=>k v H nx):=by
  intro y n hy hn hn2
  have hb:=N32 (n:=y) (b:=8) (by omega)
  rw[Y94 hy,R86 (s:=⟨⟨G29⟩⟩) rfl hy,V77 (by omega),Q23 _ _ _ (by omega) (by omega),N7]
  rw[<- hn] at hk
  exact hk
 have c1:∀ (y n:Nat),y<65536->n+W4 y=W4 x->n<50->B4 (fun tj=>J0 .geq (.int .u32 (y:Int)) (.int .u32 256) fun t8=>G2 t8 (
    J0 .shr (.int .u32 (y:Int)) (.int .u64 8) fun t10=>J0 .add (.int .i64 (n:Int)) (.int .i64 8) fun t12=>tj [t10,t12] H nx) (tj [.int .u32 (y:Int),.int .i64 (n:Int)] H nx)) (fun tL H2 nx2=>
   M3 .u8 (tL.getD 0 undef) fun t15=>wVf .sidx [(.string ⟨⟨G29⟩⟩),t15] fun t16=>M3 .i64 t16 fun t17=>J0 .add (tL.getD 1 undef) t17 fun t18=>
   W1 t18 fun v=>k v H2 nx2):=by
  intro y n hy hn hn2
  rw[K3]
  by_cases h:256<=y
  .have h':decide ((256:Int)<=(y:Int))=true:=decide_eq_true (by omega)
   have e:y >>> 8=y/2^8:=Nat.shiftRight_eq_div_pow y 8
   have s1:=fun k=>V13 (a:=y) (n:=8) (K := .u64) k (by omega)
   rw[U24,h',W10,if_pos rfl,show (.int .u64 8:Value) = .int .u64 ((8:Nat):Int) from rfl,s1,e,Q23 _ _ _ (by omega) (by omega)]
   exact c2 (y/2^8) (n+8) (by omega) (by have:=C29 (n:=y) (k:=8) (by omega);omega) (by omega)
  .have h':decide ((256:Int)<=(y:Int))=false:=decide_eq_false (by omega)
   rw[U24,h',W10,if_neg (by simp)]
   exact c2 y n (by omega) hn (by omega)
 rw[K3]
 by_cases h:65536<=x
 .have h':decide ((65536:Int)<=(x:Int))=true:=decide_eq_true (by omega)
  have e:x >>> 16=x/2^16:=Nat.shiftRight_eq_div_pow x 16
  have s1:=fun k=>V13 (a:=x) (n:=16) (K := .u64) k hx
  rw[U24,h',W10,if_pos rfl,show (.int .u64 16:Value) = .int .u64 ((16:Nat):Int) from rfl,s1,e]
  exact c1 (x/2^16) 16 (by omega) (by have:=C29 (n:=x) (k:=16) (by omega);omega) (by omega)
 .have h':decide ((65536:Int)<=(x:Int))=false:=decide_eq_false (by omega)
  rw[U24,h',W10,if_neg (by simp)]
  exact c1 x 0 (by omega) (by omega) (by omega)
theorem N89 {x:Nat} (hx:x<4294967296) (H:Y0) (nx:Nat):J2 Tryd.prog 67 [.int .u32 (x:Int)] H nx fun v H' nx' => .int .i64 (W4 x:Int)=v/\H=H'/\nx=nx':=
 spec67 (R94 hx H nx _ ⟨rfl,rfl,rfl⟩)
theorem K29 {v:Value} {n:Nat} {H:Y0} {nx:Nat} (h:NN H nx v n) (hl:(R0 n).length<1000000):J2 Tryd.prog 52 [v] H nx fun r H' nx' => .int .i64 (W4 n:Int)=r/\H=H'/\nx=nx':=by
 obtain⟨A,c,rfl,hD⟩:=h
 refine spec52 ?_
 unfold F52
 refine K0 (Q13 hD hl) ?_
 rintro _ _ _ ⟨rfl,rfl,rfl⟩
 by_cases h0:n=0
 .subst h0
  have e:decide (((R0 0).length:Int)=0)=true:=decide_eq_true (by rw[Z6];rfl)
  simp (disch:=first|omega|assumption) only[W0,e,Z34]
  rfl
 .have hp:0<n:=by omega
  obtain⟨d,hd,hdp,hL⟩:=C25 hp
  have e:decide (((R0 n).length:Int)=0)=false:=decide_eq_false (by omega)
  have e2:(((R0 n).length:Int)-1).toNat=(R0 n).length-1:=by omega
  have hd32:=(V8 n).get hd
  obtain⟨b,o,row,rfl,_,hrow,hg⟩:=hD.sl.open (i:=(R0 n).length-1) (by rw[G1];omega)
  have g0:=hg _ _ (G3 hd)
  have hb:=N32 (n:=d) (b:=32) hd32
  have em:∀ k:VP,J0 .mul (.int .i64 32) (.int .i64 (((R0 n).length:Int)-1)) k=k (.int .i64 (32*(((R0 n).length:Int)-1))):=fun k=>by rw[D38,R26 (by omega) (by omega)]
  simp (disch:=first|omega|assumption) only[W0,e,e2,Y3 hrow,g0,em]
  refine K0 (N89 hd32 _ _) ?_
  rintro _ _ _ ⟨rfl,rfl,rfl⟩
  simp (disch:=first|omega|assumption) only[W0]
  have hs:=C19 hd
  rw[C5] at hs
  have hdr:(R0 n).drop ((R0 n).length-1+1)=[]:=List.drop_of_length_le (by omega)
  rw[hdr,val] at hs
  have ht:=D10 (V8 n) ((R0 n).length-1)
  have hpw:4294967296^((R0 n).length-1)=2^(32*((R0 n).length-1)):=by rw[Nat.pow_mul]
  have hn:W4 n=32*((R0 n).length-1)+W4 d:=by
   have h1:2^(32*((R0 n).length-1))<=n:=by
    have:=Nat.mul_le_mul_left (4294967296^((R0 n).length-1)) (show 1<=d+4294967296*0 by omega)
    rw[hpw] at this hs;omega
   have h2:=C29 h1
   have h3:n/2^(32*((R0 n).length-1))=d:=by
    rw[hpw] at ht hs
    rw[Nat.mul_zero,Nat.add_zero] at hs
    refine Nat.div_eq_of_lt_le ?_ ?_
    .rw[Nat.mul_comm];omega
    .rw[Nat.add_mul,Nat.one_mul,Nat.mul_comm d];omega
   rw[h3] at h2;exact h2
  rw[hn]
  push_cast
  congr 1
  omega
end Go.Proofs.YtpiobdofbhkmjaaDoor

namespace Go.Clo
theorem V76 {ds:List Nat} {i d:Nat} (h:ds[i]? = some d):ds.take (i+1)=ds.take i++[d]:=by
 rw[List.take_add_one,h];rfl
theorem M5 {ds:List Nat} {i d:Nat} (h:ds[i]? = some d):val (ds.take (i+1))=val (ds.take i)+4294967296^i*d:=by
 have hi:i<ds.length:=(List.getElem?_eq_some_iff.1 h).1
 rw[V76 h,X28,List.length_take,Nat.min_eq_left (by omega),val,val]
 simp
theorem Q49 {out:List Nat} {i x:Nat}:(out.set i x).take i=out.take i:=by
 apply List.ext_getElem?
 intro j
 rw[List.getElem?_take,List.getElem?_take]
 split
 .rw[List.getElem?_set_ne (by omega)]
 .rfl
theorem R15 {out:List Nat} {i x:Nat} (h:i<out.length):val ((out.set i x).take (i+1))=val (out.take i)+4294967296^i*x:=by
 have hs:(out.set i x)[i]? = some x:=by rw[List.getElem?_set_self (by simpa using h)]
 rw[M5 hs,Q49]
theorem C9 {out:List Nat} {i x:Nat} (h:Z4 out) (hx:x<4294967296):Z4 (out.set i x):=fun e he=>by
 rcases List.mem_or_eq_of_mem_set he with h1 | h1
 .exact h e h1
 .omega
theorem M6 {ds:List Nat} {i:Nat} (h:ds.length<=i):ds.take i=ds:=List.take_of_length_le h
end Go.Clo
namespace Go.Proofs.YtpiobdofbhkmjaaDoor
open Go.Clo
theorem W95 {v w:Value} {a b:Nat} {H:Y0} {nx:Nat} (hv:NN H nx v a) (hw:NN H nx w b) (hl:(R0 a).length<500000) (hl2:(R0 b).length<500000):
  J2 Tryd.prog 102 [v,w] H nx fun r H' nx'=>NN H' nx' r (a+b)/\D0 H nx H' nx':=by
 obtain⟨A,c,rfl,hA⟩:=hv
 obtain⟨C,d,rfl,hC⟩:=hw
 refine spec102 ?_
 unfold F102
 refine K0 (Q13 hA (by omega)) ?_
 rintro _ _ _ ⟨rfl,rfl,rfl⟩
 refine K0 (Q13 hC (by omega)) ?_
 rintro _ _ _ ⟨rfl,rfl,rfl⟩
 refine J6 (fun L H' nx'=>∃ A ds C es,L=[.slice A ds.length ds.length,.slice C es.length es.length]/\Dg H nx A ds.length ds/\Dg H nx C es.length es/\es.length<=ds.length/\ds.length<500000/\val ds+val es=a+b/\H=H'/\nx=nx') ?_ ?_
 .intro tj hj
  by_cases h:(R0 a).length<(R0 b).length
  .have h':((R0 a).length:Int)<((R0 b).length:Int):=by omega
   simp (disch:=first|omega|assumption) only[W0,h']
   exact hj _ _ _ ⟨C,R0 b,A,R0 a,rfl,hC.self,hA.self,by omega,hl2,by rw[C5,C5];omega,rfl,rfl⟩
  .have h':¬ ((R0 a).length:Int)<((R0 b).length:Int):=by omega
   simp (disch:=first|omega|assumption) only[W0,h']
   exact hj _ _ _ ⟨A,R0 a,C,R0 b,rfl,hA.self,hC.self,by omega,hl,by rw[C5,C5],rfl,rfl⟩
 rintro L _ _ ⟨A,ds,C,es,rfl,hA,hC,hle,hl,hsum,rfl,rfl⟩
 simp (disch:=first|omega|assumption) only[W0,B0.val]
 rw[show ((ds.length:Int)+1)=((ds.length+1:Nat):Int) by omega,V12 (by omega),N12]
 simp (disch:=first|omega|assumption) only[W0]
 have hE0:D0 H nx (hs H nx (some (.cells (N1 (List.replicate (ds.length+1) 0)) 0))) (nx+1):=(D0.refl H nx).new _ (Nat.le_refl _) (by omega)
 refine E1 (m:=ds.length) (fun m L H' nx'=>∃ (i carry:Nat) (out:List Nat),m+i=ds.length/\L=[.int .u64 (carry:Int),.int .i64 (i:Int)]/\carry<=1/\out.length=ds.length+1/\Z4 out /\
  val (out.take i)+4294967296^i*carry=val (ds.take i)+val (es.take i)/\X0 H' nx=some (.cells (N1 out) 0)/\D0 H nx H' nx'/\nx<nx') ?_ ⟨0,0,List.replicate (ds.length+1) 0,rfl,rfl,by omega,by simp,W18 _,by simp[val],Q0 _ _ _,hE0,by omega⟩
 rintro m ih L H1 nx1 ⟨i,carry,out,hm,rfl,hcar,hlen,hsm,hval,hg,hE,hnx⟩ hih
 by_cases hi:i<ds.length
 case neg=>
  have hi':¬ (i:Int)<(ds.length:Int):=by omega
  have hil:i=ds.length:=by omega
  subst hil
  have e1:carry%4294967296=carry:=by omega
  simp (disch:=first|omega|assumption) only[W0,hi',J9,e1,hg,G1,Z7 (l:=out) (i:=ds.length) (x:=carry) (show ds.length<out.length by omega),show ds.length+1<=out.length by omega]
  have hfin:val (out.set ds.length carry)=a+b:=by
   have h1:=R15 (out:=out) (i:=ds.length) (x:=carry) (by omega)
   rw[M6 (by simp;omega)] at h1
   rw[M6 (Nat.le_refl ds.length),M6 hle] at hval
   omega
  refine K0 (Q42 hnx (Q0 _ _ _) (C9 hsm (by omega)) (by simp;omega) (by omega) (Nat.le_refl _) hfin) ?_
  rintro v _ _ ⟨hv,rfl,rfl⟩
  exact⟨hv,hE.hs (Nat.le_refl _)⟩
 have hi':(i:Int)<(ds.length:Int):=by omega
 obtain⟨x,hx⟩:∃ x,ds[i]? = some x:=⟨_,List.getElem?_eq_getElem hi⟩
 obtain⟨bA,oA,G17,rfl,_,hrowA,hgA⟩:=(hA.sl.ext hE).open (i:=i) (by rw[G1];omega)
 have gA:=hgA _ _ (G3 hx)
 have hx32:=hA.small.get hx
 simp (disch:=first|omega|assumption) only[W0,hi',Y3 hrowA,gA,Y6 _ (show x<18446744073709551616 by omega),D21 _ (show carry+x<18446744073709551616 by omega)]
 refine J6 (fun L H' nx'=>∃ s:Nat,L=[.int .u64 (s:Int)]/\s<8589934592/\val (ds.take (i+1))+val (es.take (i+1))=val (out.take i)+4294967296^i*s/\H1=H'/\nx1=nx') ?_ ?_
 .intro tj hj
  by_cases hie:i<es.length
  .have hie':(i:Int)<(es.length:Int):=by omega
   obtain⟨y,hy⟩:∃ y,es[i]? = some y:=⟨_,List.getElem?_eq_getElem hie⟩
   obtain⟨bC,oC,rowC,rfl,_,hrowC,hgC⟩:=(hC.sl.ext hE).open (i:=i) (by rw[G1];omega)
   have gC:=hgC _ _ (G3 hy)
   have hy32:=hC.small.get hy
   simp (disch:=first|omega|assumption) only[W0,hie',Y3 hrowC,gC,Y6 _ (show y<18446744073709551616 by omega),D21 _ (show carry+x+y<18446744073709551616 by omega)]
   refine hj _ _ _ ⟨carry+x+y,rfl,by omega,?_,rfl,rfl⟩
   rw[M5 hx,M5 hy,Nat.mul_add,Nat.mul_add]
   omega
  .have hie':¬ (i:Int)<(es.length:Int):=by omega
   simp (disch:=first|omega|assumption) only[W0,hie']
   refine hj _ _ _ ⟨carry+x,rfl,by omega,?_,rfl,rfl⟩
   rw[M6 (ds:=es) (by omega)] at hval
   rw[M5 hx,M6 (ds:=es) (by omega),Nat.mul_add]
   omega
 rintro L _ _ ⟨s,rfl,hs,hsv,rfl,rfl⟩
 simp (disch:=first|omega|assumption) only[W0,J9,K22 _ (show s<18446744073709551616 by omega),hg,G1,Z7 (l:=out) (i:=i) (x:=s%4294967296) (show i<out.length by omega),show i+1<=out.length by omega]
 refine hih (m-1) _ _ _ (by omega) ⟨i+1,s/4294967296,out.set i (s%4294967296),by omega,by simp,by omega,by simp;omega,C9 hsm (by omega),?_,Q0 _ _ _,hE.hs (Nat.le_refl _),hnx⟩
 rw[R15 (by omega),hsv,Nat.pow_succ,Nat.mul_assoc]
 have:4294967296^i*s=4294967296^i*(s%4294967296)+4294967296^i*(4294967296*(s/4294967296)):=by rw[<- Nat.mul_add,Nat.mod_add_div]
 omega
end Go.Proofs.YtpiobdofbhkmjaaDoor

namespace Go.Proofs.YtpiobdofbhkmjaaDoor
open Go.Clo
theorem N77 {v w:Value} {a b:Nat} {H:Y0} {nx:Nat} (hv:NN H nx v a) (hw:NN H nx w b) (hl:(R0 a).length<500000) (hl2:(R0 b).length<500000):
  J2 Tryd.prog 103 [v,w] H nx fun r H' nx'=>(if a<b then r = .tuple ⟨[.slice none 0 0,.int .i64 19]⟩ else ∃ u,r = .tuple ⟨[u,.int .i64 0]⟩/\NN H' nx' u (a-b))/\D0 H nx H' nx':=by
 obtain⟨A,c,rfl,hA⟩:=hv
 obtain⟨C,d,rfl,hC⟩:=hw
 refine spec103 ?_
 unfold F103
 refine K0 (Q13 hA (by omega)) ?_
 rintro _ _ _ ⟨rfl,rfl,rfl⟩
 refine K0 (Q13 hC (by omega)) ?_
 rintro _ _ _ ⟨rfl,rfl,rfl⟩
 refine K0 (M62 ⟨_,_,rfl,hA.self⟩ ⟨_,_,rfl,hC.self⟩ (by omega) (by omega)) ?_
 rintro _ H1 nx1 ⟨rfl,hE1⟩
 by_cases hab:a<b
 .have e1:W16 a b<0:=by unfold W16;rw[if_pos hab];omega
  simp (disch:=first|omega|assumption) only[W0,B0.val,e1]
  refine⟨?_,hE1⟩
  rw[if_pos hab]
  first | trivial | rfl
 have e1:¬ W16 a b<0:=by
  unfold W16;rw[if_neg hab]
  split<;>omega
 have hA1:=hA.self.ext hE1
 have hC1:=hC.self.ext hE1
 have hle:(R0 b).length<=(R0 a).length:=by
  rcases Nat.lt_or_ge (R0 a).length (R0 b).length with g | g
  .exact absurd (C13 g) hab
  .exact g
 simp (disch:=first|omega|assumption) only[W0,B0.val,e1]
 rw[V12 (by omega),N12]
 have hE0:D0 H nx (hs H1 nx1 (some (.cells (N1 (List.replicate (R0 a).length 0)) 0))) (nx1+1):=hE1.new _ hE1.le (by omega)
 have hval_a:=C5 a
 have hval_b:=C5 b
 have hsa:=V8 a
 have hsb:=V8 b
 generalize R0 a=ds at *
 generalize R0 b=es at *
 refine E1 (m:=ds.length) (fun m L H' nx'=>∃ (i bor:Nat) (out:List Nat),m+i=ds.length/\L=[.int .u64 (bor:Int),.int .i64 (i:Int)]/\bor<=1/\out.length=ds.length/\Z4 out /\
  val (out.take i)+val (es.take i)=val (ds.take i)+4294967296^i*bor/\X0 H' nx1=some (.cells (N1 out) 0)/\D0 H1 nx1 H' nx'/\nx1<nx') ?_ ⟨0,0,List.replicate ds.length 0,rfl,rfl,by omega,by simp,W18 _,by simp[val],Q0 _ _ _,(D0.refl H1 nx1).new _ (Nat.le_refl _) (by omega),by omega⟩
 rintro m ih L H2 nx2 ⟨i,bor,out,hm,rfl,hbor,hlen,hsm,hval,hg,hE,hnx⟩ hih
 have hEE:=hE1.trans hE
 by_cases hi:i<ds.length
 case neg=>
  have hi':¬ (i:Int)<(ds.length:Int):=by omega
  rw[M6 (ds:=out) (by omega),M6 (ds:=es) (by omega),M6 (ds:=ds) (by omega)] at hval
  have hfin:val out=a-b:=by
   have h1:=X67 hsm
   have h2:bor=0\/bor=1:=by omega
   rcases h2 with rfl | rfl
   .omega
   .rw[hlen,show i=ds.length by omega] at *
    omega
  simp (disch:=first|omega|assumption) only[W0,hi']
  refine K0 (Q42 hnx hg hsm hlen (by omega) (Nat.le_refl _) hfin) ?_
  rintro v _ _ ⟨hv,rfl,rfl⟩
  refine⟨?_,hEE⟩
  rw[if_neg hab]
  exact⟨v,rfl,hv⟩
 have hi':(i:Int)<(ds.length:Int):=by omega
 obtain⟨x,hx⟩:∃ x,ds[i]? = some x:=⟨_,List.getElem?_eq_getElem hi⟩
 obtain⟨bA,oA,G17,rfl,_,hrowA,hgA⟩:=(hA1.sl.ext hE).open (i:=i) (by rw[G1];omega)
 have gA:=hgA _ _ (G3 hx)
 have hx32:=hsa.get hx
 simp (disch:=first|omega|assumption) only[W0,hi',Y3 hrowA,gA,Y6 _ (show x<18446744073709551616 by omega),X25 _ (show x<18446744073709551616 by omega) (show bor<18446744073709551616 by omega)]
 refine J6 (fun L H' nx'=>∃ s q r:Nat,L=[.int .u64 (s:Int)]/\s<18446744073709551616/\s%4294967296=q/\s/9223372036854775808=r/\q<4294967296/\r<=1 /\
  val (out.take i)+4294967296^i*q+val (es.take (i+1))=val (ds.take (i+1))+4294967296^(i+1)*r/\H2=H'/\nx2=nx') ?_ ?_
 .intro tj hj
  by_cases hie:i<es.length
  .have hie':(i:Int)<(es.length:Int):=by omega
   obtain⟨y,hy⟩:∃ y,es[i]? = some y:=⟨_,List.getElem?_eq_getElem hie⟩
   obtain⟨bC,oC,rowC,rfl,_,hrowC,hgC⟩:=(hC1.sl.ext hE).open (i:=i) (by rw[G1];omega)
   have gC:=hgC _ _ (G3 hy)
   have hy32:=hsb.get hy
   simp (disch:=first|omega|assumption) only[W0,hie',Y3 hrowC,gC,Y6 _ (show y<18446744073709551616 by omega),X25 _ (show (x+18446744073709551616-bor)%18446744073709551616<18446744073709551616 by omega) (show y<18446744073709551616 by omega)]
   by_cases hge:bor+y<=x
   .refine hj _ _ _ ⟨_,x-bor-y,0,rfl,by omega,by omega,by omega,by omega,by omega,?_,rfl,rfl⟩
    rw[M5 hx,M5 hy,show x=(x-bor-y)+bor+y by omega,Nat.mul_add,Nat.mul_add]
    have:(x-bor-y)+bor+y-bor-y=x-bor-y:=by omega
    rw[this]
    omega
   .refine hj _ _ _ ⟨_,x+4294967296-bor-y,1,rfl,by omega,by omega,by omega,by omega,by omega,?_,rfl,rfl⟩
    rw[M5 hx,M5 hy,Nat.pow_succ,Nat.mul_one]
    have e3:4294967296^i*(x+4294967296-bor-y)+4294967296^i*bor+4294967296^i*y=4294967296^i*x+4294967296^i*4294967296:=by
     rw[<- Nat.mul_add,<- Nat.mul_add,<- Nat.mul_add];congr 1;omega
    omega
  .have hie':¬ (i:Int)<(es.length:Int):=by omega
   rw[M6 (ds:=es) (by omega)] at hval
   simp (disch:=first|omega|assumption) only[W0,hie']
   by_cases hge:bor<=x
   .refine hj _ _ _ ⟨_,x-bor,0,rfl,by omega,by omega,by omega,by omega,by omega,?_,rfl,rfl⟩
    rw[M5 hx,M6 (ds:=es) (by omega)]
    have e3:4294967296^i*(x-bor)+4294967296^i*bor=4294967296^i*x:=by rw[<- Nat.mul_add];congr 1;omega
    omega
   .refine hj _ _ _ ⟨_,x+4294967296-bor,1,rfl,by omega,by omega,by omega,by omega,by omega,?_,rfl,rfl⟩
    rw[M5 hx,M6 (ds:=es) (by omega),Nat.pow_succ,Nat.mul_one]
    have e3:4294967296^i*(x+4294967296-bor)+4294967296^i*bor=4294967296^i*x+4294967296^i*4294967296:=by
     rw[<- Nat.mul_add,<- Nat.mul_add];congr 1;omega
    omega
 rintro L _ _ ⟨s,q,r,rfl,hs,hq,hr,hq32,hr1,hsv,rfl,rfl⟩
 simp (disch:=first|omega|assumption) only[W0,J9,hq,hr,V41 _ hs,hg,G1,Z7 (l:=out) (i:=i) (x:=q) (show i<out.length by omega),show i+1<=out.length by omega]
 refine hih (m-1) _ _ _ (by omega) ⟨i+1,r,out.set i q,by omega,by simp,hr1,by simp;omega,C9 hsm hq32,?_,Q0 _ _ _,hE.hs (Nat.le_refl _),hnx⟩
 rw[R15 (by omega)]
 exact hsv
end Go.Proofs.YtpiobdofbhkmjaaDoor

namespace Go.Proofs.YtpiobdofbhkmjaaDoor
open Go.Clo
set_option maxHeartbeats 1000000 in
theorem Z30 {v w:Value} {a b:Nat} {H:Y0} {nx:Nat} (hv:NN H nx v a) (hw:NN H nx w b) (hl:(R0 a).length<400000) (hl2:(R0 b).length<400000):
  J2 Tryd.prog 34 [v,w] H nx fun r H' nx'=>NN H' nx' r (a*b)/\D0 H nx H' nx':=by
 obtain⟨A,c,rfl,hA⟩:=hv
 obtain⟨C,d,rfl,hC⟩:=hw
 refine spec34 ?_
 unfold F34
 refine K0 (Q13 hA (by omega)) ?_
 rintro _ _ _ ⟨rfl,rfl,rfl⟩
 refine K0 (Q13 hC (by omega)) ?_
 rintro _ _ _ ⟨rfl,rfl,rfl⟩
 have hA1:=hA.self
 have hC1:=hC.self
 clear hA hC
 simp (disch:=first|omega|assumption) only[W0,B0.val]
 have hval_a:=C5 a
 have hval_b:=C5 b
 have hsa:=V8 a
 have hsb:=V8 b
 generalize R0 a=ds at *
 generalize R0 b=es at *
 rw[show ((ds.length:Int)+(es.length:Int))=((ds.length+es.length:Nat):Int) by omega,V12 (by omega),N12]
 have hE0:D0 H nx (hs H nx (some (.cells (N1 (List.replicate (ds.length+es.length) 0)) 0))) (nx+1):=(D0.refl H nx).new _ (Nat.le_refl _) (by omega)
 refine E1 (m:=ds.length) (fun m L H' nx'=>∃ (i:Nat) (out:List Nat),m+i=ds.length/\L=[.int .i64 (i:Int)]/\out.length=ds.length+es.length/\Z4 out /\
  val (out.take (i+es.length))=val (ds.take i)*val es/\X0 H' nx=some (.cells (N1 out) 0)/\D0 H nx H' nx'/\nx<nx') ?_ ⟨0,List.replicate (ds.length+es.length) 0,rfl,rfl,by simp,W18 _,by rw[List.take_replicate,G78];simp[val],Q0 _ _ _,hE0,by omega⟩
 rintro m ih L H1 nx1 ⟨i,out,hm,rfl,hlen,hsm,hval,hg,hE,hnx⟩ hih
 by_cases hi:i<ds.length
 case neg=>
  have hi':¬ (i:Int)<(ds.length:Int):=by omega
  have hfin:val out=a*b:=by
   rw[M6 (ds:=out) (by omega),M6 (ds:=ds) (by omega)] at hval
   rw[hval,hval_a,hval_b]
  simp (disch:=first|omega|assumption) only[W0,hi']
  refine K0 (Q42 hnx hg hsm hlen (by omega) (Nat.le_refl _) hfin) ?_
  rintro v _ _ ⟨hv,rfl,rfl⟩
  exact⟨hv,hE⟩
 have hi':(i:Int)<(ds.length:Int):=by omega
 obtain⟨x,hx⟩:∃ x,ds[i]? = some x:=⟨_,List.getElem?_eq_getElem hi⟩
 have hx32:=hsa.get hx
 simp (disch:=first|omega|assumption) only[W0,hi']
 refine E1 (m:=es.length) (fun m L H' nx'=>∃ (j carry:Nat) (o2:List Nat),m+j=es.length/\L=[.int .u64 (carry:Int),.int .i64 (j:Int)]/\carry<4294967296/\o2.length=ds.length+es.length/\Z4 o2 /\
  val (o2.take (i+j))+4294967296^(i+j)*carry=val (out.take (i+j))+4294967296^i*(x*val (es.take j))/\(∀ q,i+j<=q->o2[q]? = out[q]?)/\X0 H' nx=some (.cells (N1 o2) 0)/\D0 H nx H' nx'/\nx<nx') ?_
  ⟨0,0,out,rfl,rfl,by omega,hlen,hsm,by simp[val],fun _ _=>rfl,hg,hE,hnx⟩
 rintro m2 ih2 L H2 nx2 ⟨j,carry,o2,hm2,rfl,hcar,hlen2,hsm2,hval2,hsame,hg2,hE2,hnx2⟩ hih2
 by_cases hj:j<es.length
 case neg=>
  have hj':¬ (j:Int)<(es.length:Int):=by omega
  have hjl:j=es.length:=by omega
  subst hjl
  have e1:carry%4294967296=carry:=by omega
  have ei:((i:Int)+(es.length:Int)).toNat=i+es.length:=by omega
  simp (disch:=first|omega|assumption) only[W0,hj',J9,e1,ei,hg2,G1,Z7 (l:=o2) (i:=i+es.length) (x:=carry) (show i+es.length<o2.length by omega),show i+es.length+1<=o2.length by omega]
  refine hih (m-1) _ _ _ (by omega) ⟨i+1,o2.set (i+es.length) carry,by omega,by simp,by simp;omega,C9 hsm2 hcar,?_,Q0 _ _ _,hE2.hs (Nat.le_refl _),hnx2⟩
  rw[show i+1+es.length=(i+es.length)+1 by omega,R15 (by omega),hval2,hval,M6 (ds:=es) (Nat.le_refl _),M5 hx,Nat.add_mul,Nat.mul_assoc]
 have hj':(j:Int)<(es.length:Int):=by omega
 obtain⟨y,hy⟩:∃ y,es[j]? = some y:=⟨_,List.getElem?_eq_getElem hj⟩
 obtain⟨z,hz⟩:∃ z,o2[i+j]? = some z:=⟨_,List.getElem?_eq_getElem (by omega)⟩
 have hy32:=hsb.get hy
 have hz32:=hsm2.get hz
 obtain⟨bA,oA,G17,rfl,_,hrowA,hgA⟩:=(hA1.sl.ext hE2).open (i:=i) (by rw[G1];omega)
 have gA:=hgA _ _ (G3 hx)
 obtain⟨bC,oC,rowC,rfl,_,hrowC,hgC⟩:=(hC1.sl.ext hE2).open (i:=j) (by rw[G1];omega)
 have gC:=hgC _ _ (G3 hy)
 have gZ:=G3 hz
 have hxy:x*y<=4294967295*4294967295:=Nat.mul_le_mul (by omega) (by omega)
 have ei:((i:Int)+(j:Int)).toNat=i+j:=by omega
 generalize hp:x*y=p at hxy
 simp (disch:=first|omega|assumption) only[W0,hj',Y3 hrowA,gA,Y3 hrowC,gC,Y6 _ (show x<18446744073709551616 by omega),Y6 _ (show y<18446744073709551616 by omega),J43 (a:=x) (b:=y) _ (by rw[hp];omega),hp,ei,hg2,gZ,Y6 _ (show z<18446744073709551616 by omega),
  D21 _ (show p+z<18446744073709551616 by omega),D21 _ (show carry+(p+z)<18446744073709551616 by omega),J9,G1,Z7 (l:=o2) (i:=i+j) (x:=(carry+(p+z))%4294967296) (show i+j<o2.length by omega),show i+j+1<=o2.length by omega,K22 _ (show carry+(p+z)<18446744073709551616 by omega)]
 refine hih2 (m2-1) _ _ _ (by omega) ⟨j+1,(carry+(p+z))/4294967296,o2.set (i+j) ((carry+(p+z))%4294967296),by omega,by simp,by omega,by simp;omega,C9 hsm2 (by omega),?_,fun q hq => ?_,Q0 _ _ _,hE2.new _ (by omega) (by omega),by omega⟩
 .have hzo:out[i+j]? = some z:=by rw[<- hsame (i+j) (Nat.le_refl _)];exact hz
  rw[show i+(j+1)=i+j+1 by omega,R15 (by omega),M5 hzo,M5 hy,Nat.pow_succ,Nat.mul_assoc (4294967296^(i+j))]
  have e1:4294967296^(i+j)*(carry+(p+z))=4294967296^(i+j)*((carry+(p+z))%4294967296)+4294967296^(i+j)*(4294967296*((carry+(p+z))/4294967296)):=by rw[<- Nat.mul_add,Nat.mod_add_div]
  have e2:4294967296^i*(x*(val (es.take j)+4294967296^j*y))=4294967296^i*(x*val (es.take j))+4294967296^(i+j)*p:=by
   rw[Nat.mul_add,Nat.mul_add,<- hp,Nat.pow_add]
   congr 1
   ac_rfl
  rw[e2]
  rw[Nat.mul_add,Nat.mul_add] at e1
  omega
 .rw[List.getElem?_set_ne (by omega)]
  exact hsame q (by omega)
end Go.Proofs.YtpiobdofbhkmjaaDoor

namespace Go.Clo
theorem J81 {a b n:Nat} (h:b<2^n):a*2^n ||| b=a*2^n+b:=by
 rw[Nat.mul_comm,Nat.two_pow_add_eq_or_of_lt h]
theorem C91 {a b n:Nat} (h:a<2^n):a ||| b*2^n=a+b*2^n:=by
 rw[Nat.or_comm,J81 h,Nat.add_comm]
section
variable {a b:Nat} (k:VP)
theorem X55 {n:Nat} {K:IntKind} (hn:n<64) (h:a*2^n<18446744073709551616):J0 .shl (.int .u64 (a:Int)) (.int K (n:Int)) k=k (.int .u64 ((a*2^n:Nat):Int)):=by
 rw[C7]
 have h0:¬ (n:Int)<0:=by omega
 simp only[U12,M7,E20,cond_true,h0,if_false,Option.elim_some,IntKind.bits]
 congr 2
 have e:((a:Int)*(2:Int)^min ((n:Int)).toNat 64)=((a*2^n:Nat):Int):=by
  have:min n 64=n:=by omega
  simp[this]
 rw[e,B24 h]
theorem R32 (h:a<4294967296):J0 .shl (.int .u64 (a:Int)) (.int .u64 32) k=k (.int .u64 ((a*4294967296:Nat):Int)):=X55 (n:=32) k (by omega) (by omega)
theorem Q81 (ha:a<18446744073709551616) (hb:b<18446744073709551616):J0 .or (.int .u64 (a:Int)) (.int .u64 (b:Int)) k=k (.int .u64 ((a ||| b:Nat):Int)):=by
 rw[C7]
 show k (.int .u64 (IntKind.u64.wrap ((BitVec.ofInt 64 (a:Int) ||| BitVec.ofInt 64 (b:Int)).toNat:Int)))=_
 rw[G13,G13,BitVec.toNat_or,BitVec.toNat_ofNat,BitVec.toNat_ofNat,Nat.mod_eq_of_lt (by simpa using ha),Nat.mod_eq_of_lt (by simpa using hb),B24 (Nat.or_lt_two_pow (n:=64) ha hb)]
theorem N26 (ha:a<4294967296) (hb:b<4294967296):J0 .or (.int .u64 ((a*4294967296:Nat):Int)) (.int .u64 (b:Int)) k=k (.int .u64 ((a*4294967296+b:Nat):Int)):=by
 rw[Q81 k (by omega) (by omega),show a*4294967296 ||| b=a*4294967296+b from J81 (n:=32) hb]
theorem C52 {n:Nat} (ha:a<2^n) (hn:a<18446744073709551616) (hb:b*2^n<18446744073709551616):J0 .or (.int .u64 (a:Int)) (.int .u64 ((b*2^n:Nat):Int)) k=k (.int .u64 ((a+b*2^n:Nat):Int)):=by
 rw[Q81 k hn hb,C91 ha]
theorem B84 (ha:a<18446744073709551616):J0 .and (.int .u64 (a:Int)) (.int .u64 4294967295) k=k (.int .u64 ((a%4294967296:Nat):Int)):=by
 rw[C7]
 show k (.int .u64 (IntKind.u64.wrap ((BitVec.ofInt 64 (a:Int) &&& BitVec.ofInt 64 ((4294967295:Nat):Int)).toNat:Int)))=_
 rw[G13,G13,BitVec.toNat_and,BitVec.toNat_ofNat,BitVec.toNat_ofNat,Nat.mod_eq_of_lt (by simpa using ha)]
 have:a &&& (4294967295%2^64)=a%4294967296:=Nat.and_two_pow_sub_one_eq_mod a 32
 rw[this,B24 (by omega)]
theorem Q70 (ha:a<18446744073709551616) (hb:0<b):J0 .quo (.int .u64 (a:Int)) (.int .u64 (b:Int)) k=k (.int .u64 ((a/b:Nat):Int)):=by
 rw[N86 _ _ _ _ (by omega)]
 have:((a:Int).tdiv (b:Int))=((a/b:Nat):Int):=by rw[Int.ofNat_tdiv]
 rw[this,B24 (Nat.lt_of_le_of_lt (Nat.div_le_self _ _) ha)]
theorem W56 (hb:0<b):J0 .rem (.int .u64 (a:Int)) (.int .u64 (b:Int)) k=k (.int .u64 ((a%b:Nat):Int)):=by
 rw[G37 _ _ _ _ (by omega)]
 have:((a:Int).tmod (b:Int))=((a%b:Nat):Int):=by rw[Int.ofNat_tmod]
 rw[this]
end
theorem J17 {ds:List Nat} {i d:Nat} (h:ds[i]? = some d):val (ds.drop i)=d+4294967296*val (ds.drop (i+1)):=by
 have hi:i<ds.length:=(List.getElem?_eq_some_iff.1 h).1
 have hd:ds[i]=d:=(List.getElem?_eq_some_iff.1 h).2
 rw[List.drop_eq_getElem_cons hi,hd,val]
theorem D48 {o:List Nat} {i x:Nat}:(o.set i x).drop (i+1)=o.drop (i+1):=by
 apply List.ext_getElem?
 intro j
 rw[List.getElem?_drop,List.getElem?_drop,List.getElem?_set_ne (by omega)]
end Go.Clo
namespace Go.Proofs.YtpiobdofbhkmjaaDoor
open Go.Clo
theorem M39 {v:Value} {n:Nat} {H:Y0} {nx:Nat} (h:NN H nx v n) (hl:(R0 n).length<1000000):
  J2 Tryd.prog 71 [v] H nx fun r H' nx'=>(if n<18446744073709551616 then r = .tuple ⟨[.int .u64 (n:Int),.bool true]⟩ else r = .tuple ⟨[.int .u64 0,.bool false]⟩)/\H=H'/\nx=nx':=by
 obtain⟨A,c,rfl,hD⟩:=h
 refine spec71 ?_
 unfold F71
 refine K0 (Q13 hD hl) ?_
 rintro _ _ _ ⟨rfl,rfl,rfl⟩
 have hsm:=V8 n
 by_cases h2:(R0 n).length<=2
 case neg=>
  have e1:(2:Int)<((R0 n).length:Int):=by omega
  have hn':¬ n<18446744073709551616:=fun hn=>by
   have:=X7 (n:=n) (k:=2) (by simpa using hn)
   omega
  simp (disch:=first|omega|assumption) only[W0,e1,hn']
 have e1:¬ (2:Int)<((R0 n).length:Int):=by omega
 have hn:n<18446744073709551616:=by
  have h3:=U13 n
  have h4:4294967296^(R0 n).length<=4294967296^2:=Nat.pow_le_pow_right (by omega) h2
  omega
 simp (disch:=first|omega|assumption) only[W0,e1]
 have hvn:=C5 n
 generalize R0 n=ds at *
 refine E1 (m:=ds.length) (fun m L H' nx'=>∃ i:Nat,m+i=ds.length/\L=[.int .u64 (val (ds.take i):Int),.int .i64 (i:Int)]/\H=H'/\nx=nx') ?_ ⟨0,rfl,rfl,rfl,rfl⟩
 rintro m ih L _ _ ⟨i,hm,rfl,rfl,rfl⟩ hih
 by_cases hi:i<ds.length
 .have hi':(i:Int)<(ds.length:Int):=by omega
  obtain⟨x,hx⟩:∃ x,ds[i]? = some x:=⟨_,List.getElem?_eq_getElem hi⟩
  have hx32:=hsm.get hx
  obtain⟨bA,oA,G17,rfl,_,hrowA,hgA⟩:=hD.sl.open (i:=i) (by rw[G1];omega)
  have gA:=hgA _ _ (G3 hx)
  have ht:=D10 hsm i
  have hi2:i=0\/i=1:=by omega
  have em:∀ k:VP,J0 .mul (.int .i64 32) (.int .i64 (i:Int)) k=k (.int .i64 ((32*i:Nat):Int)):=fun k=>by
   rw[D38,R26 (by omega) (by omega)];rfl
  have hp:4294967296^i=2^(32*i):=by rw[Nat.pow_mul]
  have hxp:x*2^(32*i)<18446744073709551616:=by
   rcases hi2 with rfl | rfl
   .simp;omega
   .simp;omega
  have ht2:val (ds.take i)<2^(32*i):=by rw[<- hp];exact ht
  have ht3:val (ds.take i)<18446744073709551616:=by
   rcases hi2 with rfl | rfl
   .simp at ht;omega
   .simp at ht;omega
  simp (disch:=first|omega|assumption) only[W0,hi',Y3 hrowA,gA,Y6 _ (show x<18446744073709551616 by omega),em,X55 (a:=x) (n:=32*i) _ (by omega) hxp,C52 (a:=val (ds.take i)) (b:=x) (n:=32*i) _ ht2 ht3 hxp]
  refine hih (m-1) _ _ _ (by omega) ⟨i+1,by omega,?_,rfl,rfl⟩
  rw[M5 hx,hp,Nat.mul_comm x];simp
 .have hi':¬ (i:Int)<(ds.length:Int):=by omega
  simp (disch:=first|omega|assumption) only[W0,hi']
  rw[if_pos hn,M6 (by omega),hvn]
theorem J64 {b c sl d:Nat} {ds:List Nat} {H:Y0} {nx:Nat} (hb:b<nx) (hg:X0 H b=some (.cells (N1 ds) sl)) (hs:Z4 ds) (hl:ds.length<1000000) (hd:0<d) (hd32:d<4294967296):
  J2 Tryd.prog 72 [.slice (some ⟨b,0,none⟩) ds.length c,.int .u32 (d:Int)] H nx fun r H' nx'=>r = .int .u32 ((val ds%d:Nat):Int)/\nx=nx'/\(∀ i,i≠b->X0 H' i=X0 H i) /\
   ∃ qs,X0 H' b=some (.cells (N1 qs) sl)/\qs.length=ds.length/\Z4 qs/\val qs=val ds/d:=by
 refine spec72 ?_
 unfold F72
 simp (disch:=first|omega|assumption) only[W0]
 refine E1 (m:=ds.length) (fun m L H' nx'=>∃ (rest:Nat) (o:List Nat),L=[.int .u64 (rest:Int),.int .i64 ((m:Int)-1)]/\m<=ds.length/\rest<d/\o.length=ds.length/\Z4 o/\(∀ q,q<m->o[q]? = ds[q]?) /\
  val (o.drop m)*d+rest=val (ds.drop m)/\X0 H' b=some (.cells (N1 o) sl)/\(∀ i,i≠b->X0 H' i=X0 H i)/\nx=nx') ?_
  ⟨0,ds,rfl,Nat.le_refl _,hd,rfl,hs,fun _ _=>rfl,by rw[List.drop_of_length_le (Nat.le_refl _)];simp[val],hg,fun _ _=>rfl,rfl⟩
 rintro m ih L H1 _ ⟨rest,o,rfl,hm,hr,hlen,hsm,hsame,hval,hg1,hot,rfl⟩ hih
 by_cases h0:m=0
 .subst h0
  have e2:¬ (0:Int)<=((0:Nat):Int)-1:=by omega
  simp (disch:=first|omega|assumption) only[W0,e2,J9]
  rw[List.drop_zero,List.drop_zero] at hval
  have hq:val ds/d=val o:=by rw[<- hval,Nat.mul_comm,Nat.mul_add_div hd,Nat.div_eq_of_lt hr,Nat.add_zero]
  have hre:val ds%d=rest:=by rw[<- hval,Nat.mul_comm,Nat.mul_add_mod,Nat.mod_eq_of_lt hr]
  refine⟨by rw[hre,Nat.mod_eq_of_lt (by omega)],hot,o,hg1,hlen,hsm,hq.symm⟩
 .have e2:(0:Int)<=(m:Int)-1:=by omega
  have e4:((m:Int)-1).toNat=m-1:=by omega
  obtain⟨x,hx⟩:∃ x,ds[m-1]? = some x:=⟨_,List.getElem?_eq_getElem (by omega)⟩
  have hxo:o[m-1]? = some x:=by rw[hsame _ (by omega)];exact hx
  have hx32:=hs.get hx
  have gX:=G3 hxo
  have hcur:rest*4294967296+x<d*4294967296:=by
   have:=Nat.mul_le_mul_right 4294967296 (show rest+1<=d by omega)
   omega
  have hq32:(rest*4294967296+x)/d<4294967296:=(Nat.div_lt_iff_lt_mul hd).2 (by rw[Nat.mul_comm 4294967296 d];exact hcur)
  simp (disch:=first|omega|assumption) only[W0,e2,e4,hg1,gX,R32 _ (show rest<4294967296 by omega),Y6 _ (show x<18446744073709551616 by omega),N26 (a:=rest) (b:=x) _ (by omega) hx32,Y6 _ (show d<18446744073709551616 by omega),
   Q70 (a:=rest*4294967296+x) (b:=d) _ (by omega) hd,W56 (a:=rest*4294967296+x) (b:=d) _ hd,J9,Nat.mod_eq_of_lt hq32,G1,Z7 (l:=o) (i:=m-1) (x:=(rest*4294967296+x)/d) (show m-1<o.length by omega),show m-1+1<=o.length by omega]
  refine hih (m-1) _ _ _ (by omega) ⟨(rest*4294967296+x)%d,o.set (m-1) ((rest*4294967296+x)/d),by congr 3;omega,by omega,Nat.mod_lt _ hd,by simp[hlen],C9 hsm hq32,fun q hq => ?_,?_,Q0 _ _ _,fun i hi=>by rw[M0 _ hi];exact hot i hi,rfl⟩
  .rw[List.getElem?_set_ne (by omega)];exact hsame q (by omega)
  .have hxs:(o.set (m-1) ((rest*4294967296+x)/d))[m-1]? = some ((rest*4294967296+x)/d):=by rw[List.getElem?_set_self (by omega)]
   rw[J17 hxs,J17 hx,D48,show m-1+1=m by omega,<- hval,Nat.add_mul]
   have h1:=Nat.div_add_mod (rest*4294967296+x) d
   rw[Nat.mul_comm] at h1
   have h2:4294967296*val (o.drop m)*d=4294967296*(val (o.drop m)*d):=Nat.mul_assoc _ _ _
   omega
end Go.Proofs.YtpiobdofbhkmjaaDoor
