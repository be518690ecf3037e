/-
  The executor as a claim: sets of vertices as numbers.
  The executor as a claim: slices that read as lists.
  The executor as a claim: append to a slice that the function has made.
-/
import Derived.Test.YtpiobdofbhkmjaaDoorL14
set_option linter.unusedSimpArgs false
set_option linter.unusedVariables false
set_option linter.unusedSectionVars false
namespace Go.Clo
variable {a b n:Nat}
def M2 (a b:Nat):Nat:=a ^^^ (a &&& b)
theorem N3 (a b i:Nat):(M2 a b).testBit i=(a.testBit i && !b.testBit i):=by
 unfold M2;rw[Nat.testBit_xor,Nat.testBit_and];cases a.testBit i<;>cases b.testBit i<;>rfl
theorem D7 (h:a<2^n):M2 a b<2^n:=Nat.xor_lt_two_pow h (Nat.and_lt_two_pow' _ h)
where
 Nat.and_lt_two_pow' {x n:Nat} (y:Nat) (h:x<2^n):x &&& y<2^n:=Nat.lt_of_le_of_lt Nat.and_le_left h
theorem G38 {a:Nat} (h:a<4294967296):IntKind.u32.wrap (a:Int)=a:=by
 simp only[IntKind.wrap,IntKind.signed,IntKind.bits];simp;omega
theorem G13 (w a:Nat):BitVec.ofInt w (a:Int)=BitVec.ofNat w a:=by
 apply BitVec.eq_of_toNat_eq;simp
theorem B95 (h:a<4294967296):a &&& b<4294967296:=Nat.lt_of_le_of_lt Nat.and_le_left h
theorem Y67 (ha:a<4294967296) (hb:b<4294967296):a ||| b<4294967296:=Nat.or_lt_two_pow (n:=32) ha hb
theorem Q1 (ha:a<4294967296):M2 a b<4294967296:=D7 (n:=32) ha
section
variable {a b:Nat} (k:VP)
theorem Q27 (ha:a<4294967296) (hb:b<4294967296):J0 .and (.int .u32 (a:Int)) (.int .u32 (b:Int)) k=k (.int .u32 ((a &&& b:Nat):Int)):=by
 rw[C7]
 show k (.int .u32 (IntKind.u32.wrap ((BitVec.ofInt 32 (a:Int) &&& BitVec.ofInt 32 (b:Int)).toNat:Int)))=_
 rw[G13,G13,BitVec.toNat_and,BitVec.toNat_ofNat,BitVec.toNat_ofNat,Nat.mod_eq_of_lt (by simpa using ha),Nat.mod_eq_of_lt (by simpa using hb),G38 (B95 ha)]
theorem Z59 (ha:a<4294967296) (hb:b<4294967296):J0 .or (.int .u32 (a:Int)) (.int .u32 (b:Int)) k=k (.int .u32 ((a ||| b:Nat):Int)):=by
 rw[C7]
 show k (.int .u32 (IntKind.u32.wrap ((BitVec.ofInt 32 (a:Int) ||| BitVec.ofInt 32 (b:Int)).toNat:Int)))=_
 rw[G13,G13,BitVec.toNat_or,BitVec.toNat_ofNat,BitVec.toNat_ofNat,Nat.mod_eq_of_lt (by simpa using ha),Nat.mod_eq_of_lt (by simpa using hb),G38 (Y67 ha hb)]
theorem E17 (ha:a<4294967296) (hb:b<4294967296):J0 .andNot (.int .u32 (a:Int)) (.int .u32 (b:Int)) k=k (.int .u32 ((M2 a b:Nat):Int)):=by
 rw[C7]
 show k (.int .u32 (IntKind.u32.wrap ((BitVec.ofInt 32 (a:Int) &&& ~~~(BitVec.ofInt 32 (b:Int))).toNat:Int)))=_
 rw[G13,G13]
 have e:(BitVec.ofNat 32 a &&& ~~~(BitVec.ofNat 32 b)).toNat=M2 a b:=by
  apply Nat.eq_of_testBit_eq
  intro i
  rw[N3,BitVec.testBit_toNat,BitVec.getLsbD_and,BitVec.getLsbD_not,BitVec.getLsbD_ofNat,BitVec.getLsbD_ofNat]
  by_cases hi:i<32
  .simp[hi]
  .have:a.testBit i=false:=Nat.testBit_lt_two_pow (Nat.lt_of_lt_of_le ha (Nat.pow_le_pow_right (n:=2) (by omega) (show 32<=i by omega)))
   simp[hi,this]
 rw[e,G38 (Q1 ha)]
theorem V13 {n:Nat} {K:IntKind} (ha:a<4294967296):J0 .shr (.int .u32 (a:Int)) (.int K (n:Int)) k=k (.int .u32 ((a >>> n:Nat):Int)):=by
 rw[C7]
 have hn:¬ (n:Int)<0:=by omega
 simp only[U12,M7,E20,cond_true,hn,if_false,Option.elim_some,IntKind.bits]
 congr 2
 have e:((2:Int)^min ((n:Int)).toNat 32)=((2^min n 32:Nat):Int):=by simp
 rw[e,Int.fdiv_eq_ediv_of_nonneg _ (Int.natCast_nonneg _),<- Int.natCast_ediv,Nat.shiftRight_eq_div_pow]
 congr 1
 by_cases h:n<=32
 .rw[Nat.min_eq_left h]
 .rw[Nat.min_eq_right (by omega),Nat.div_eq_of_lt (by simpa using ha),Nat.div_eq_of_lt (Nat.lt_of_lt_of_le ha (by
   have:=Nat.pow_le_pow_right (n:=2) (by omega) (show 32<=n by omega)
   simpa using this))]
theorem W52 {n:Nat} {K:IntKind} (hn:n<32):J0 .shl (.int .u32 1) (.int K (n:Int)) k=k (.int .u32 ((2^n:Nat):Int)):=by
 rw[C7]
 have h0:¬ (n:Int)<0:=by omega
 simp only[U12,M7,E20,cond_true,h0,if_false,Option.elim_some,IntKind.bits]
 congr 2
 have e:(1*(2:Int)^min ((n:Int)).toNat 32)=((2^n:Nat):Int):=by
  have:min n 32=n:=by omega
  simp[this]
 rw[e,G38]
 exact Nat.lt_of_lt_of_le (Nat.pow_lt_pow_right (by omega) hn) (by decide)
theorem K40 (ha:a<4294967296):J0 .and (.int .u32 (a:Int)) (.int .u32 1) k=k (.int .u32 ((a%2:Nat):Int)):=by
 have:=Q27 (b:=1) k ha (by omega)
 rw[Nat.and_one_is_mod] at this
 exact this
theorem M40 (ha:a<4294967296):J0 .rem (.int .u32 (a:Int)) (.int .u32 2) k=k (.int .u32 ((a%2:Nat):Int)):=by
 rw[G37 _ _ _ _ (by omega)]
 congr 2
theorem Y2 (ha:a<4294967296):a >>> n<4294967296:=Nat.lt_of_le_of_lt (Nat.shiftRight_le a n) ha
theorem Z29 (a n:Nat):decide ((((a >>> n)%2:Nat):Int)=1)=a.testBit n:=by
 rw[Nat.testBit_eq_decide_div_mod_eq,Nat.shiftRight_eq_div_pow]
 congr 1;apply propext;omega
theorem C46 (a n:Nat):decide ((((a >>> n)%2:Nat):Int)=0) = !a.testBit n:=by
 rw[Nat.testBit_eq_decide_div_mod_eq,Nat.shiftRight_eq_div_pow]
 generalize a/2^n=m
 rw[Bool.eq_iff_iff]
 simp only[decide_eq_true_eq,Bool.not_eq_true',decide_eq_false_iff_not];omega
theorem R59 (a n:Nat):decide ((a >>> n)%2=0) = !a.testBit n:=by rw[<- C46];congr 1;apply propext;omega
theorem R65 (a n:Nat):decide ((a >>> n)%2=1)=a.testBit n:=by rw[<- Z29];congr 1;apply propext;omega
theorem K46 (a:Nat):decide ((a:Int)=0)=decide (a=0):=by congr 1;apply propext;omega
theorem Z45 (a:Nat):decide ((a:Int)≠0)=decide (a≠0):=by congr 1;apply propext;omega
end
end Go.Clo

namespace Go.Clo
variable {A:Option Addr} {H H':Y0} {c l:List Value} {e i nx nx' o:Nat} {es:List Nat}
noncomputable def V3 (H:Y0) (b:Nat):Option (List Value):=(X0 H b).bind V4.row
theorem Y3 {b:Nat} {row:List Value} (h:V3 H b=some row) (o:Nat) (size:Option Nat) (k:VP):ldP (X0 H b) o size k=N9 row o size k:=by
 unfold V3 at h
 cases hg:X0 H b with
 | none=>rw[hg] at h;cases h
 | some blk=>
  rw[hg] at h
  cases blk with
  | map es q=>cases h
  | cells c sl=>cases h;rfl
  | rom c=>cases h;rfl
theorem D0.row {b:Nat} (h:D0 H nx H' nx') (hb:b<nx):V3 H' b=V3 H b:=by unfold V3;rw[h.get b hb]
def Sl (H:Y0) (nx:Nat) (A:Option Addr) (c:List Value):Prop:=
 ∀ i v,c[i]? = some v->∃ b o row,A=some ⟨b,o,none⟩/\b<nx/\V3 H b=some row/\row[o+i]? = some v
theorem Sl.ext (h:Sl H nx A c) (e:D0 H nx H' nx'):Sl H' nx' A c:=fun i v hv=>
 let ⟨b,o,row,h1,h2,h3,h4⟩:=h i v hv
 ⟨b,o,row,h1,Nat.lt_of_lt_of_le h2 e.le,by rw[e.row h2];exact h3,h4⟩
theorem Sl.nil (H:Y0) (nx:Nat) (A:Option Addr):Sl H nx A []:=fun i v h=>by simp at h
theorem Sl.open (h:Sl H nx A c) (hi:i<c.length):
  ∃ b o row,A=some ⟨b,o,none⟩/\b<nx/\V3 H b=some row/\∀ j v,c[j]? = some v->row[o+j]? = some v:=by
 obtain⟨b,o,row,h1,h2,h3,_⟩:=h i c[i] (List.getElem?_eq_getElem hi)
 refine⟨b,o,row,h1,h2,h3,fun j v hv => ?_⟩
 obtain⟨b',o',row',g1,g2,g3,g4⟩:=h j v hv
 rw[h1] at g1;cases g1
 rw[h3] at g3;cases g3
 exact g4
theorem N37 {row:List Value} {n:Nat} (hl:l.length=n) (h:∀ j v,l[j]? = some v->row[o+j]? = some v) (k:VP) (hn:0<n):N9 row o (some n) k=k (.agg ⟨l⟩):=by
 have hlen:o+n<=row.length:=by
  have:=h (n-1) l[n-1] (List.getElem?_eq_getElem (by omega))
  rcases Nat.lt_or_ge (o+(n-1)) row.length with g | g
  .omega
  .rw[List.getElem?_eq_none g] at this;cases this
 have e:(row.drop o).take n=l:=by
  apply List.ext_getElem?
  intro j
  by_cases hj:j<n
  .rw[List.getElem?_take,if_pos hj,List.getElem?_drop,h j l[j] (List.getElem?_eq_getElem (by omega)),List.getElem?_eq_getElem (by omega)]
  .rw[List.getElem?_take,if_neg hj,List.getElem?_eq_none (by omega)]
 rw[D16,e];simp[hlen]
theorem E71 {row:List Value} {x y z:Value} (h0:row[o]? = some x) (h1:row[o+1]? = some y) (h2:row[o+2]? = some z) (k:VP):N9 row o (some 3) k=k (.agg ⟨[x,y,z]⟩):=
 N37 (l:=[x,y,z]) rfl (fun j v hv=>by
  match j,hv with
  | 0,hv=>simp at hv;subst hv;simpa using h0
  | 1,hv=>simp at hv;subst hv;exact h1
  | 2,hv=>simp at hv;subst hv;exact h2
  | j+3,hv=>simp at hv) k (by simp)
theorem R31 (k:VP):N9 l 0 (some l.length) k=k (.agg ⟨l⟩):=by rw[D16];simp
theorem J3 (x y:Value) (k:VP):N9 [x,y] 0 (some 2) k=k (.agg ⟨[x,y]⟩):=R31 (l:=[x,y]) k
theorem D3 (x y z:Value) (k:VP):N9 [x,y,z] 0 (some 3) k=k (.agg ⟨[x,y,z]⟩):=R31 (l:=[x,y,z]) k
theorem C31 (a b x y:Value):G6 [a,b] 0 [x,y]=[x,y]:=rfl
theorem G5 (a b c x y z:Value):G6 [a,b,c] 0 [x,y,z]=[x,y,z]:=rfl
def N1 (es:List Nat):List Value:=es.map fun (e:Nat)=>Value.int .u32 (e:Int)
def R3 (xs:List Int):List Value:=xs.map fun x=>Value.int .i64 x
def Z4 (es:List Nat):Prop:=∀ e ∈ es,e<4294967296
theorem G3 {e:Nat} (h:es[i]? = some e):(N1 es)[i]? = some (.int .u32 (e:Int)):=by simp[N1,h]
theorem U17 {xs:List Int} {x:Int} (h:xs[i]? = some x):(R3 xs)[i]? = some (.int .i64 x):=by simp[R3,h]
theorem G1 (es:List Nat):(N1 es).length=es.length:=by simp[N1]
theorem W5 (xs:List Int):(R3 xs).length=xs.length:=by simp[R3]
theorem Z4.get (h:Z4 es) (he:es[i]? = some e):e<4294967296:=h e (List.mem_of_getElem? he)
end Go.Clo

namespace Go.Clo
variable {H:Y0} {a b cap lo m n nx size:Nat} {c l:List Value} {v:Value}
def Q6 (lo:Nat) (H:Y0) (nx:Nat) (size:Nat) (v:Value) (n:Nat) (c:List Value):Prop:=
 c.length=n*size/\((n=0/\v = .slice none 0 0)\/∃ b,lo<=b/\b<nx/\v = .slice (some ⟨b,0,none⟩) n n/\X0 H b=some (.cells c size))
theorem Q6.nil (lo:Nat) (H:Y0) (nx size:Nat):Q6 lo H nx size (.slice none 0 0) 0 []:=⟨by simp,.inl ⟨rfl,rfl⟩⟩
theorem Q6.ext {H':Y0} {nx':Nat} (h:Q6 lo H nx size v n c) (e:D0 H nx H' nx'):Q6 lo H' nx' size v n c:=by
 refine⟨h.1,h.2.imp id ?_⟩
 rintro⟨b,h1,h2,h3,h4⟩
 exact⟨b,h1,Nat.lt_of_lt_of_le h2 e.le,h3,by rw[e.get b h2];exact h4⟩
theorem Q6.sl (h:Q6 lo H nx size v n c):∃ A,v = .slice A n n/\Sl H nx A c:=by
 obtain⟨hl,h⟩:=h
 rcases h with ⟨rfl,rfl⟩ | ⟨b,h1,h2,rfl,h4⟩
 .refine⟨none,rfl,?_⟩
  simp at hl;subst hl;exact Sl.nil _ _ _
 .refine⟨_,rfl,fun i u hu=>⟨b,0,c,rfl,h2,by simp[V3,h4,V4.row],by simpa using hu⟩⟩
theorem B6 (h:a<=b):Nat.ble a b=true:=Nat.ble_eq_true_of_le h
theorem Y29 (h:b<a):Nat.ble a b=false:=by
 cases hb:Nat.ble a b with
 | false=>rfl
 | true=>exact absurd (Nat.le_of_ble_eq_true hb) (by omega)
theorem E14 (a:Nat):Nat.beq a a=true:=by simp
theorem W38 (h:a≠b):Nat.beq a b=false:=by
 cases hb:Nat.beq a b with
 | false=>rfl
 | true=>exact absurd (Nat.eq_of_beq_eq_true hb) h
structure Src (H:Y0) (size:Nat) (x:Value) (m:Nat) (l:List Value):Prop where
 len:B54 x=some m
 first:∀ k:List Value->Prop,G8 H size m x False k=k l
 size:l.length=m*size
theorem Z8 {sl:Nat} (hg:X0 H b=some (.cells l sl)) (hl:l.length=m*size) (hm:0<m*size):Src H size (.slice (some ⟨b,0,none⟩) m cap) m l:=by
 refine⟨rfl,fun k => ?_,hl⟩
 rw[B42 _ _ _ _ _ _ _ _ hm,hg]
 simp only[Option.bind_some,V4.row]
 simp[<- hl]
theorem R66 {A:Option Addr} (h:Sl H nx A l) (hl:l.length=m*size) (hm:0<m*size):Src H size (.slice A m cap) m l:=by
 obtain⟨b,o,row,rfl,hb,hrow,hget⟩:=h.open (i:=0) (by omega)
 refine⟨rfl,fun k => ?_,hl⟩
 rw[B42 _ _ _ _ _ _ _ _ hm]
 unfold V3 at hrow
 rw[hrow]
 have:=N37 (row:=row) (o:=o) (n:=m*size) hl hget (fun v=>match v with | .agg a=>k a.toList | _=>False) hm
 rw[D16] at this
 exact this
theorem N16 {bytes:Nat} {x:Value} {H0:Y0} {k:EP} (hsz:0<size) (hA:Q6 lo H nx size v n c) (hx:Src H size x m l) (hm:0<m) (ho:Z0 l=true)
  (hb1:(2*(n+m)+1000)*bytes<=281474976710656) (hb2:n+m<=1000000000) (hE:D0 H0 lo H nx) (hlo:lo<=nx)
  (hk:∀ v' H',Q6 lo H' (nx+1) size v' (n+m) (c++l)->D0 H0 lo H' (nx+1)->(∀ i,i<nx->(∀ A n' c',v = .slice (some A) n' c'->A.block≠i)->X0 H' i=X0 H i)->k v' H' (nx+1)):U7 v x size bytes H nx k:=by
 obtain⟨hl,hA⟩:=hA
 have hlen:(c++l).length=(n+m)*size:=by rw[List.length_append,hl,hx.size,Nat.add_mul]
 unfold U7 X27
 rcases hA with ⟨rfl,rfl⟩ | ⟨b,h1,h2,rfl,h4⟩
 .have hc:c=[]:=by simp at hl;exact hl
  subst hc
  rw[hx.len]
  dsimp only
  rw[N2,B6 hb1,B6 hb2]
  simp only[Bool.and_self,cond_true]
  rw[hx.first,ho,Y29 (show 0<0+m by omega)]
  simp only[cond_true,cond_false]
  show R7 ([]++l) _
  rw[E3]
  have e:([]++l).length=(0+m)*size:=hlen
  rw[e,E14]
  simp only[cond_true,B26,C17]
  rw[N2,N2,Y8]
  refine hk _ _ ⟨hlen,.inr ⟨nx,hlo,by omega,rfl,Q0 _ _ _⟩⟩ (hE.new _ hlo (by omega)) fun i hi _=>M0 _ (by omega)
 .rw[hx.len]
  dsimp only
  rw[N2,B6 hb1,B6 hb2]
  simp only[Bool.and_self,cond_true]
  rw[hx.first,ho,Y29 (show n<n+m by omega)]
  simp only[cond_true,cond_false]
  have hold:∀ k:List Value->Prop,G8 H size n (.slice (some ⟨b,0,none⟩) n n) False k=k c:=by
   intro k
   rcases Nat.eq_zero_or_pos n with h0 | h0
   .subst h0
    simp at hl;subst hl
    unfold G8 G24
    dsimp only
    rw[W6,h4]
    simp only[Option.elim_some,Nat.zero_mul,D9]
    exact E3 _ _
   .exact (Z8 h4 hl (Nat.mul_pos h0 hsz)).first k
  rw[hold,E3,hlen,E14]
  simp only[cond_true,B26]
  rw[W6,h4]
  simp only[Option.elim_some]
  have hls:C10 (.cells c size) 0 n size=some true:=by
   simp only[C10]
   rw[W38 (show size≠0 by omega),E14]
   simp only[cond_false,cond_true]
   rw[hl,Nat.zero_add,E14]
  rw[hls]
  dsimp only
  rw[Y8]
  simp only[C17]
  rw[N2,N2,Y8]
  refine hk _ _ ⟨hlen,.inr ⟨nx,hlo,by omega,rfl,Q0 _ _ _⟩⟩ ((hE.new _ h1 (Nat.le_refl _)).new _ hlo (by omega)) fun i hi hne => ?_
  rw[M0 _ (by omega),M0 _ (fun h=>hne _ _ _ rfl h.symm)]
end Go.Clo
