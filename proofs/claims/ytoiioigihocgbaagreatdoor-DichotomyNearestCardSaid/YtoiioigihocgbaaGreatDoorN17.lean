/-
  Plain elimination;the program's Bags (texts of chapter 30,by name).
  Contract: the solver's freeWidth.
  Contract: OnesCount32 below 64.
  Contracts: hypergraph.Induced,hypergraph.Components.
  Contract: the closure of the solver's first.
  Contract: the solver's first.
  Contract: elimination.Best.
  Plain: what hypergraph.Obstruction computes,function by function.
  MADE BY PROGRAM (wip/gen/gen.py): functions 65 63 64 30 91 67 68 66 31 32 12 as marked code,and their claims written out.
  Contracts: connex.adjacency,checkFree,below (as those of package elimination).
  Contracts: hypergraph.distance,cycleLength.
  Contracts: the closure of hypergraph.shortestCycle,shortestCycle.
  Contracts: hypergraph.shortestCycle,size,escapes,disjoint.
  Contracts: hypergraph.size,escapes,disjoint,the closure of smallestClique.
  Contract: hypergraph.smallestClique.
  Contracts: slices.Compare of numbers,hypergraph.Obstruction.
-/
import Derived.Test.YtoiioigihocgbaaGreatDoorN16
import Derived.KernelRfl
set_option linter.all false
namespace Go.Proofs.YtoiioigihocgbaaGreatDoor
open Go.Clo
variable {i n x:Nat} {l:List Nat} {p:Nat->Bool}
theorem N25{q:Nat->Bool}(h:∀ w,w<n->p w=q w):Q1 p n=Q1 q n:=by
 apply Nat.eq_of_testBit_eq;intro i;rw[C2,C2]
 by_cases hi:i<n
 .rw[h i hi]
 .simp[hi]
theorem Q38{b:Nat}(hb:b<n):Q1 p n ||| 2^b=Q1 (fun w=>p w || decide (w=b)) n:=by
 apply Nat.eq_of_testBit_eq;intro i;rw[Nat.testBit_or,C2,C2,Nat.testBit_two_pow]
 by_cases hi:i=b
 .subst hi;simp[hb]
 .have h1:decide (b=i)=false:=by simp;omega
  simp[hi,h1]
abbrev Nb:=Nat->Nat->Bool
def K9(N:Nb)(v:Nat)(E:List Nat)(w:Nat):Bool:=N v w&&decide (w ∈ E)
def U9(N:Nb)(v:Nat)(E:List Nat):Nb:=fun a b=>N a b || (decide (a≠b)&&(K9 N v E a&&K9 N v E b))
theorem R19{n:Nat}(hn:n<=32)(p:Nat->Bool):Q1 p n<4294967296:=
 Nat.lt_of_lt_of_le (G11 p n) (Nat.le_trans (Nat.pow_le_pow_right (by omega) hn) (by decide))
theorem M27{n:Nat}(hn:n<=1000000)(z:List Value)(k:List Value->Nat->Nat->Prop):D30 (.int .i64 (n:Int)) (.int .i64 (n:Int)) z k=k (U3 z n) n n:=by
 show cond (Nat.ble n n&&Nat.ble n 1000000) (Go.Clo.spine (U3 z n) fun cs=>k cs n n) False=_;rw[V6 (Nat.le_refl n),V6 hn,V2];rfl
theorem C23:∀ n:Nat,U3 [.int .u32 0] n=C0 (List.replicate n 0)
 | 0=>rfl
 | n+1=>by rw[U3,C23 n];rfl
theorem Z19{α:Type}{l:List α}{x:α}(h:l[i]? = some x):l.drop i=x :: l.drop (i+1):=by
 have hi:=N12 h;rw[List.drop_eq_getElem_cons hi];congr 1;exact(List.getElem?_eq_some_iff.mp h).2
theorem Q44(E:l.Nodup)(h:l[i]? = some x):x ∉ l.drop (i+1):=by
 have h1:(l.drop i).Nodup:=E.sublist (List.drop_sublist _ _);rw[Z19 h] at h1;exact(List.nodup_cons.mp h1).1
structure Z44 (N:Nb):Prop where
 symm:∀ a b,N a b=N b a
 irr:∀ a,N a a=false
theorem Y70(es:List Nat):Z44 (adj es):=⟨Z43 es,E43 es⟩
theorem Y66{N:Nb}(h:Z44 N)(v:Nat)(E:List Nat):Z44 (U9 N v E):=by
 refine⟨fun a b => ?_,fun a => ?_⟩
 .unfold U9
  rw[h.symm a b,Bool.and_comm (K9 N v E a)];have:decide (a≠b)=decide (b≠a):=by congr 1;apply propext;exact ne_comm
  rw[this]
 .simp[U9,h.irr]
theorem B43(h:l.Nodup){j:Nat}(hi:l[i]? = some x)(hj:l[j]? = some x):i=j:=by
 rcases Nat.lt_trichotomy i j with hl | he | hg
 .have:=(List.pairwise_iff_getElem.mp h) i j (N12 hi) (N12 hj) hl
  exact absurd (by rw[(List.getElem?_eq_some_iff.mp hi).2,(List.getElem?_eq_some_iff.mp hj).2]) this
 .exact he
 .have:=(List.pairwise_iff_getElem.mp h) j i (N12 hj) (N12 hi) hg
  exact absurd (by rw[(List.getElem?_eq_some_iff.mp hi).2,(List.getElem?_eq_some_iff.mp hj).2]) this
theorem Q58{E:List Nat}{w:Nat}(O:E.Nodup)(J:∀ w ∈ E,w<n)(Q:E.length=n)(hw:w<n):w ∈ E:=by
 refine Classical.byContradiction fun h => ?_
 have h1:(w :: E).Nodup:=List.nodup_cons.mpr ⟨h,O⟩;have h2:=List.Nodup.length_le_of_subset (l₂:=List.range n) h1 fun x hx=>by
  rw[List.mem_range];rcases List.mem_cons.mp hx with rfl | hx
  .exact hw
  .exact J x hx
 simp at h2;omega
end Go.Proofs.YtoiioigihocgbaaGreatDoor



namespace Go.Clo
def E9(x:Nat):Nat:=(V5 6 x).length
theorem K50{s:ByteArray}{i b:Nat}{K:IntKind}(hg:s.data[i]? = some (UInt8.ofNat b))(hb:b<256)(k:VP):wVf .sidx [.string s,.int K (i:Int)] k=k (.int .u8 (b:Int)):=by
 have h:VF.ev .sidx [.string s,.int K (i:Int)]=some (.int .u8 (b:Int)):=by
  show J52 s (i:Int)=_;unfold J52;have e:s[((i:Int)).toNat]? = some (UInt8.ofNat b):=by
   rw[Int.toNat_natCast,<- hg];rfl
  rw[if_pos (by omega),e];simp only[Option.map_some];congr 2;show((UInt8.ofNat b).toNat:Int)=_;have:(UInt8.ofNat b).toNat=b%256:=UInt8.toNat_ofNat';rw[this,Nat.mod_eq_of_lt (by omega)]
 unfold wVf;rw[h,J8];rfl
end Go.Clo
namespace Go.Proofs.YtoiioigihocgbaaGreatDoor
open Go.Clo
def N16:Array UInt8 := #[0,1,1,2,1,2,2,3,1,2,2,3,2,3,3,4,1,2,2,3,2,3,3,4,2,3,3,4,3,4,4,5,1,2,2,3,2,3,3,4,2,3,3,4,3,4,4,5,2,3,3,4,3,4,4,5,3,4,4,5,4,5,5,6,1,2,2,3,2,3,3,4,2,3,3,4,3,4,4,5,2,3,3,4,3,4,4,5,3,4,4,5,4,5,5,6,2,3,3,4,3,4,4,5,3,4,4,5,4,5,5,6,3,4,4,5,4,5,5,6,4,5,5,6,5,6,6,7,1,2,2,3,2,3,3,4,2,3,3,4,3,4,4,5,2,3,3,4,3,4,4,5,3,4,4,5,4,5,5,6,2,3,3,4,3,4,4,5,3,4,4,5,4,5,5,6,3,4,4,5,4,5,5,6,4,5,5,6,5,6,6,7,2,3,3,4,3,4,4,5,3,4,4,5,4,5,5,6,3,4,4,5,4,5,5,6,4,5,5,6,5,6,6,7,3,4,4,5,4,5,5,6,4,5,5,6,5,6,6,7,4,5,5,6,5,6,6,7,5,6,6,7,6,7,7,8]
theorem J68:∀ x,x<64->N16[x]? = some (UInt8.ofNat (E9 x))/\E9 x<7:=by
 have h:((List.range 64).all fun i=>decide (N16[i]? = some (UInt8.ofNat (E9 i))/\E9 i<7))=true:=by decide +kernel
 intro i hi;have:=List.all_eq_true.1 h i (by simpa using hi);simpa using this
theorem R44{x:Nat}(hx:x<64)(H:Y0)(nx:Nat):Q2 Tryz.prog 44 [.int .u32 (x:Int)] H nx fun r H' nx'=>r = .int .i64 (E9 x:Int)/\D0 H nx H' nx':=by
 refine spec44 ?_;unfold F44;obtain⟨h1,h2⟩:=J68 x hx;have z1:x >>> 24=0:=by rw[Nat.shiftRight_eq_div_pow];omega
 have z2:x >>> 16=0:=by rw[Nat.shiftRight_eq_div_pow];omega
 have z3:x >>> 8=0:=by rw[Nat.shiftRight_eq_div_pow];omega
 have z4:x &&& 255=x:=by rw[show(255:Nat)=2^8-1 from rfl,Nat.and_two_pow_sub_one_eq_mod];omega
 have s1:=fun k=>V15 (a:=x) (n:=24) (K := .u64) k (by omega)
 have s2:=fun k=>V15 (a:=x) (n:=16) (K := .u64) k (by omega)
 have s3:=fun k=>V15 (a:=x) (n:=8) (K := .u64) k (by omega)
 rw[z1] at s1;rw[z2] at s2;rw[z3] at s3;have p0:N16[0]? = some (UInt8.ofNat 0):=by decide +kernel
 have t0:∀(k:VP),wVf .sidx [.string ⟨N16⟩,.int .u32 0] k=k (.int .u8 0):=fun k=>K50 (s:=⟨N16⟩) (i:=0) (b:=0) p0 (by omega) k
 have tx:∀(k:VP),wVf .sidx [.string ⟨N16⟩,.int .u32 (x:Int)] k=k (.int .u8 (E9 x:Int)):=fun k=>K50 (s:=⟨N16⟩) (i:=x) h1 (by omega) k
 unfold N16 at t0 tx;have a0:∀(k:VP),U0 .and (.int .u32 0) (.int .u32 255) k=k (.int .u32 0):=fun k=>rfl
 have ax:∀(k:VP),U0 .and (.int .u32 (x:Int)) (.int .u32 255) k=k (.int .u32 (x:Int)):=fun k=>by
  have:=D17 (a:=x) (b:=255) k (by omega) (by omega);rw[z4] at this;exact this
 have b0:∀(k:VP),U0 .add (.int .u8 0) (.int .u8 0) k=k (.int .u8 0):=fun k=>rfl
 have bx:∀(k:VP),U0 .add (.int .u8 0) (.int .u8 (E9 x:Int)) k=k (.int .u8 (E9 x:Int)):=fun k=>by
  rw[X6];have e:IntKind.u8.wrap (0+(E9 x:Int))=(E9 x:Int):=by rw[Int.zero_add];exact G68 (by omega)
  show k (.int .u8 (IntKind.u8.wrap (0+(E9 x:Int))))=_;rw[e]
 have c0:∀(k:VP),W8 .i64 (.int .u8 (E9 x:Int)) k=k (.int .i64 (E9 x:Int)):=fun k=>K69 (by omega) _ k
 rw[G1,show(.int .u64 24:Value) = .int .u64 ((24:Nat):Int) from rfl,s1];rw[show(.int .u32 ((0:Nat):Int):Value) = .int .u32 0 from rfl,t0];rw[show(.int .u64 16:Value) = .int .u64 ((16:Nat):Int) from rfl,s2];rw[show(.int .u32 ((0:Nat):Int):Value) = .int .u32 0 from rfl,a0,t0,b0];rw[show(.int .u64 8:Value) = .int .u64 ((8:Nat):Int) from rfl,s3];rw[show(.int .u32 ((0:Nat):Int):Value) = .int .u32 0 from rfl,a0,t0,b0,ax,tx,bx,c0,c0];refine .inl ⟨⟨⟨rfl,trivial⟩,trivial⟩,?_⟩;rw[Y5];exact⟨rfl,D0.self (by omega)⟩
end Go.Proofs.YtoiioigihocgbaaGreatDoor

namespace Go.Clo
theorem K67:∀ x,x<64->0<x->x &&& (4294967296-x)=2^tz x:=by decide +kernel
theorem G60{x:Nat}(h0:0<x)(h:x<4294967296)(k:VP):wUn .neg (.int .u32 (x:Int)) k=k (.int .u32 ((4294967296-x:Nat):Int)):=by
 have e:unV .neg (.int .u32 (x:Int))=some (.int .u32 (IntKind.u32.wrap (0-(x:Int)))):=rfl;have e2:IntKind.u32.wrap (0-(x:Int))=((4294967296-x:Nat):Int):=by
  simp only[IntKind.wrap,IntKind.signed,IntKind.bits];simp;omega
 unfold wUn;rw[e,e2,J8];rfl
theorem U59(x:Int)(k:VP):U11 [.int .i64 0,.slice none 0 0] [(0,1),(1,1)] [(0,.int .i64 x)] k=k (.agg ⟨[.int .i64 x,.slice none 0 0]⟩):=V2 _ _
theorem Y48(x:Int)(k:List Value->Prop):K6 1 1 [.int .u32 0] [(0,.int .u32 x)] k=k [.int .u32 x]:=rfl
theorem D0.thru{H:Y0}{nx:Nat}{K:Y0}{m:Nat}{H':Y0}{nx':Nat}(a:D0 H nx K m)(b:D0 K nx H' nx'):D0 H nx H' nx':=⟨b.le,fun q hq=>(b.get q hq).trans (a.get q hq)⟩
theorem Acc.low{lo:Nat}{H:Y0}{nx size:Nat}{v:Value}{n:Nat}{c:List Value}(h:Acc lo H nx size v n c){i:Nat}(hi:i<lo)(b:Option C1):Acc lo (Go.Clo.hs H i b) nx size v n c:=by
 obtain⟨hl,h | ⟨q,h1,h2,h3,h4⟩⟩:=h
 .exact⟨hl,.inl h⟩
 .exact⟨hl,.inr ⟨q,h1,h2,h3,by rw[Z1 _ (by omega)];exact h4⟩⟩
theorem K62(a b x:Value):B12 [a,b] 1 [x]=[a,x]:=rfl
theorem Y22(a b:List Nat):C0 (a++b)=C0 a++C0 b:=by simp[C0]
end Go.Clo
namespace Go.Proofs.YtoiioigihocgbaaGreatDoor
open Go.Clo
theorem Q49{N s cap:Nat}{A:Option Addr}{es:List Nat}{H:Y0}{nx:Nat}(hS:Sl H nx A (C0 es))(hN:N<=6)(aa:∀ e ∈ es,e<2^N)(au:es.length<=8)(ak:s<4294967296):
  Q2 Tryz.prog 43 [gv N A es.length cap,.int .u32 (s:Int)] H nx fun r H' nx'=>(∃ B,r=gv N B (D14 es s).length (D14 es s).length/\Sl H' nx' B (C0 (D14 es s))/\∀ b o t,B=some ⟨b,o,t⟩->nx<=b)/\D0 H nx H' nx':=by
 have ao:2^N<=64:=Nat.pow_le_pow_right (n:=2) (by omega) hN;have Q:C4 es:=fun e he=>by have:=aa e he;omega
 have ai:N3 N es=0:=V11 (by omega) (by omega) fun i e he=>aa e (List.mem_of_getElem? he)
 refine spec43 ?_;unfold F43;simp(disch:=first|omega|assumption)only[W0,Z0,Q0.val,U2];generalize hK:hs (hs H nx (some (.cells [.int .i64 N,.slice A es.length cap] 0))) (nx+1) (some (.cells [.int .i64 0,.slice none 0 0] 0))=K;have kG:J0 K nx=some (.cells [.int .i64 N,.slice A es.length cap] 0):=by rw[<- hK,Z1 _ (by omega),E0]
 have kR:J0 K (nx+1)=some (.cells [.int .i64 0,.slice none 0 0] 0):=by rw[<- hK,E0]
 have ah:D0 H nx K (nx+1+1):=by
  rw[<- hK];exact(((D0.refl H nx).new _ (by omega) (by omega):D0 H nx _ (nx+1)).new _ (by omega) (by omega))
 refine R0 (N11 N A es cap _ _ (hS.ext ah) Q) ?_;rintro _ H3 E ⟨rfl,V⟩;have d1:decide (N3 N es≠0)=false:=by simp[ai]
 have g3:=(V.get nx (by omega)).trans kG;have r3:=(V.get (nx+1) (by omega)).trans kR;have an:=V.le;simp(disch:=first|omega|assumption)only[W0,Z0,Nat.reduceAdd,d1,g3,U59,G26];generalize ag:hs (hs H3 E (some (.cells [.int .i64 0,.slice none 0 0] 0))) E (some (.cells [.int .i64 N,.slice none 0 0] 0))=K4;have k4:J0 K4 E=some (.cells [.int .i64 N,.slice none 0 0] 0):=by rw[<- ag,E0]
 have a7:D0 H3 E K4 (E+1):=by rw[<- ag];exact((D0.refl _ _).new _ (Nat.le_refl _) (by omega):D0 H3 E _ (E+1)).hs (Nat.le_refl _)
 have g4:=(a7.get nx (by omega)).trans g3;refine B1 (m:=es.length) (fun m L H' nx'=>∃ i v,m+i=es.length/\L=[.int .i64 (i:Int)]/\Acc (E+1) H' nx' 1 v (D14 (es.take i) s).length (C0 (D14 (es.take i) s))/\J0 H' E=some (.cells [.int .i64 N,v] 0)/\D0 K4 E H' nx'/\E+1<=nx') ?_
  ⟨0,.slice none 0 0,by omega,rfl,Acc.nil _ _ _ _,k4,D0.self (by omega),by omega⟩
 rintro m ih L H5 O ⟨i,v,hm,rfl,hA,g5,Z,ad⟩ ab;have a0:D0 H nx H5 O:=(ah.trans V).trans (a7.thru Z);have r5:=((a7.thru Z).get (nx+1) (by omega)).trans r3
 by_cases hi:i<es.length
 case neg=>
  have W:¬ (i:Int)<(es.length:Int):=by omega
  rw[D23 hi] at hA;obtain⟨B,rfl,hB⟩:=hA.sl;simp(disch:=first|omega|assumption)only[W0,Z0,Nat.reduceAdd,W,g5,U2,r5,G26];refine⟨⟨B,rfl,?_,fun b o t e => ?_⟩,a0.hs (by omega)⟩
  rotate_left
  .rcases hA.2 with ⟨_,e2⟩ | ⟨q,a1,a2,a3,_⟩
   .rw[e] at e2;cases e2
   .rw[e] at a3
    injection a3 with a4;injection a4 with a5;injection a5 with a6;omega
  obtain⟨B',e,aj⟩:=(hA.low (i:=nx+1) (by omega) (some (.cells [.int .i64 N,.slice B (D14 es s).length (D14 es s).length] 0))).sl
  cases e
  exact aj
 have W:(i:Int)<(es.length:Int):=by omega
 obtain⟨e,he⟩:∃ e,es[i]? = some e:=⟨_,List.getElem?_eq_getElem hi⟩
 obtain⟨A,oA,V63,rfl,aq,U,a8⟩:=(hS.ext a0).open (i:=i) (by rw[E1];omega);have al:=Q.get he;have q0:=a8 _ _ (Q3 he);have J:=M58 s he;have ap:(D14 (es.take i) s).length<=8:=by have:=K46 (es.take i) s;rw[List.length_take] at this;omega
 by_cases h0:e &&& s=0
 .rw[if_pos h0,List.append_nil] at J
  simp(disch:=first|omega|assumption)only[W0,W,X3 U,q0,h0,R1,ne_eq,not_true_eq_false];exact ab (m-1) _ _ _ (by omega) ⟨i+1,v,by omega,by simp,by rw[J];exact hA,g5,Z,ad⟩
 .rw[if_neg h0] at J
  simp(disch:=first|omega|assumption)only[W0,W,X3 U,q0,h0,R1,ne_eq,not_false_eq_true,g5,Y48];have a9:D0 H5 O (hs H5 O (some (.cells [.int .u32 ((e &&& s:Nat):Int)] 0))) (O+1):=(D0.refl _ _).new _ (Nat.le_refl _) (by omega);have g6:=(a9.get E (by omega)).trans g5;refine Y20 (H0:=hs H5 O (some (.cells [.int .u32 ((e &&& s:Nat):Int)] 0))) (lo:=E+1) (m:=1) (l:=[.int .u32 ((e &&& s:Nat):Int)]) (by omega) (hA.ext a9) (J9 (E0 _ _ _) rfl (by omega)) (by omega) rfl (by omega) (by omega) (D0.self (by omega)) (by omega) ?_;intro v' H' ac ae _;have g7:=(ae.get E (by omega)).trans g6;obtain⟨B',rfl,_⟩:=ac.sl;simp(disch:=first|omega|assumption)only[W0,Nat.reduceAdd,g7,K62];refine ab (m-1) _ _ _ (by omega) ⟨i+1,_,by omega,by simp,?_,E0 _ _ _,?_,by omega⟩
  .rw[J,Y22,List.length_append]
   exact ac.low (by omega) _
  .exact(Z.thru ⟨by omega,fun q hq=>(ae.get q (by omega)).trans (a9.get q (by omega))⟩).hs (Nat.le_refl _)
def D19(es:List Nat)(N:Nat):List Nat:=R8 (B2 es N) N N (2^N-1)
theorem N30{es:List Nat}{N:Nat}:∀(u x:Nat),(B2 es N)[u]? = some x->x<2^N:=by
 intro u x h;simp only[B2,List.getElem?_map,Option.map_eq_some_iff] at h;obtain⟨v,_,rfl⟩:=h
 split
 .exact G11 _ _
 .exact Nat.two_pow_pos _
theorem U41 {N cap:Nat} {A:Option Addr} {es:List Nat} {H:Y0} {nx:Nat} (hS:Sl H nx A (C0 es)) (hN:N<=6) (hsm:∀ e ∈ es,e<2^N) (hle:es.length<=8):
  Q2 Tryz.prog 42 [gv N A es.length cap] H nx fun r H' nx'=>(∃ B,r = .slice B (D19 es N).length (D19 es N).length/\Sl H' nx' B (C0 (D19 es N)))/\D0 H nx H' nx':=by
 have hp64:2^N<=64:=Nat.pow_le_pow_right (n:=2) (by omega) hN
 have hp1:0<2^N:=Nat.two_pow_pos N
 have hsm32:C4 es:=fun e he=>by have:=hsm e he;omega
 have hgc:N3 N es=0:=V11 (by omega) (by omega) fun i e he=>hsm e (List.mem_of_getElem? he)
 have haL:=N30 (es:=es) (N:=N)
 refine spec42 ?_
 unfold F42
 have hE1:D0 H nx (hs H nx (some (.cells [.int .i64 N,.slice A es.length cap] 0))) (nx+1):=(D0.refl H nx).new _ (Nat.le_refl _) (by omega)
 have k1:J0 (hs H nx (some (.cells [.int .i64 N,.slice A es.length cap] 0))) nx=some (.cells [.int .i64 N,.slice A es.length cap] 0):=E0 _ _ _
 simp (disch:=first|omega|assumption|exact G0 (by assumption)|exact V0 (by assumption)|exact X0 (by omega)|fail) only[W0,Z0,Q0.val,U2]
 generalize hs H nx (some (.cells [.int .i64 N,.slice A es.length cap] 0))=K at *
 refine R0 (N11 N A es cap _ _ (hS.ext hE1) hsm32) ?_
 rintro _ H2 nx2 ⟨rfl,hE2⟩
 have d1:decide (N3 N es≠0)=false:=by simp[hgc]
 have g2:=(hE2.get nx (by omega)).trans k1
 have hle2:=hE2.le
 simp (disch:=first|omega|assumption|exact G0 (by assumption)|exact V0 (by assumption)|exact X0 (by omega)|fail) only[W0,d1,g2,U2]
 refine R0 (Q65 (by omega) A es cap _ _ (hS.ext (hE1.trans hE2)) hsm (by omega)) ?_
 rintro _ H3 nx3 ⟨rfl,hE3⟩
 have g3:=(hE3.get nx (by omega)).trans g2
 have hle3:=hE3.le
 have e1:(C0 (B2 es N)).length=32:=by rw[E1];exact N9 es N
 have e2:(C0 (List.replicate 32 0)).length=32:=by rw[E1];simp
 have e3:=G24 (c:=C0 (List.replicate 32 0)) (vs:=C0 (B2 es N)) (by rw[e1,e2])
 have e4:=W5 (B2 es N)
 rw[Q27]
 simp (disch:=first|omega|assumption|exact G0 (by assumption)|exact V0 (by assumption)|exact X0 (by omega)|fail) only[W0,e1,e2,e3,e4,g3]
 have hE4:D0 H3 nx3 (hs (hs H3 nx3 (some (.cells (C0 (List.replicate 32 0)) 0))) nx3 (some (.cells (C0 (B2 es N)) 0))) (nx3+1):=((D0.refl _ _).new _ (Nat.le_refl _) (m:=nx3+1) (by omega)).hs (Nat.le_refl _)
 have g43:J0 (hs (hs H3 nx3 (some (.cells (C0 (List.replicate 32 0)) 0))) nx3 (some (.cells (C0 (B2 es N)) 0))) nx3=some (.cells (C0 (B2 es N)) 0):=E0 _ _ _
 generalize hs (hs H3 nx3 (some (.cells (C0 (List.replicate 32 0)) 0))) nx3 (some (.cells (C0 (B2 es N)) 0))=H4 at *
 have g4:=(hE4.get nx (by omega)).trans g3
 refine R0 (C51 (n:=N) (by omega) _ _) ?_
 rintro _ _ _ ⟨rfl,rfl,rfl⟩
 have hE04:=((hE1.trans hE2).trans hE3).trans hE4
 generalize hL:B2 es N=aL at *
 have hLN:aL.length=32:=by rw[<- hL];exact N9 es N
 refine B1 (m:=N) (fun m L H' nx'=>∃ (l:Nat) (v:Value) (res:List Nat),L=[v,.int .u32 (l:Int)]/\(V5 N l).length<=m/\l<2^N/\res.length+m<=N+1/\res++R8 aL N m l=D19 es N/\Acc (nx3+1) H' nx' 1 v res.length (C0 res)/\D0 H4 (nx3+1) H' nx') ?_
  ⟨2^N-1,.slice none 0 0,[],rfl,Q15 _ _,by omega,by simp,by unfold D19;rw[hL];rfl,Acc.nil _ _ _ _,D0.refl _ _⟩
 rintro m ih L H5 nx5 ⟨l,v,res,rfl,hm,hl,hrm,hres,hA,hE5⟩ hih
 have g5:=(hE5.get nx (by omega)).trans g4
 have g53:=(hE5.get nx3 (by omega)).trans g43
 have hle5:=hE5.le
 have M44:l<4294967296:=by omega
 by_cases h0:l=0
 .subst h0
  have e:R8 aL N m 0=[]:=by cases m<;>rfl
  rw[e,List.append_nil] at hres
  obtain⟨B,rfl,hB⟩:=hA.sl
  simp (disch:=first|omega|assumption|exact G0 (by assumption)|exact V0 (by assumption)|exact X0 (by omega)|fail) only[W0,ne_eq,not_true_eq_false]
  rw[hres] at hB ⊢
  exact⟨⟨B,rfl,hB⟩,hE04.trans hE5⟩
 have h0':¬ (l:Int)=0:=by omega
 obtain⟨m',rfl⟩:∃ m',m=m'+1:=by
  cases m with
  | zero=>
   obtain⟨u,hu⟩:=B14 h0
   have:=U43 (R7 hl hu) hu
   omega
  | succ m=>exact⟨m,rfl⟩
 have e:R8 aL N (m'+1) l=W7 aL N N 0 (2^tz l) :: R8 aL N m' (Z2 l (W7 aL N N 0 (2^tz l))):=if_neg h0
 rw[e] at hres
 have hv:=B54 (N:=N) (by omega) (by omega) hl
 have hlv:=V33 (x:=l) (by omega) (by omega)
 have hlow:=K67 l (by omega) (by omega)
 have hI:=E65 (aL:=aL) haL hv
 have hn32:4294967296-l<4294967296:=by omega
 have hneg:=fun k=>G60 (x:=l) (by omega) M44 k
 simp (disch:=first|omega|assumption|exact G0 (by assumption)|exact V0 (by assumption)|exact X0 (by omega)|fail) only[W0,ne_eq,h0',not_false_eq_true,hneg,hlow]
 generalize tz l=t at *
 refine B1 (m:=N) (fun f L H' nx'=>∃ (c b:Nat),L=[.int .u32 (c:Int),.int .u32 (b:Int)]/\c<2^N/\b<2^N/\N<=f+(V5 N c).length/\(∀ w,b.testBit w=true->c.testBit w=false)/\W7 aL N f c b=W7 aL N N 0 (2^t)/\H5=H'/\nx5=nx') ?_
  ⟨0,2^t,rfl,hp1,R27 hv,by omega,by simp,rfl,rfl,rfl⟩
 rintro f ih6 L _ _ ⟨c,b,rfl,hc,hb,hf,hd,hcb,rfl,rfl⟩ hih6
 have hc32:c<4294967296:=by omega
 have hb32:b<4294967296:=by omega
 by_cases hb0:b=0
 .subst hb0
  have e5:W7 aL N f c 0=c:=by cases f<;>rfl
  rw[e5] at hcb
  rw[<- hcb] at hres hI
  have hm2:=X35 hv hlv hI.self
  have hnd32:Z2 l c<4294967296:=V0 M44
  have hE6:D0 H5 nx5 (hs H5 nx5 (some (.cells [.int .u32 (c:Int)] 0))) (nx5+1):=(D0.refl _ _).new _ (Nat.le_refl _) (by omega)
  simp (disch:=first|omega|assumption|exact G0 (by assumption)|exact V0 (by assumption)|exact X0 (by omega)|fail) only[W0,ne_eq,not_true_eq_false,Y48]
  refine Y20 (H0:=H4) (lo:=nx3+1) (m:=1) (l:=[.int .u32 (c:Int)]) (by omega) (hA.ext hE6) (J9 (E0 _ _ _) rfl (by omega)) (by omega) rfl (by omega) (by omega) (hE5.trans hE6) (by omega) ?_
  intro v' H' hA' hE' _
  refine hih m' _ _ _ (by omega) ⟨Z2 l c,v',res++[c],rfl,by omega,Z6 hl,by simp;omega,by rw[List.append_assoc];exact hres,?_,hE'⟩
  rw[Y22,List.length_append]
  exact hA'
 have hb0':¬ (b:Int)=0:=by omega
 obtain⟨f',rfl⟩:∃ f',f=f'+1:=by
  cases f with
  | zero=>exact absurd (X20 hb hd (by have:=Q15 N c;omega)) hb0
  | succ f=>exact⟨f,rfl⟩
 have e6:W7 aL N (f'+1) c b=W7 aL N f' (c ||| b) (Z2 (Q4 aL b N) (c ||| b)):=if_neg hb0
 rw[e6] at hcb
 have hg:=R25 hb hb0 hd
 have hcb32:c ||| b<2^N:=Z26 hc hb
 simp (disch:=first|omega|assumption|exact G0 (by assumption)|exact V0 (by assumption)|exact X0 (by omega)|fail) only[W0,ne_eq,hb0',not_false_eq_true,g5]
 refine B1 (m:=N) (fun q L H' nx'=>∃ (j:Nat),q+j=N/\L=[.int .u32 (Q4 aL b j:Int),.int .i64 (j:Int)]/\H5=H'/\nx5=nx') ?_ ⟨0,by omega,rfl,rfl,rfl⟩
 rintro q ih7 L _ _ ⟨j,hq,rfl,rfl,rfl⟩ hih7
 have hnl:=Z14 (b:=b) haL
 by_cases hj:j<N
 case neg=>
  obtain rfl:j=N:=by omega
  have hj':¬ (j:Int)<(j:Int):=by omega
  have hnj:=hnl j
  have hx32:Q4 aL b j<4294967296:=by omega
  have hy32:c ||| b<4294967296:=by omega
  simp (disch:=first|omega|assumption|exact G0 (by assumption)|exact V0 (by assumption)|exact X0 (by omega)|fail) only[W0,hj']
  refine hih6 f' _ _ _ (by omega) ⟨c ||| b,Z2 (Q4 aL b j) (c ||| b),rfl,hcb32,Z6 hnj,by omega,fun w hw => ?_,hcb,rfl,rfl⟩
  rw[N1,Bool.and_eq_true] at hw
  simpa using hw.2
 have hj':(j:Int)<(N:Int):=by omega
 obtain⟨x,hx⟩:∃ x,aL[j]? = some x:=⟨aL[j]'(by omega),List.getElem?_eq_getElem _⟩
 have hx2:=haL j x hx
 have hx32:x<4294967296:=by omega
 have hnj:=hnl j
 have hn32:Q4 aL b j<4294967296:=by omega
 have hxD:aL.getD j 0=x:=by simp[List.getD_eq_getElem?_getD,hx]
 have gx:=Q3 hx
 have hstep:Q4 aL b (j+1)=if b.testBit j=true then Q4 aL b j ||| aL.getD j 0 else Q4 aL b j:=rfl
 rw[hxD] at hstep
 have hj32:j<32:=by omega
 cases hbj:b.testBit j with
 | false=>
  rw[hbj,if_neg (by simp)] at hstep
  simp (disch:=first|omega|assumption|exact G0 (by assumption)|exact V0 (by assumption)|exact X0 (by omega)|fail) only[W0,hj',R1,hbj]
  exact hih7 (q-1) _ _ _ (by omega) ⟨j+1,by omega,by rw[hstep];simp,rfl,rfl⟩
 | true=>
  rw[hbj,if_pos rfl] at hstep
  simp (disch:=first|omega|assumption|exact G0 (by assumption)|exact V0 (by assumption)|exact X0 (by omega)|fail) only[W0,hj',R1,hbj,g53,gx]
  exact hih7 (q-1) _ _ _ (by omega) ⟨j+1,by omega,by rw[hstep];simp,rfl,rfl⟩
end Go.Proofs.YtoiioigihocgbaaGreatDoor





namespace Go.Clo
theorem E40(aL:List Nat)(N:Nat):∀(f l:Nat),(R8 aL N f l).length<=f
 | 0,_=>Nat.le_refl _
 | f+1,l=>by
  show(if l=0 then [] else _:List Nat).length<=f+1
  split
  .simp
  .simp only[List.length_cons]
   have:=E40 aL N f (Z2 l (W7 aL N N 0 (2^tz l)));omega
end Go.Clo
namespace Go.Proofs.YtoiioigihocgbaaGreatDoor
open Go.Clo
theorem U24{es:List Nat}{N u w:Nat}(hN:N<=32):((B2 es N).getD u 0).testBit w=true<->u<N/\w<N/\adj es u w=true:=by
 rw[List.getD_eq_getElem?_getD]
 by_cases hu:u<32
 .simp only[B2,List.getElem?_map,List.getElem?_range hu,Option.map_some,Option.getD_some]
  by_cases h:u<N
  .rw[if_pos h,C2];simp[h]
  .rw[if_neg h];simp[h]
 .have:(B2 es N)[u]? = none:=List.getElem?_eq_none (by rw[N9];omega)
  rw[this];simp;omega
theorem M37{es:List Nat}{N:Nat}(hN:N<=32):∀ u w,((B2 es N).getD u 0).testBit w=true->((B2 es N).getD w 0).testBit u=true:=by
 intro u w h;obtain⟨h1,h2,h3⟩:=(U24 hN).1 h;exact(U24 hN).2 ⟨h2,h1,by rw[Z43];exact h3⟩
theorem M56{es:List Nat}{N:Nat}(hN:N<=6):(∀ c ∈ D19 es N,∃ v,v<N/\V53 (B2 es N) N v c)/\(D19 es N).Pairwise (fun c d=>∀ w,c.testBit w=true->d.testBit w=false) /\
  (∀ w,w<N<->∃ c ∈ D19 es N,c.testBit w=true):=by
 have E:2^N<=64:=Nat.pow_le_pow_right (n:=2) (by omega) hN;have J:0<2^N:=Nat.two_pow_pos N;obtain⟨h1,h2,h3⟩:=C33 (aL:=B2 es N) (N:=N) N30 E (M37 (by omega)) N (2^N-1) (Q15 _ _) (by omega) (fun u w _ hw=>by
  rw[Nat.testBit_two_pow_sub_one];simpa using ((U24 (by omega)).1 hw).2.1)
 refine⟨h1,h2,fun w => ?_⟩;rw[show D19 es N=R8 (B2 es N) N N (2^N-1) from rfl,<- h3 w,Nat.testBit_two_pow_sub_one];simp
theorem M34{l c:Nat}:Z2 l c=0<->∀ w,l.testBit w=true->c.testBit w=true:=by
 constructor
 .intro h w hw
  have:=N1 l c w;rw[h,hw,Nat.zero_testBit] at this;simpa using this.symm
 .intro h
  apply Nat.eq_of_testBit_eq;intro w;rw[N1,Nat.zero_testBit]
  cases hl:l.testBit w with
  | false=>rfl
  | true=>rw[h w hl];rfl
def orF(es:List Nat)(i:Nat):Nat:=(es.take i).foldl (fun a e=>a ||| e) 0
theorem C47{es:List Nat}{i e:Nat}(h:es[i]? = some e):orF es (i+1)=orF es i ||| e:=by
 unfold orF;rw[C7 h,List.foldl_append];rfl
theorem X37{es:List Nat}{w:Nat}:(orF es es.length).testBit w=true<->∃ e ∈ es,e.testBit w=true:=by
 have key:∀(l:List Nat) (a:Nat),(l.foldl (fun a e=>a ||| e) a).testBit w=true<->a.testBit w=true\/∃ e ∈ l,e.testBit w=true:=by
  intro l
  induction l with
  | nil=>intro a;simp
  | cons x l ih=>
   intro a;rw[List.foldl_cons,ih,Nat.testBit_or,Bool.or_eq_true];simp only[List.mem_cons,exists_eq_or_imp,or_assoc]
 unfold orF;rw[List.take_length,key];simp
theorem R58{es:List Nat}{N:Nat}(h:∀ e ∈ es,e<2^N):∀ i,i<=es.length->orF es i<2^N
 | 0,_=>Nat.two_pow_pos _
 | i+1,hi=>by
  rw[C47 (List.getElem?_eq_getElem (show i<es.length by omega))];exact Z26 (R58 h i (by omega)) (h _ (List.getElem_mem _))
end Go.Proofs.YtoiioigihocgbaaGreatDoor

namespace Go.Clo
theorem W37{a b N:Nat}(h:a<2^N):a &&& b<2^N:=Nat.lt_of_le_of_lt Nat.and_le_left h
end Go.Clo



namespace Go.Proofs.YtoiioigihocgbaaGreatDoor
open Go.Clo
theorem C59{n:Nat}(hn:n<=32)(H:Y0)(nx:Nat):Q2 Tryz.prog 35 [.int .i64 (n:Int)] H nx (Z56 (.int .u32 ((2^n-1:Nat):Int)) H nx):=by
 refine spec35 ?_;unfold F35;simp only[M26 hn,Y5];exact⟨rfl,rfl,rfl⟩
theorem G56(N free:Int)(A:Option Addr)(es:List Nat)(cap:Nat)(H:Y0)(nx:Nat)(hS:Sl H nx A (C0 es))(J:C4 es):
  Q2 Tryz.prog 33 [gv N A es.length cap,.int .i64 free] H nx fun v H' nx'=>v = .int .i64 (Q6 N free es)/\D0 H nx H' nx':=by
 refine spec33 ?_;unfold F33;have hE:D0 H nx (hs H nx (some (.cells [.int .i64 N,.slice A es.length cap] 0))) (nx+1):=(D0.refl H nx).new _ (Nat.le_refl _) (by omega);simp(disch:=first|omega|assumption)only[W0,Z0,Q0.val,U2];refine R0 (N11 N A es cap _ _ (hS.ext hE) J) ?_;rintro _ H2 nx2 ⟨rfl,E⟩;have hg:=E.get nx (by omega);rw[E0] at hg;simp(disch:=first|omega|assumption)only[W0,hg,R1]
 by_cases h0:N3 N es=0
 .by_cases h1:free<0
  .simp(disch:=first|omega|assumption)only[W0,h0,h1,ne_eq,not_true_eq_false]
   exact⟨by simp[Q6,h0,h1],hE.trans E⟩
  .by_cases h2:N<free
   .simp(disch:=first|omega|assumption)only[W0,h0,h1,h2,ne_eq,not_true_eq_false]
    exact⟨by simp[Q6,h0,h2],hE.trans E⟩
   .simp(disch:=first|omega|assumption)only[W0,h0,h1,h2,ne_eq,not_true_eq_false]
    exact⟨by simp[Q6,h0,h1,h2],hE.trans E⟩
 .simp(disch:=first|omega|assumption)only[W0,h0,ne_eq,not_false_eq_true]
  exact⟨by simp[Q6,h0],hE.trans E⟩
theorem Z71{n:Nat}(hn:n<=32)(A:Option Addr)(es:List Nat)(cap:Nat)(H:Y0)(nx:Nat)(hS:Sl H nx A (C0 es))(a6:∀ e ∈ es,e<2^n)(a3:es.length<=64)(a4:N3 n es=0):
  Q2 Tryz.prog 34 [gv n A es.length cap] H nx fun r H' nx'=>r = .agg ⟨C0 (B2 es n)⟩/\D0 H nx H' nx':=by
 refine spec34 ?_;unfold F34;simp(disch:=first|omega|assumption)only[W0,Z0,Q0.val,Q27];generalize hK:hs (hs (hs H nx (some (.cells [.int .i64 n,.slice A es.length cap] 0))) (nx+1) (some (.cells (C0 (List.replicate 32 0)) 0))) (nx+1+1) (some (.cells (C0 (List.replicate 32 0)) 0))=K;have kG:J0 K nx=some (.cells [.int .i64 n,.slice A es.length cap] 0):=by rw[<- hK,Z1 _ (by omega),Z1 _ (by omega),E0]
 have kR:J0 K (nx+1)=some (.cells (C0 (List.replicate 32 0)) 0):=by rw[<- hK,Z1 _ (by omega),E0]
 have kA:J0 K (nx+1+1)=some (.cells (C0 (List.replicate 32 0)) 0):=by rw[<- hK,E0]
 have a8:D0 H nx K (nx+3):=by
  rw[<- hK];exact((((D0.refl H nx).new _ (by omega) (by omega):D0 H nx _ (nx+1)).new _ (by omega) (by omega):D0 H nx _ (nx+1+1)).new _ (by omega) (by omega))
 refine B1 (m:=n) (fun m L H' nx'=>∃(i:Nat) (l:List Nat),m+i=n/\L=[.int .i64 (i:Int)]/\l.length=32/\(∀ v,v<32->l[v]? = some (if v<i then Q1 (adj es v) n else 0)) /\
  J0 H' (nx+1+1)=some (.cells (C0 l) 0)/\D0 K (nx+2) H' nx'/\nx+3<=nx') ?_ ⟨0,List.replicate 32 0,rfl,rfl,by simp,fun v hv=>by rw[List.getElem?_replicate,if_pos hv];simp,kA,D0.self (by omega),Nat.le_refl _⟩
 rintro m ih L H2 nx2 ⟨i,l,hm,rfl,hl,O,hg,E,aa⟩ a1;have g2:=(E.get nx (by omega)).trans kG;have r2:=(E.get (nx+1) (by omega)).trans kR;have J:D0 H nx H2 nx2:=⟨by omega,fun q hq=>(E.get q (by omega)).trans (a8.get q hq)⟩
 simp(disch:=first|omega|assumption)only[W0]
 by_cases hi:i<n
 case neg=>
  have Q:¬ (i:Int)<(n:Int):=by omega
  have a5:i=n:=by omega
  subst a5;have a7:l=B2 es i:=by
   refine G32 hl (N9 es i) fun v hv => ?_
   rw[O v hv];simp[B2,hv]
  subst a7;have e1:(C0 (B2 es i)).length=32:=by rw[E1];exact hl
  have e2:(C0 (List.replicate 32 0)).length=32:=by rw[E1];simp
  have e3:=G24 (c:=C0 (List.replicate 32 0)) (vs:=C0 (B2 es i)) (by rw[e1,e2]);have e4:=W5 (B2 es i);simp(disch:=first|omega|assumption)only[W0,Q,hg,Z34 hl,e1,e2,e4,r2,e3];exact J.hs (by omega)
 have Q:(i:Int)<(n:Int):=by omega
 simp(disch:=first|omega|assumption)only[W0,Q,g2,U2];refine R0 (U61 hn hi A es cap _ _ (hS.ext J) a6 a3 a4) ?_;rintro _ H3 ab ⟨rfl,U⟩;have a0:=(U.get (nx+1+1) (by omega)).trans hg;have a9:=U.le;have a2:i<l.length:=by omega
 have V:(C0 l).length=32:=by rw[E1];exact hl
 simp(disch:=first|omega|assumption)only[W0,Nat.reduceLeDiff,a0,V10 a2,V];refine⟨by omega,a1 (m-1) _ _ _ (by omega) ⟨i+1,l.set i (Q1 (adj es i) n),by omega,by simp,by rw[List.length_set];exact hl,fun v hv => ?_,by rw[E0],((E.trans (U.less (by omega))).hs (by omega)),by omega⟩⟩;rw[List.getElem?_set]
 by_cases W:i=v
 .subst W;rw[if_pos rfl,if_pos (by omega),if_pos (by omega)]
 .rw[if_neg W,O v hv]
  by_cases Z:v<i
  .rw[if_pos Z,if_pos (by omega)]
  .rw[if_neg Z,if_neg (by omega)]
end Go.Proofs.YtoiioigihocgbaaGreatDoor

namespace Go.Proofs.YtoiioigihocgbaaGreatDoor
open Go.Clo
theorem M18{l:List Value}(h:l.length=32)(k:VP):B10 l 0 (some 32) k=k (.agg ⟨l⟩):=by
 have:=K26 (l:=l) k;rwa [h] at this
structure NbL (aL:List Nat) (N:Nat):Prop where
 len:aL.length=32
 lt:∀(u x:Nat),aL[u]? = some x->x<2^N
theorem NbL.at{aL:List Nat}{N:Nat}(h:NbL aL N){u:Nat}(hu:u<32):∃ x,aL[u]? = some x/\x<2^N/\aL.getD u 0=x:=by
 obtain⟨x,hx⟩:∃ x,aL[u]? = some x:=⟨aL[u]'(by rw[h.len];exact hu),List.getElem?_eq_getElem _⟩
 exact⟨x,hx,h.lt u x hx,by simp[List.getD_eq_getElem?_getD,hx]⟩
section
variable {aL:List Nat} {N:Nat} (hN:N<=6) (hL:NbL aL N)
include hN hL
theorem M44:(C0 aL).length=32:=by rw[E1];exact hL.len
end
end Go.Proofs.YtoiioigihocgbaaGreatDoor

namespace Go.Clo
theorem Q64 {H:Y0} {nx b s bytes:Nat} {c:List Value} {x y:Value} {k:EP} (hg:J0 H b=some (.cells c s)) (hs:s=0\/s=1) (hc:0<c.length) (hx:Src H 1 x 1 [y]) (ho:Z0 [y]=true) (hb:bytes<=16) (hlen:c.length<=1000000)
  (hk:∀ H',J0 H' nx=some (.cells (c++[y]) 1)->(∀ i,i≠nx->i≠b->J0 H' i=J0 H i)->k (.slice (some ⟨nx,0,none⟩) (c.length+1) (c.length+1)) H' (nx+1)):B5 (.slice (some ⟨b,0,none⟩) c.length c.length) x 1 bytes H nx k:=by
 have hb1:(2*(c.length+1)+1000)*bytes<=281474976710656:=by
  have:=Nat.mul_le_mul (show 2*(c.length+1)+1000<=2*1000001+1000 by omega) hb
  omega
 have hl:(c++[y]).length=(c.length+1)*1:=by simp
 unfold B5 Z22
 rw[hx.len]
 dsimp only
 rw[G1,V6 hb1,V6 (show c.length+1<=1000000000 by omega)]
 simp only[Bool.and_self,cond_true]
 rw[hx.first,ho,E27 (show c.length<c.length+1 by omega)]
 simp only[cond_true,cond_false]
 have hold:∀ k:List Value->Prop,Z5 H 1 c.length (.slice (some ⟨b,0,none⟩) c.length c.length) False k=k c:=(J9 hg (by omega) (by omega)).first
 rw[hold,V2,hl,D13]
 simp only[cond_true,D22]
 rw[Y4,hg]
 simp only[Option.elim_some]
 rcases hs with rfl | rfl
 .have hls:N8 (.cells c 0) 0 c.length 1=some false:=rfl
  rw[hls]
  dsimp only
  simp only[K11]
  rw[G1,G1,G4]
  exact hk _ (E0 _ _ _) fun i hi _=>Z1 _ hi
 .have hls:N8 (.cells c 1) 0 c.length 1=some true:=by
   simp only[N8]
   rw[K43 (show (1:Nat)≠0 by omega),D13]
   simp only[cond_false,cond_true]
   rw[Nat.zero_add,Nat.mul_one,D13]
  rw[hls]
  dsimp only
  rw[G4]
  simp only[K11]
  rw[G1,G1,G4]
  exact hk _ (E0 _ _ _) fun i hi hne=>by rw[Z1 _ hi,Z1 _ hne]
theorem J55{p:Nat->Bool}{N v:Nat}(h:∀ u,u<v->p u=false)(hv:v<N)(hp:p v=true):(List.range N).find? p=some v:=by
 rw[List.find?_eq_some_iff_getElem];refine⟨hp,v,by simpa using hv,by simp,fun j hj => ?_⟩;simp[h j hj]
theorem D58{p:Nat->Bool}{N:Nat}(h:∀ u,u<N->p u=false):(List.range N).find? p=none:=by
 rw[List.find?_eq_none];intro x hx;rw[h x (by simpa using hx)];simp
structure KB (b:Nat) (H:Y0) (nx:Nat) (H':Y0) (nx':Nat):Prop where
 le:nx<=nx'
 get:∀ i,i<nx->i≠b->J0 H' i=J0 H i
def LsR(l:List Nat)(v:Value)(H:Y0)(nx:Nat):Prop:=∃ A,v = .slice A l.length l.length/\(A=none<->l=[])/\Sl H nx A (U4 (l.map fun(x:Nat)=>(x:Int)))
theorem C66(H:Y0)(nx:Nat):LsR [] (.slice none 0 0) H nx:=⟨none,rfl,by simp,Sl.nil _ _ _⟩
end Go.Clo
namespace Go.Proofs.YtoiioigihocgbaaGreatDoor
open Go.Clo
section
variable {aL:List Nat} {N:Nat} (hN:N<=6) (hL:NbL aL N)
include hN hL
end
end Go.Proofs.YtoiioigihocgbaaGreatDoor

namespace Go.Clo
theorem N34(t:TypeId)(A:Option Addr)(n c:Nat)(k:VP):wVf (.eqn true (.slice t)) [.slice A n c,.slice none 0 0] k=k (.bool A.isSome):=by
 have e:VF.ev (.eqn true (.slice t)) [.slice A n c,.slice none 0 0]=some (.bool A.isSome):=by cases A<;>rfl
 unfold wVf;rw[e,J8];rfl
end Go.Clo
namespace Go.Proofs.YtoiioigihocgbaaGreatDoor
open Go.Clo
section
variable {aL:List Nat} {N:Nat} (hN:N<=6) (hL:NbL aL N)
include hN hL
end
end Go.Proofs.YtoiioigihocgbaaGreatDoor





namespace Go.Proofs.YtoiioigihocgbaaGreatDoor
open Go.Clo
theorem J6(l:List Nat):(U4 (l.map fun(x:Nat)=>(x:Int))).length=l.length:=by rw[X9,List.length_map]
theorem R60(es:List Nat)(N:Nat):NbL (B2 es N) N:=⟨N9 es N,N30⟩
end Go.Proofs.YtoiioigihocgbaaGreatDoor
