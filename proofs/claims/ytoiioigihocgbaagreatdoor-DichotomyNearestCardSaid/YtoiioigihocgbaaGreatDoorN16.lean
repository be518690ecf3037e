/-
  Contracts: bags,neighbors (texts of chapter 30,by name).
  Contract: cover.packing.
  Contract: cover.packing (the walk).
  Contract: cover.packing (the second loop).
  Contract: cover.packing (all of it).
  Contracts: cover.vertices,zeros;plain: each vertex of a covered set lies in a part.
  Contract: cover.Of.
  MADE BY PROGRAM (wip/gen/gen.py): functions 88 58 59 60 57 9 as marked code,and their claims written out.
  Contracts: the reference's has,Inside,Order;hypergraph.Inside.
  Contract: elimination.greater;the solver in memory.
  Contract: the solver's cover.
  math/bits.TrailingZeros32 at the numbers below 64.
  Contract: the solver's bag.
  Contract: the solver's minimum.
  Plain: connected components as sets of bits.
  Contract: the solver's minimum.
  The marked code of Bags lies in GE.
-/
import Derived.Test.YtoiioigihocgbaaGreatDoorN15
import Derived.Test.YtoiioigihocgbaaGreatDoorN14
import Derived.KernelRfl
import Derived.Shelf.Abstract
import Derived.WalkKit
import Derived.OwnWalkIn
import Derived.TacticsInMore
import Derived.LoopNIn
import Derived.LoopIn
import Derived.Test.YtoiioigihocgbaaGreatDoorProg
import Derived.Test.YtoiioigihocgbaaGreatDoorN1
set_option linter.all false
noncomputable section
namespace Go.Proofs.YtoiioigihocgbaaGreatDoor
open Go.Clo
variable {es l:List Nat} {i n:Nat} {α:Type}
theorem Y18(h:n<32):2^n<4294967296:=Nat.lt_of_lt_of_le (Nat.pow_lt_pow_right (by omega) h) (by decide)
theorem D23{l:List α}(h:¬ i<l.length):l.take i=l:=List.take_of_length_le (by omega)
theorem U27{N free:Int}{es:List Nat}(h:Q6 N free es=0):∃ n f:Nat,N=n/\free=f/\n<=32/\f<=n/\es.length<=64/\∀ e ∈ es,e<2^n:=by
 unfold Q6 at h
 split at h
 .rename_i hg;exact absurd h hg
 .rename_i hg
  split at h
  .cases h
  .rename_i hf
   have hg:N3 N es=0:=Decidable.of_not_not hg;unfold N3 at hg
   split at hg
   .cases hg
   .rename_i h1
    split at hg
    .cases hg
    .rename_i h2
     split at hg
     .cases hg
     .rename_i h3
      obtain⟨n,rfl⟩:=Int.eq_ofNat_of_zero_le (show 0<=N by omega);obtain⟨f,rfl⟩:=Int.eq_ofNat_of_zero_le (show 0<=free by omega);refine⟨n,f,rfl,rfl,by omega,by omega,by omega,fun e he => ?_⟩;rcases Nat.lt_or_ge e (2^n) with g | g
      .exact g
      .exact absurd ⟨e,he,by simpa using g⟩ h3
theorem C7{l:List α}{x:α}(h:l[i]? = some x):l.take (i+1)=l.take i++[x]:=by
 rw[List.take_add_one,h];rfl
def adj(es:List Nat)(a b:Nat):Bool:=decide (a≠b)&&es.any fun e=>e.testBit a&&e.testBit b
theorem E43(es:List Nat)(a:Nat):adj es a a=false:=by simp[adj]
theorem Z43(es:List Nat)(a b:Nat):adj es a b=adj es b a:=by
 unfold adj;congr 1
 .simp[eq_comm]
 .congr 1;funext e;rw[Bool.and_comm]
def Q1(p:Nat->Bool):Nat->Nat
 | 0=>0
 | n+1=>if p n then Q1 p n+2^n else Q1 p n
theorem G11(p:Nat->Bool):∀ n,Q1 p n<2^n
 | 0=>by simp[Q1]
 | n+1=>by
  have:=G11 p n;have h2:2^(n+1)=2^n+2^n:=by rw[Nat.pow_succ];omega
  unfold Q1
  split<;>omega
theorem C2(p:Nat->Bool):∀ n i,(Q1 p n).testBit i=(decide (i<n)&&p i)
 | 0,i=>by simp[Q1]
 | n+1,i=>by
  have E:=G11 p n;have ih:=C2 p n i;unfold Q1
  by_cases hp:p n=true
  .rw[if_pos hp,Nat.add_comm]
   by_cases hi:i=n
   .subst hi
    rw[Nat.testBit_two_pow_add_eq,Nat.testBit_lt_two_pow E];simp[hp]
   .rcases Nat.lt_or_gt_of_ne hi with h | h
    .rw[Nat.testBit_two_pow_add_gt h,ih];simp[h,Nat.lt_succ_of_lt h]
    .have h3:2^n+Q1 p n<2^i:=by
      have:2^(n+1)<=2^i:=Nat.pow_le_pow_right (by omega) (by omega);have h2:2^(n+1)=2^n+2^n:=by rw[Nat.pow_succ];omega
      omega
     rw[Nat.testBit_lt_two_pow h3];have:¬ i<n+1:=by omega
     simp[this]
  .rw[if_neg hp,ih]
   by_cases hi:i=n
   .subst hi;simp[hp]
   .have:decide (i<n+1)=decide (i<n):=by congr 1;apply propext;omega
    rw[this]
def R6(f:Nat):Nat->List Int
 | 0=>[]
 | i+1=>R6 f i++[((f:Int)-1-i)]
theorem Y17(f:Nat):∀ i,(R6 f i).length=i
 | 0=>rfl
 | i+1=>by simp[R6,Y17 f i]
theorem Q27:[Value.int .u32 0,.int .u32 0,.int .u32 0,.int .u32 0,.int .u32 0,.int .u32 0,.int .u32 0,.int .u32 0,.int .u32 0,.int .u32 0,.int .u32 0,.int .u32 0,.int .u32 0,.int .u32 0,.int .u32 0,.int .u32 0,.int .u32 0,.int .u32 0,.int .u32 0,.int .u32 0,.int .u32 0,.int .u32 0,.int .u32 0,.int .u32 0,.int .u32 0,.int .u32 0,.int .u32 0,.int .u32 0,.int .u32 0,.int .u32 0,.int .u32 0,.int .u32 0]=C0 (List.replicate 32 0):=rfl
theorem Z34(h:l.length=32)(k:VP):B10 (C0 l) 0 (some 32) k=k (.agg ⟨C0 l⟩):=by
 rw[X21];have:(C0 l).length=32:=by rw[E1];exact h
 simp[<- this]
theorem W5:∀ l:List Nat,Z0 (C0 l)=true
 | []=>rfl
 | x :: l=>W5 l
def J37(v m e:Nat):Nat:=if e.testBit v then m ||| Z2 e (2^v) else m
def E10(es:List Nat)(v:Nat):Nat:=es.foldl (J37 v) 0
theorem G38{e v:Nat}(h:es[i]? = some e):E10 (es.take (i+1)) v=J37 v (E10 (es.take i) v) e:=by
 unfold E10;rw[C7 h,List.foldl_append];rfl
theorem Q46(v w:Nat):∀(es:List Nat) (m:Nat),(es.foldl (J37 v) m).testBit w=(m.testBit w || es.any fun e=>e.testBit v&&(e.testBit w&&decide (w≠v)))
 | [],m=>by simp
 | e :: es,m=>by
  rw[List.foldl_cons,Q46 v w es,List.any_cons,<- Bool.or_assoc];congr 1;unfold J37
  split
  .rename_i h
   rw[Nat.testBit_or,N1,Nat.testBit_two_pow,h];have:decide (v=w)=decide (w=v):=by congr 1;apply propext;exact eq_comm
   rw[this];simp
  .rename_i h
   simp at h;simp[h]
theorem E44(es:List Nat)(v w:Nat):(E10 es v).testBit w=adj es v w:=by
 unfold E10;rw[Q46,Nat.zero_testBit,Bool.false_or];unfold adj
 by_cases h:v=w
 .subst h;simp
 .have h':w≠v:=fun e=>h e.symm
  simp[h,h']
theorem E36{es:List Nat}{n:Nat}(h:∀ e ∈ es,e<2^n)(v:Nat):E10 es v=Q1 (adj es v) n:=by
 apply Nat.eq_of_testBit_eq;intro w;rw[E44,C2]
 by_cases hw:w<n
 .simp[hw]
 .simp only[hw,decide_false,Bool.false_and]
  unfold adj;rw[Bool.eq_false_iff];intro hc;simp only[Bool.and_eq_true,List.any_eq_true] at hc;obtain⟨_,e,he,_,hb⟩:=hc;rw[Nat.testBit_lt_two_pow (Nat.lt_of_lt_of_le (h e he) (Nat.pow_le_pow_right (by omega) (by omega)))] at hb
  cases hb
theorem U68{es:List Nat}(h:C4 es)(v:Nat):E10 es v<4294967296:=by
 rw[E36 (n:=32) (fun e he=>h e he) v];exact G11 _ 32
theorem X33{es:List Nat}(h:C4 es)(i:Nat):C4 (es.take i):=fun e he=>h e (List.mem_of_mem_take he)
def B2(es:List Nat)(n:Nat):List Nat:=(List.range 32).map fun v=>if v<n then Q1 (adj es v) n else 0
theorem V39(es:List Nat){n v:Nat}(hn:n<=32)(hv:v<n):(B2 es n)[v]? = some (Q1 (adj es v) n):=by
 have:v<32:=by omega
 simp[B2,hv,this]
theorem G32{l':List Nat}(h:l.length=32)(h':l'.length=32)(hg:∀ v,v<32->l[v]? = l'[v]?):l=l':=by
 apply List.ext_getElem?;intro v
 by_cases hv:v<32
 .exact hg v hv
 .rw[List.getElem?_eq_none (by omega),List.getElem?_eq_none (by omega)]
theorem N9(es:List Nat)(n:Nat):(B2 es n).length=32:=by simp[B2]
theorem Q65 {n:Nat} (hn:n<=32) (A:Option Addr) (es:List Nat) (cap:Nat) (H:Y0) (nx:Nat) (hS:Sl H nx A (C0 es)) (hsm:∀ e ∈ es,e<2^n) (hle:es.length<=64):
  Q2 Tryz.prog 29 [gv n A es.length cap] H nx fun r H' nx'=>r = .agg ⟨C0 (B2 es n)⟩/\D0 H nx H' nx':=by
 have hsm32:C4 es:=fun e he=>Nat.lt_of_lt_of_le (hsm e he) (Nat.le_trans (Nat.pow_le_pow_right (by omega) hn) (by decide))
 refine spec29 ?_
 unfold F29
 simp (disch:=first|omega|assumption|exact G0 (by assumption)|exact V0 (by assumption)|exact X0 (by omega)|fail) only[W0,Z0,Q0.val,Q27]
 generalize hK:hs (hs (hs H nx (some (.cells [.int .i64 n,.slice A es.length cap] 0))) (nx+1) (some (.cells (C0 (List.replicate 32 0)) 0))) (nx+1+1) (some (.cells (C0 (List.replicate 32 0)) 0))=K
 have kG:J0 K nx=some (.cells [.int .i64 n,.slice A es.length cap] 0):=by rw[<- hK,Z1 _ (by omega),Z1 _ (by omega),E0]
 have kR:J0 K (nx+1)=some (.cells (C0 (List.replicate 32 0)) 0):=by rw[<- hK,Z1 _ (by omega),E0]
 have kA:J0 K (nx+1+1)=some (.cells (C0 (List.replicate 32 0)) 0):=by rw[<- hK,E0]
 have hEK:D0 H nx K (nx+3):=by
  rw[<- hK];exact ((((D0.refl H nx).new _ (by omega) (by omega):D0 H nx _ (nx+1)).new _ (by omega) (by omega):D0 H nx _ (nx+1+1)).new _ (by omega) (by omega))
 refine B1 (m:=es.length) (fun m L H' nx'=>∃ (i:Nat) (l:List Nat),m+i=es.length/\L=[.int .i64 (i:Int)]/\l.length=32/\(∀ v,v<32->l[v]? = some (if v<n then E10 (es.take i) v else 0)) /\
  J0 H' (nx+1+1)=some (.cells (C0 l) 0)/\D0 K (nx+2) H' nx'/\nx+3<=nx') ?_ ⟨0,List.replicate 32 0,rfl,rfl,by simp,fun v hv=>by rw[List.getElem?_replicate,if_pos hv];simp[E10],kA,D0.self (by omega),Nat.le_refl _⟩
 rintro m ih L H2 nx2 ⟨i,l,hm,rfl,hl,hval,hg,hE2,hnx2⟩ hih
 have g2:=(hE2.get nx (by omega)).trans kG
 have r2:=(hE2.get (nx+1) (by omega)).trans kR
 have hEE2:D0 H nx H2 nx2:=⟨by omega,fun q hq=>(hE2.get q (by omega)).trans (hEK.get q hq)⟩
 simp (disch:=first|omega|assumption|exact G0 (by assumption)|exact V0 (by assumption)|exact X0 (by omega)|fail) only[W0]
 by_cases hi:i<es.length
 case neg=>
  have hi':¬ (i:Int)<(es.length:Int):=by omega
  have hll:l=B2 es n:=by
   refine G32 hl (N9 es n) fun v hv => ?_
   rw[hval v hv,D23 hi]
   simp only[B2,List.getElem?_map,List.getElem?_range hv,Option.map_some]
   split
   .rw[E36 hsm]
   .rfl
  subst hll
  have e1:(C0 (B2 es n)).length=32:=by rw[E1];exact hl
  have e2:(C0 (List.replicate 32 0)).length=32:=by rw[E1];simp
  have e3:=G24 (c:=C0 (List.replicate 32 0)) (vs:=C0 (B2 es n)) (by rw[e1,e2])
  have e4:=W5 (B2 es n)
  simp (disch:=first|omega|assumption|exact G0 (by assumption)|exact V0 (by assumption)|exact X0 (by omega)|fail) only[W0,hi',hg,Z34 hl,e1,e2,e4,r2,e3]
  exact hEE2.hs (by omega)
 have hi':(i:Int)<(es.length:Int):=by omega
 obtain⟨e,he⟩:∃ e,es[i]? = some e:=⟨_,List.getElem?_eq_getElem hi⟩
 obtain⟨A,oA,V63,rfl,hAn,hrowA,hgetA⟩:=(hS.ext hEE2).open (i:=i) (by rw[E1];omega)
 have he32:=hsm32.get he
 have g0:=hgetA _ _ (Q3 he)
 simp (disch:=first|omega|assumption|exact G0 (by assumption)|exact V0 (by assumption)|exact X0 (by omega)|fail) only[W0,hi',X3 hrowA,g0,g2]
 refine B1 (m:=n) (fun m L H' nx'=>∃ (j:Nat) (l:List Nat),m+j=n/\L=[.int .i64 (j:Int)]/\l.length=32/\(∀ v,v<32->l[v]? = some (if v<n then (if v<j then E10 (es.take (i+1)) v else E10 (es.take i) v) else 0)) /\
  J0 H' (nx+1+1)=some (.cells (C0 l) 0)/\D0 K (nx+2) H' nx'/\nx+3<=nx') ?_ ⟨0,l,rfl,rfl,hl,fun v hv=>by rw[hval v hv];simp,hg,hE2,hnx2⟩
 rintro m3 ih3 L3 H3 nx3 ⟨j,l3,hm3,rfl,hl3,hval3,hg3,hE3,hnx3⟩ hih3
 simp (disch:=first|omega|assumption|exact G0 (by assumption)|exact V0 (by assumption)|exact X0 (by omega)|fail) only[W0]
 by_cases hj:j<n
 case neg=>
  have hj':¬ (j:Int)<(n:Int):=by omega
  simp (disch:=first|omega|assumption|exact G0 (by assumption)|exact V0 (by assumption)|exact X0 (by omega)|fail) only[W0,hj']
  refine hih (m-1) _ _ _ (by omega) ⟨i+1,l3,by omega,by simp,hl3,fun v hv => ?_,hg3,hE3,hnx3⟩
  rw[hval3 v hv]
  by_cases hvn:v<n
  .rw[if_pos hvn,if_pos hvn,if_pos (by omega)]
  .rw[if_neg hvn,if_neg hvn]
 have hj':(j:Int)<(n:Int):=by omega
 have hcur:l3[j]? = some (E10 (es.take i) j):=by rw[hval3 j (by omega),if_pos hj,if_neg (by omega)]
 have hacc:=U68 (X33 hsm32 i) j
 have hp:2^j<4294967296:=Y18 (by omega)
 have step:∀ x,x=E10 (es.take (i+1)) j->∀ v,v<32->(l3.set j x)[v]? = some (if v<n then (if v<j+1 then E10 (es.take (i+1)) v else E10 (es.take i) v) else 0):=by
  intro x hx v hv
  rw[List.getElem?_set]
  by_cases hvj:j=v
  .subst hvj;rw[if_pos rfl,if_pos (by omega),if_pos hj,if_pos (by omega),hx]
  .rw[if_neg hvj,hval3 v hv]
   by_cases hvn:v<n
   .rw[if_pos hvn,if_pos hvn]
    by_cases hlt:v<j
    .rw[if_pos hlt,if_pos (by omega)]
    .rw[if_neg hlt,if_neg (by omega)]
   .rw[if_neg hvn,if_neg hvn]
 cases hb:e.testBit j with
 | false=>
  have hsame:l3.set j (E10 (es.take i) j)=l3:=by
   apply List.ext_getElem?
   intro v
   rw[List.getElem?_set]
   split
   .rename_i h;subst h;rw[if_pos (by omega),hcur]
   .rfl
  have hx:=step (E10 (es.take i) j) (by rw[G38 he,J37,if_neg (by simp[hb])])
  rw[hsame] at hx
  simp (disch:=first|omega|assumption|exact G0 (by assumption)|exact V0 (by assumption)|exact X0 (by omega)|fail) only[W0,hj',R1]
  exact hih3 (m3-1) _ _ _ (by omega) ⟨j+1,l3,by omega,by simp,hl3,hx,hg3,hE3,hnx3⟩
 | true=>
  have hnd:Z2 e (2^j)<4294967296:=V0 he32
  have hjl:j<l3.length:=by omega
  have hx:=step (E10 (es.take i) j ||| Z2 e (2^j)) (by rw[G38 he,J37,if_pos hb])
  have gc:=Q3 hcur
  have hlen3:(C0 l3).length=32:=by rw[E1];exact hl3
  simp (disch:=first|omega|assumption|exact G0 (by assumption)|exact V0 (by assumption)|exact X0 (by omega)|fail) only[W0,Nat.reduceLeDiff,hj',R1,hg3,gc,V10 hjl,hlen3]
  refine⟨by omega,hih3 (m3-1) _ _ _ (by omega) ⟨j+1,l3.set j (E10 (es.take i) j ||| Z2 e (2^j)),by omega,by simp,by rw[List.length_set];exact hl3,hx,by rw[E0],(hE3.hs (by omega)).more (by omega),by omega⟩⟩
theorem R56{c:List Value}{i:Nat}{x:Value}(h:c[i]? = some x)(hi:i<n)(k:VP):D65 (.agg ⟨c⟩) (.int .i64 (i:Int)) n 1 false k=k x:=by
 show cond (Nat.blt i n) (E21 c (i*1) none False k) False=k x;have:Nat.blt i n=true:=by simp[Nat.blt_eq];omega
 rw[this,Nat.mul_one];show C30 c i False k=k x;rw[Z12,h];rfl
theorem U61{n v:Nat}(hn:n<=32)(hv:v<n)(A:Option Addr)(es:List Nat)(cap:Nat)(H:Y0)(nx:Nat)(hS:Sl H nx A (C0 es))(U:∀ e ∈ es,e<2^n)(V:es.length<=64)(hg:N3 n es=0):
  Q2 Tryz.prog 70 [gv n A es.length cap,.int .i64 (v:Int)] H nx fun r H' nx'=>r = .int .u32 ((Q1 (adj es v) n:Nat):Int)/\D0 H nx H' nx':=by
 have E:C4 es:=fun e he=>Nat.lt_of_lt_of_le (U e he) (Nat.le_trans (Nat.pow_le_pow_right (by omega) hn) (by decide))
 refine spec70 ?_;unfold F70;have O:D0 H nx (hs H nx (some (.cells [.int .i64 n,.slice A es.length cap] 0))) (nx+1):=(D0.refl H nx).new _ (Nat.le_refl _) (by omega);simp(disch:=first|omega|assumption)only[W0,Z0,Q0.val,U2,R1];refine R0 (N11 n A es cap _ _ (hS.ext O) E) ?_;rintro _ H2 nx2 ⟨rfl,J⟩;have Q:=J.get nx (by omega);rw[E0] at Q;have d1:decide (N3 n es≠0)=false:=by simp[hg]
 have h1:¬ (v:Int)<0:=by omega
 have h2:¬ (v:Int) ≥ (n:Int):=by omega
 simp(disch:=first|omega|assumption)only[W0,d1,h1,h2,Q,U2];refine R0 (Q65 hn A es cap _ _ (hS.ext (O.trans J)) U V) ?_;rintro _ H3 Z ⟨rfl,W⟩;rw[R56 (Q3 (V39 es hn hv)) (by omega)];simp(disch:=first|omega|assumption)only[W0];exact(O.trans J).trans W
end Go.Proofs.YtoiioigihocgbaaGreatDoor

namespace Go.Clo
def V5(N set:Nat):List Nat:=(List.range N).filter fun v=>set.testBit v
theorem N37(v set:Nat):V5 (v+1) set=if set.testBit v then V5 v set++[v] else V5 v set:=by
 unfold V5;rw[List.range_succ,List.filter_append]
 cases h:set.testBit v<;>simp[h]
theorem Q62{N set v:Nat}:v ∈ V5 N set<->v<N/\set.testBit v=true:=by simp[V5]
theorem Q15(N set:Nat):(V5 N set).length<=N:=Nat.le_trans (List.length_filter_le _ _) (by simp)
end Go.Clo





namespace Go.Clo
theorem E66(k:Prop):M64 none k=k:=rfl
end Go.Clo
namespace Go.Proofs.YtoiioigihocgbaaGreatDoor
open Go.Clo
end Go.Proofs.YtoiioigihocgbaaGreatDoor





namespace Go.Proofs.YtoiioigihocgbaaGreatDoor
open Go.Clo
set_option maxRecDepth 100000
variable {H:Y0} {a0 a1:Value} {k:EP} {nx:Nat}
def d88:D:=X5 Tryz.prog 88 [] [[8]] []
def F88(a0 a1:Value)(H:Y0)(nx:Nat)(k:EP):Prop:=
 R4 a0 0 H fun t1=>
 G3 (fun t2 t3 H1 E=>
 U0 .lss (t3.getD 0 undef) t1 fun t4=>
 K2 t4 (
 M3 a0 (t3.getD 0 undef) none 1 fun t5=>
 J1 t5 none H1 fun t6=>
 M33 Tryz.prog a1 [t6] H1 E fun t7 H2 nx2=>
 K2 t7 (
 M0 (t3.getD 0 undef) fun t8=>k t8 H2 nx2) (
 U0 .add (t3.getD 0 undef) (.int .i64 1) fun t9=>
 t2 [t9] H2 nx2)) (
 M0 (.int .i64 (-1)) fun J=>k J H1 E)) [(.int .i64 0)] H nx
theorem spec88(h:F88 a0 a1 H nx k):Q2 Tryz.prog 88 [a0,a1] H nx k:=
 E2 mixed J2 19 5 d88 [(.s 4,none)] (by kernel_rfl) (by kernel_rfl) (by simp) (by kernel_rfl) h
def d9:D:=X5 Tryz.prog 9 [] [] [.one (.tst (.tst (.one (.one (.tst (.tst (.one (.one .nil)) (.one (.one .nil))) (.one (.one (.one .nil)))))) (.one (.one (.one (.tst (.one (.one .nil)) (.one (.one .nil))))))) (.one (.one (.one (.one (.one (.one (.one .nil))))))))]
def F9(a0 a1:Value)(H:Y0)(nx:Nat)(k:EP):Prop:=
 E5 a0 fun t1=>J3 (.cells t1 0) .ptr H nx fun t2 H1 E=>
 B4 t2 1 fun t3=>
 J1 t3 none H1 fun t4=>
 R4 t4 0 H1 fun t5=>
 U0 .leq t5 (.int .i64 8) fun t6=>
 K3 true t6 (
 B4 t2 0 fun t7=>
 J1 t7 none H1 fun t8=>
 U0 .leq t8 (.int .i64 6) fun t9=>
 K3 false t9 (
 B4 t2 0 fun ad=>
 J1 ad none H1 fun V=>
 U0 .gtr V (.int .i64 32) fun ab=>
 K3 true ab (
 B4 t2 0 fun a6=>
 J1 a6 none H1 fun ac=>
 U0 .sub ac a1 fun U=>
 U0 .leq U (.int .i64 4) fun a2=>
 K3 false a2 (
 U0 .lss a1 (.int .i64 0) fun Z=>
 M0 Z fun a4=>k a4 H1 E) (
 M0 (.bool true) fun a3=>k a3 H1 E)) (
 M0 (.bool false) fun aa=>k aa H1 E)) (
 B4 t2 0 fun Q=>
 J1 Q none H1 fun a5=>
 U0 .sub a5 a1 fun a7=>
 U0 .leq a7 (.int .i64 4) fun J=>
 K3 false J (
 U0 .lss a1 (.int .i64 0) fun a8=>
 M0 a8 fun W=>k W H1 E) (
 M0 (.bool true) fun a9=>k a9 H1 E))) (
 M0 (.bool false) fun O=>k O H1 E)
theorem spec9(h:F9 a0 a1 H nx k):Q2 Tryz.prog 9 [a0,a1] H nx k:=
 E2 mixed J2 30 5 d9 [(.s 4,none)] (by kernel_rfl) (by kernel_rfl) (by simp) (by kernel_rfl) h
end Go.Proofs.YtoiioigihocgbaaGreatDoor

namespace Go.Proofs.YtoiioigihocgbaaGreatDoor
open Go.Clo
theorem C69{n:Nat}(h:n<18446744073709551616):IntKind.u64.wrap (n:Int)=n:=by
 simp only[IntKind.wrap,IntKind.signed,IntKind.bits];simp;omega
theorem Z10{n:Nat}(h:n<18446744073709551616)(K:IntKind)(k:VP):W8 .u64 (.int K (n:Int)) k=k (.int .u64 (n:Int)):=by rw[Z32,C69 h]
def R10(es:List Nat)(s:Nat):Bool:=es.any fun e=>decide (Z2 s e=0)
theorem N63{es:List Nat}{s e:Nat}(he:e ∈ es)(h:Z2 s e=0):R10 es s=true:=by
 unfold R10;rw[List.any_eq_true];exact⟨e,he,by simp[h]⟩
theorem N66{es:List Nat}{s:Nat}(h:∀(j e:Nat),j<es.length->es[j]? = some e->Z2 s e≠0):R10 es s=false:=by
 unfold R10;rw[List.any_eq_false];intro e he;obtain⟨i,hi,rfl⟩:=List.getElem_of_mem he;have:=h i _ hi (List.getElem?_eq_getElem hi);simp[this]
theorem M32(e s:Nat):e &&& s=s<->Z2 s e=0:=by
 constructor
 .intro h
  apply Nat.eq_of_testBit_eq;intro i;have:=congrArg (fun x=>x.testBit i) h;simp only[Nat.testBit_and] at this;rw[N1,Nat.zero_testBit]
  revert this
  cases s.testBit i<;>cases e.testBit i<;>simp
 .intro h
  apply Nat.eq_of_testBit_eq;intro i;have:=congrArg (fun x=>x.testBit i) h;simp only[N1,Nat.zero_testBit] at this;rw[Nat.testBit_and]
  revert this
  cases s.testBit i<;>cases e.testBit i<;>simp
theorem W53 {s w:Nat} (h32:s<4294967296) (hw:w<32) (H:Y0) (nx:Nat):Q2 Tryz.prog 55 [.int .u32 (s:Int),.int .i64 (w:Int)] H nx (Z56 (.bool (s.testBit w)) H nx):=by
 refine spec55 ?_
 unfold F55
 have h1:(w:Int) ≥ 0:=by omega
 have h2:(w:Int)<32:=by omega
 simp (disch:=first|omega|assumption|exact G0 (by assumption)|exact V0 (by assumption)|exact X0 (by omega)|fail) only[W0,h1,h2,Z10]
 exact⟨rfl,rfl,rfl⟩
theorem B45{s:Nat}(a2:s<4294967296)(A:Option Addr)(es:List Nat)(cap:Nat)(H:Y0)(nx:Nat)(hS:Sl H nx A (C0 es))(Z:C4 es)(a1:es.length<=64):
  Q2 Tryz.prog 62 [.slice A es.length cap,.int .u32 (s:Int)] H nx fun r H' nx'=>r = .bool (R10 es s || decide (s=0))/\H=H'/\nx=nx':=by
 refine spec62 ?_;unfold F62;refine B1 (m:=es.length) (fun m L H' nx'=>∃ i:Nat,m+i=es.length/\L=[.int .i64 (i:Int)]/\(∀(j e:Nat),j<i->es[j]? = some e->Z2 s e≠0)/\H=H'/\nx=nx') ?_ ⟨0,rfl,rfl,fun j e h=>by omega,rfl,rfl⟩;rintro m ih L _ _ ⟨i,hm,rfl,Q,rfl,rfl⟩ V;simp(disch:=first|omega|assumption)only[W0]
 by_cases hi:i<es.length
 .have E:(i:Int)<(es.length:Int):=by omega
  obtain⟨e,he⟩:∃ e,es[i]? = some e:=⟨_,List.getElem?_eq_getElem hi⟩
  obtain⟨b,o,row,rfl,hb,J,U⟩:=hS.open (i:=i) (by rw[E1];omega);have a0:=Z.get he;have g0:=U _ _ (Q3 he)
  by_cases h:Z2 s e=0
  .have d:decide (((e &&& s:Nat):Int)=(s:Int))=true:=by
    have:=(M32 e s).2 h;simp only[decide_eq_true_eq];omega
   simp(disch:=first|omega|assumption)only[W0,E,X3 J,g0,d];rw[N63 (List.mem_of_getElem? he) h];rfl
  .have d:decide (((e &&& s:Nat):Int)=(s:Int))=false:=by
    have:¬ (e &&& s=s):=fun q=>h ((M32 e s).1 q)
    simp only[decide_eq_false_iff_not];omega
   simp(disch:=first|omega|assumption)only[W0,E,X3 J,g0,d];refine V (m-1) _ _ _ (by omega) ⟨i+1,by omega,by simp,fun j e' hj O => ?_,rfl,rfl⟩
   by_cases W:j=i
   .subst W;rw[he] at O;cases O;exact h
   .exact Q j e' (by omega) O
 .have E:¬ (i:Int)<(es.length:Int):=by omega
  simp(disch:=first|omega|assumption)only[W0,E];rw[N66 fun j e hj he=>Q j e (by omega) he];rfl
end Go.Proofs.YtoiioigihocgbaaGreatDoor





namespace Go.Clo
def tz(x:Nat):Nat:=((List.range 32).find? fun i=>x.testBit i).getD 32
end Go.Clo
namespace Go.Proofs.YtoiioigihocgbaaGreatDoor
open Go.RowKit Go.Shelf Go.Clo
attribute [local go_sem] Oper.semAt_some
def tzi(x:Nat):Nat:=(bits BinOp.and IntKind.u32 x (4294967296-x)*125613361%4294967296/134217728).toNat
set_option maxRecDepth 100000 in
set_option maxHeartbeats 1000000 in
theorem E70{x:Nat}(h0:0<x)(O:x<64)(F:Fence)(n:Nat)(h:F.fn 73)(E:F.round=none)(w:World)(t:Nat)(hc:w.cell? ⟨0,tzi x,none⟩=some (.int .u8 (t:Int)))(ht:t<32):
  CallsIn F n Tryz.prog 73 #[.int .u32 (x:Int)] w fun e w'=>e = .returned (.int .i64 (t:Int))/\w'=w:=by
 have e1:IntKind.u32.wrap (-(x:Int))=4294967296-(x:Int):=by
  simp only[IntKind.wrap,IntKind.signed,IntKind.bits];simp;omega
 have J:¬ (x:Int)=0:=by omega
 refine callsIn_of_wp Tryz.func73 rfl h ?_ E;simp only[Tryz.ntmps73,List.size_toArray,List.length_cons,List.length_nil,Nat.reduceAdd,Nat.reduceSub,Array.replicate_succ,Array.replicate_zero,List.push_toArray,List.append_toArray,List.nil_append,List.cons_append];have Q:w.cell? ⟨0,(bits BinOp.and IntKind.u32 x (4294967296-x)*125613361%4294967296/134217728).toNat,none⟩=some (.int .u8 (t:Int)):=hc;have hw:IntKind.i64.wrap (t:Int)=(t:Int):=by
  simp only[IntKind.wrap,IntKind.signed,IntKind.bits];simp;omega
 gi_wp2
 go_ret
 exact⟨by simp[],rfl⟩
end Go.Proofs.YtoiioigihocgbaaGreatDoor

namespace Go.Clo
theorem N43:∀ x,x<64->0<x->x.testBit (tz x)=true/\tz x<6:=by decide
theorem V33{x:Nat}(h:x<64)(h0:0<x):x.testBit (tz x)=true:=(N43 x h h0).1
theorem B54{x N:Nat}(h:x<64)(h0:0<x)(hN:x<2^N):tz x<N:=by
 refine Classical.byContradiction fun hn => ?_
 have h1:=V33 h h0;rw[Nat.testBit_lt_two_pow (Nat.lt_of_lt_of_le hN (Nat.pow_le_pow_right (n:=2) (by omega) (show N<=tz x by omega)))] at h1
 cases h1
theorem N50{N r u:Nat}(hu:u<N)(hr:r.testBit u=false):(V5 N (r ||| 2^u)).length=(V5 N r).length+1:=by
 induction N with
 | zero=>omega
 | succ N ih=>
  rw[N37,N37,Nat.testBit_or,Nat.testBit_two_pow]
  by_cases e:u=N
  .subst e
   have h1:V5 u (r ||| 2^u)=V5 u r:=by
    unfold V5;apply List.filter_congr;intro v hv;have:v<u:=List.mem_range.1 hv;rw[Nat.testBit_or,Nat.testBit_two_pow];simp[show ¬ u=v by omega]
   simp[hr,h1]
  .have:=ih (by omega)
   cases hb:r.testBit N with
   | true=>simp[this]
   | false=>simp[show ¬ u=N from e,this]
theorem Q59{N r:Nat}(h:(V5 N r).length=N){v:Nat}(hv:v<N):r.testBit v=true:=by
 have h1:(V5 N r).length=(List.range N).length:=by rw[h];simp
 have:=List.length_filter_eq_length_iff.1 h1;exact this v (List.mem_range.2 hv)
theorem Z26{a b N:Nat}(ha:a<2^N)(hb:b<2^N):a ||| b<2^N:=Nat.or_lt_two_pow ha hb
theorem R27{u N:Nat}(hu:u<N):2^u<2^N:=Nat.pow_lt_pow_right (by omega) hu
theorem X20{N b r:Nat}(hb:b<2^N)(hd:∀ v,b.testBit v=true->r.testBit v=false)(hf:(V5 N r).length=N):b=0:=by
 apply Nat.eq_of_testBit_eq;intro v;rw[Nat.zero_testBit]
 cases E:b.testBit v with
 | false=>rfl
 | true=>
  have hv:v<N:=by
   refine Classical.byContradiction fun hn => ?_
   rw[Nat.testBit_lt_two_pow (Nat.lt_of_lt_of_le hb (Nat.pow_le_pow_right (n:=2) (by omega) (show N<=v by omega)))] at E
   cases E
  have:=hd v E;rw[Q59 hf hv] at this
  cases this
end Go.Clo
namespace Go.Proofs.YtoiioigihocgbaaGreatDoor
open Go.Clo
theorem G58:∀ x,x<64->0<x->deB[tzi x]? = some (tz x):=by decide
theorem N65{w:World}(h:GlW w){i n:Nat}(hi:deB[i]? = some n):w.cell? ⟨0,i,none⟩=some (.int .u8 (n:Int)):=
 (h _ (List.mem_singleton.2 rfl)).2 i _ (by simp[hi])
end Go.Proofs.YtoiioigihocgbaaGreatDoor

namespace Go.Clo
theorem Q41{x v:Nat}(h:x.testBit v=true):Z2 x (2^v)<x:=by
 have h1:Z2 x (2^v)<=x:=Nat.le_of_testBit fun i hi=>by
  rw[N1] at hi;simp at hi;exact hi.1
 have h2:Z2 x (2^v)≠x:=fun e=>by
  have:=N1 x (2^v) v;rw[e,h,Nat.testBit_two_pow] at this;simp at this
 omega
theorem U43{N s v:Nat}(hv:v<N)(h:s.testBit v=true):0<(V5 N s).length:=List.length_pos_of_mem (Q62.2 ⟨hv,h⟩)
end Go.Clo
namespace Go.Proofs.YtoiioigihocgbaaGreatDoor
open Go.Clo
end Go.Proofs.YtoiioigihocgbaaGreatDoor

namespace Go.Clo
def Q4(aL:List Nat)(b:Nat):Nat->Nat
 | 0=>0
 | v+1=>if b.testBit v=true then Q4 aL b v ||| aL.getD v 0 else Q4 aL b v
theorem Y7{aL:List Nat}{b w:Nat}:∀ {n:Nat},(Q4 aL b n).testBit w=true<->∃ u,u<n/\b.testBit u=true/\(aL.getD u 0).testBit w=true
 | 0=>by simp[Q4]
 | n+1=>by
  have ih:=@Y7 aL b w n;show(if b.testBit n=true then _ else _:Nat).testBit w=true<->_
  by_cases h:b.testBit n=true
  .rw[if_pos h,Nat.testBit_or,Bool.or_eq_true,ih]
   constructor
   .rintro (⟨u,h1,h2,h3⟩ | h3)
    .exact⟨u,by omega,h2,h3⟩
    .exact⟨n,by omega,h,h3⟩
   .rintro⟨u,h1,h2,h3⟩
    by_cases e:u=n
    .subst e;exact .inr h3
    .exact .inl ⟨u,by omega,h2,h3⟩
  .rw[if_neg h,ih]
   constructor
   .rintro⟨u,h1,h2,h3⟩
    exact⟨u,by omega,h2,h3⟩
   .rintro⟨u,h1,h2,h3⟩
    refine⟨u,?_,h2,h3⟩
    by_cases e:u=n
    .subst e;exact absurd h2 h
    .omega
theorem Z14{aL:List Nat}{b N:Nat}(h:∀(u x:Nat),aL[u]? = some x->x<2^N):∀ n,Q4 aL b n<2^N
 | 0=>Nat.two_pow_pos _
 | n+1=>by
  show(if b.testBit n=true then _ else _:Nat)<2^N
  split
  .refine Z26 (Z14 h n) ?_
   rw[List.getD_eq_getElem?_getD]
   cases hg:aL[n]? with
   | none=>exact Nat.two_pow_pos _
   | some x=>exact h _ _ hg
  .exact Z14 h n
def W7(aL:List Nat)(N:Nat):Nat->Nat->Nat->Nat
 | 0,c,_=>c
 | f+1,c,b=>if b=0 then c else W7 aL N f (c ||| b) (Z2 (Q4 aL b N) (c ||| b))
theorem K48(aL:List Nat)(N w:Nat):∀(f c b:Nat),c.testBit w=true->(W7 aL N f c b).testBit w=true
 | 0,c,b,h=>h
 | f+1,c,b,h=>by
  show(if b=0 then c else _:Nat).testBit w=true
  split
  .exact h
  .exact K48 aL N w f _ _ (by rw[Nat.testBit_or,h];rfl)
theorem J50{aL:List Nat}{N:Nat}(h:∀(u x:Nat),aL[u]? = some x->x<2^N):∀(f c b:Nat),c<2^N->b<2^N->W7 aL N f c b<2^N
 | 0,c,b,hc,_=>hc
 | f+1,c,b,hc,hb=>by
  show(if b=0 then c else _:Nat)<2^N
  split
  .exact hc
  .exact J50 h f _ _ (Z26 hc hb) (Z6 (Z14 h N))
theorem R45{aL:List Nat}{N:Nat}(P:Nat->Prop)(hP:∀ u w,P u->(aL.getD u 0).testBit w=true->P w):∀(f c b:Nat),(∀ w,c.testBit w=true->P w)->(∀ w,b.testBit w=true->P w)->∀ w,(W7 aL N f c b).testBit w=true->P w
 | 0,c,b,hc,_=>hc
 | f+1,c,b,hc,hb=>by
  intro w hw;have E:(if b=0 then c else W7 aL N f (c ||| b) (Z2 (Q4 aL b N) (c ||| b)):Nat).testBit w=true:=hw
  split at E
  .exact hc w E
  .refine R45 P hP f _ _ (fun x hx => ?_) (fun x hx => ?_) w E
   .rw[Nat.testBit_or,Bool.or_eq_true] at hx
    exact hx.elim (hc x) (hb x)
   .rw[N1,Bool.and_eq_true] at hx
    obtain⟨u,_,h2,h3⟩:=Y7.1 hx.1;exact hP u x (hb u h2) h3
theorem Z40{N a b:Nat}(h:∀ w,a.testBit w=true->b.testBit w=true):(V5 N a).length<=(V5 N b).length:=by
 unfold V5;rw[<- List.countP_eq_length_filter,<- List.countP_eq_length_filter];exact List.countP_mono_left fun x _ hx=>h x hx
theorem B14{b:Nat}(h:b≠0):∃ u,b.testBit u=true:=Nat.exists_testBit_of_ne_zero h
theorem R7{b N u:Nat}(hb:b<2^N)(h:b.testBit u=true):u<N:=by
 refine Classical.byContradiction fun hn => ?_
 rw[Nat.testBit_lt_two_pow (Nat.lt_of_lt_of_le hb (Nat.pow_le_pow_right (n:=2) (by omega) (show N<=u by omega)))] at h
 cases h
theorem R25{N c b:Nat}(hb:b<2^N)(h0:b≠0)(hd:∀ w,b.testBit w=true->c.testBit w=false):(V5 N c).length+1<=(V5 N (c ||| b)).length:=by
 obtain⟨u,hu⟩:=B14 h0;rw[<- N50 (R7 hb hu) (hd u hu)];refine Z40 fun w hw => ?_
 rw[Nat.testBit_or,Bool.or_eq_true] at hw ⊢;rcases hw with h | h
 .exact .inl h
 .rw[Nat.testBit_two_pow] at h
  have:u=w:=by simpa using h
  subst this;exact .inr hu
theorem Q28{aL:List Nat}{N:Nat}(h:∀(u x:Nat),aL[u]? = some x->x<2^N):∀(f c b:Nat),N<=f+(V5 N c).length->b<2^N->(∀ w,b.testBit w=true->c.testBit w=false) ->
  (∀ u w,c.testBit u=true->(aL.getD u 0).testBit w=true->c.testBit w=true\/b.testBit w=true) ->
  ∀ u w,(W7 aL N f c b).testBit u=true->(aL.getD u 0).testBit w=true->(W7 aL N f c b).testBit w=true
 | 0,c,b,hf,hb,hd,hc=>by
  have h0:b=0:=X20 hb hd (by have:=Q15 N c;omega);subst h0;intro u w hu hw;have O:c.testBit u=true:=hu;rcases hc u w O hw with h | h
  .exact h
  .simp at h
 | f+1,c,b,hf,hb,hd,hc=>by
  intro u w hu hw
  by_cases h0:b=0
  .have e:W7 aL N (f+1) c b=c:=if_pos h0
   rw[e] at hu ⊢;rcases hc u w hu hw with h | h
   .exact h
   .rw[h0] at h;simp at h
  .have e:W7 aL N (f+1) c b=W7 aL N f (c ||| b) (Z2 (Q4 aL b N) (c ||| b)):=if_neg h0
   rw[e] at hu ⊢;have hg:=R25 hb h0 hd;refine Q28 h f _ _ (by omega) (Z6 (Z14 h N)) (fun x hx => ?_) (fun x y hx hy => ?_) u w hu hw
   .rw[N1,Bool.and_eq_true] at hx
    simpa using hx.2
   .rw[Nat.testBit_or,Bool.or_eq_true] at hx
    by_cases J:(c ||| b).testBit y=true
    .exact .inl J
    .right
     rw[N1];have E:(c ||| b).testBit y=false:=by simpa using J
     rw[E];rcases hx with hx | hx
     .rcases hc x y hx hy with g | g
      .rw[Nat.testBit_or,g] at E;simp at E
      .rw[Nat.testBit_or,g] at E;simp at E
     .rw[Y7.2 ⟨x,R7 hb hx,hx,hy⟩];rfl
def R8(aL:List Nat)(N:Nat):Nat->Nat->List Nat
 | 0,_=>[]
 | f+1,l=>if l=0 then [] else W7 aL N N 0 (2^tz l) :: R8 aL N f (Z2 l (W7 aL N N 0 (2^tz l)))
theorem K52{aL:List Nat}{N v:Nat}(hN:0<N):(W7 aL N N 0 (2^v)).testBit v=true:=by
 obtain⟨n,rfl⟩:∃ n,N=n+1:=⟨N-1,by omega⟩
 show(if 2^v=0 then 0 else _:Nat).testBit v=true;rw[if_neg (by have:=Nat.two_pow_pos v;omega)];refine K48 aL _ v n _ _ ?_;rw[Nat.zero_or,Nat.testBit_two_pow];simp
structure V53 (aL:List Nat) (N v c:Nat):Prop where
 lt:c<2^N
 self:c.testBit v=true
 closed:∀ u w,c.testBit u=true->(aL.getD u 0).testBit w=true->c.testBit w=true
 least:∀ P:Nat->Prop,P v->(∀ u w,P u->(aL.getD u 0).testBit w=true->P w)->∀ w,c.testBit w=true->P w
theorem E65{aL:List Nat}{N v:Nat}(h:∀(u x:Nat),aL[u]? = some x->x<2^N)(hv:v<N):V53 aL N v (W7 aL N N 0 (2^v)):=
 ⟨J50 h N 0 _ (Nat.two_pow_pos _) (R27 hv),K52 (by omega),Q28 h N 0 _ (by omega) (R27 hv) (by simp) (by simp),fun P h0 hP=>R45 P hP N 0 _ (by simp) (fun w hw=>by
  rw[Nat.testBit_two_pow] at hw;have:v=w:=by simpa using hw
  subst this;exact h0)⟩
theorem X35{N l c v:Nat}(hv:v<N)(hl:l.testBit v=true)(hc:c.testBit v=true):(V5 N (Z2 l c)).length<(V5 N l).length:=by
 have h1:(Z2 l c).testBit v=false:=by rw[N1,hl,hc];rfl
 have h2:=N50 hv h1;have h3:(V5 N (Z2 l c ||| 2^v)).length<=(V5 N l).length:=Z40 fun w hw=>by
  rw[Nat.testBit_or,Bool.or_eq_true] at hw;rcases hw with h | h
  .rw[N1,Bool.and_eq_true] at h;exact h.1
  .rw[Nat.testBit_two_pow] at h
   have:v=w:=by simpa using h
   subst this;exact hl
 omega
theorem C33{aL:List Nat}{N:Nat}(h:∀(u x:Nat),aL[u]? = some x->x<2^N)(W:2^N<=64)(V:∀ u w,(aL.getD u 0).testBit w=true->(aL.getD w 0).testBit u=true):
  ∀(f l:Nat),(V5 N l).length<=f->l<2^N->(∀ u w,l.testBit u=true->(aL.getD u 0).testBit w=true->l.testBit w=true) ->
  (∀ c ∈ R8 aL N f l,∃ v,v<N/\V53 aL N v c)/\(R8 aL N f l).Pairwise (fun c d=>∀ w,c.testBit w=true->d.testBit w=false) /\
  (∀ w,l.testBit w=true<->∃ c ∈ R8 aL N f l,c.testBit w=true)
 | 0,l,hf,hl,_=>by
  have h0:l=0:=by
   refine Classical.byContradiction fun hn => ?_
   obtain⟨u,hu⟩:=B14 hn;have:=U43 (R7 hl hu) hu;omega
  subst h0;exact⟨by simp[R8],by simp[R8],by simp[R8]⟩
 | f+1,l,hf,hl,hcl=>by
  by_cases h0:l=0
  .have e:R8 aL N (f+1) l=[]:=if_pos h0
   rw[e,h0];exact⟨by simp,by simp,by simp⟩
  have e:R8 aL N (f+1) l=W7 aL N N 0 (2^tz l) :: R8 aL N f (Z2 l (W7 aL N N 0 (2^tz l))):=if_neg h0;rw[e];have hv:=B54 (N:=N) (by omega) (by omega) hl;have O:=V33 (x:=l) (by omega) (by omega);have hI:=E65 h hv;generalize tz l=v at *
  generalize W7 aL N N 0 (2^v)=c at *
  have hm:=X35 hv O hI.self;have U:∀ u w,(Z2 l c).testBit u=true->(aL.getD u 0).testBit w=true->(Z2 l c).testBit w=true:=fun u w hu hw=>by
   rw[N1,Bool.and_eq_true] at hu;rw[N1,hcl u w hu.1 hw]
   cases J:c.testBit w with
   | false=>rfl
   | true=>
    have:=hI.closed w u J (V u w hw);rw[this] at hu;simp at hu
  obtain⟨h1,h2,h3⟩:=C33 h W V f (Z2 l c) (by omega) (Z6 hl) U;have Q:∀ w,c.testBit w=true->l.testBit w=true:=hI.least _ O hcl;refine⟨fun d hd => ?_,?_,fun w => ?_⟩
  .rcases List.mem_cons.1 hd with rfl | hd
   .exact⟨v,hv,hI⟩
   .exact h1 d hd
  .refine List.Pairwise.cons (fun d hd w hw => ?_) h2
   cases E:d.testBit w with
   | false=>rfl
   | true=>
    have:=(h3 w).2 ⟨d,hd,E⟩;rw[N1,hw] at this;simp at this
  .constructor
   .intro hw
    cases J:c.testBit w with
    | true=>exact⟨c,by simp,J⟩
    | false=>
     obtain⟨d,hd,E⟩:=(h3 w).1 (by rw[N1,hw,J];rfl);exact⟨d,by simp[hd],E⟩
   .rintro⟨d,hd,E⟩
    rcases List.mem_cons.1 hd with rfl | hd
    .exact Q w E
    .have:=(h3 w).2 ⟨d,hd,E⟩
     rw[N1,Bool.and_eq_true] at this;exact this.1
def D14(es:List Nat)(s:Nat):List Nat:=es.filterMap fun e=>if e &&& s=0 then none else some (e &&& s)
theorem K46(es:List Nat)(s:Nat):(D14 es s).length<=es.length:=List.length_filterMap_le _ _
theorem U67{es:List Nat}{s N:Nat}(h:∀ e ∈ es,e<2^N):∀ e ∈ D14 es s,e<2^N:=by
 intro e he;obtain⟨x,hx,hy⟩:=List.mem_filterMap.1 he
 split at hy
 .cases hy
 .cases hy
  exact Nat.lt_of_le_of_lt Nat.and_le_left (h x hx)
end Go.Clo
namespace Go.Proofs.YtoiioigihocgbaaGreatDoor
open Go.Clo
theorem M58{es:List Nat}{i e:Nat}(s:Nat)(h:es[i]? = some e):D14 (es.take (i+1)) s=D14 (es.take i) s++(if e &&& s=0 then [] else [e &&& s]):=by
 unfold D14;rw[C7 h,List.filterMap_append];congr 1
 by_cases h0:e &&& s=0<;>simp[h0]
end Go.Proofs.YtoiioigihocgbaaGreatDoor




