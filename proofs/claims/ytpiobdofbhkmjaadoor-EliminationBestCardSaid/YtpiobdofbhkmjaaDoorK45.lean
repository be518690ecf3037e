/-
  Contracts: the reference's Has and Check,law26.Of and Few.
  DERIVED: THE SHELF's CONTRACTS AT THIS DUMP,IN PLAIN WORDS (tools/lay-plain.mjs out of 'TrydShelf.lean',which tools/lay-shelf.mjs wrote): THE SAME DECLARATIONS UNDER THE SAME NAMES: 'import','namespace','open','def','theorem' AND NOTHING ELSE: no command of the shelf's: FOR A HAND-IN. Each laying: the table of numbers ('.._ren') and one theorem,a field a fact of the dump's own or the kernel's comparison;each contract: ONE APPLICATION.
  Contracts: slices.Delete of one number,slices.Clone and slices.Equal of numbers.
  Contract: elimination.Width.
-/
import Derived.Test.YtpiobdofbhkmjaaDoorK21
import Derived.Test.YtpiobdofbhkmjaaDoorK44
import Derived.Ground.Names2Prog
import Derived.Shelf.Slices.Delete
import Derived.Test.YtpiobdofbhkmjaaDoorProg
set_option linter.unusedSimpArgs false
set_option linter.unusedVariables false
set_option linter.unusedSectionVars false
namespace Go.Proofs.YtpiobdofbhkmjaaDoor
open Go.Clo
theorem V44 {s n:Nat} (hs:s<4294967296) (H:Y0) (nx:Nat):J2 Tryd.prog 45 [.int .u32 (s:Int),.int .i64 (n:Int)] H nx (K63 (.bool (s.testBit n)) H nx):=by
 refine spec45 ?_
 unfold F45
 simp only[V13 _ hs,M40 _ (Y2 hs),R30,Z29,N7]
 exact⟨rfl,rfl,rfl⟩
theorem M94:Y89 20:=by
 intro N A es cap H nx hS hsm
 refine spec20 ?_
 unfold F20
 have hE:D0 H nx (hs H nx (some (.cells [.int .i64 N,.slice A es.length cap] 0))) (nx+1):=(D0.refl H nx).new _ (Nat.le_refl _) (by omega)
 simp (disch:=first|omega|assumption) only[W0,Z0,B0.val]
 by_cases h1:N<0
 .simp (disch:=first|omega|assumption) only[W0,K3,h1]
  exact⟨by rw[Q25 (.inl h1)],hE⟩
 by_cases h2:32<N
 .simp (disch:=first|omega|assumption) only[W0,K3,h1,h2]
  exact⟨by rw[Q25 (.inr h2)],hE⟩
 obtain⟨n,rfl⟩:=Int.eq_ofNat_of_zero_le (show 0<=N by omega)
 simp (disch:=first|omega|assumption) only[W0,K3,h1,h2]
 by_cases h3:64<es.length
 .have h3':(64:Int)<(es.length:Int):=by omega
  simp (disch:=first|omega|assumption) only[W0,h3']
  exact⟨by rw[D51 (by omega) (by omega) h3],hE⟩
 have h3':¬ (64:Int)<(es.length:Int):=by omega
 simp (disch:=first|omega|assumption) only[W0,h3']
 refine E1 (m:=es.length) (fun m L H' nx'=>∃ i:Nat,m+i=es.length/\L=[.int .i64 (i:Int)]/\(∀ (j e:Nat),j<i->es[j]? = some e->e<2^n)/\_=H'/\nx+1=nx') ?_ ⟨0,rfl,rfl,fun j e h=>by omega,rfl,rfl⟩
 rintro m ih L _ _ ⟨i,hm,rfl,hst,rfl,rfl⟩ hih
 simp (disch:=first|omega|assumption) only[W0]
 by_cases hi:i<es.length
 .obtain⟨e,he⟩:∃ e,es[i]? = some e:=⟨_,List.getElem?_eq_getElem hi⟩
  obtain⟨b,o,row,rfl,hb,hrow,hget⟩:=(hS.ext hE).open (i:=i) (by rw[G1];exact hi)
  have hlt:((i:Int)<(es.length:Int)):=by omega
  have he32:=hsm.get he
  simp (disch:=first|omega|assumption) only[W0,hlt]
  refine E1 (m:=32-n) (fun m L H' nx'=>∃ v:Nat,m+v=32/\n<=v/\L=[.int .i64 (v:Int)]/\(∀ u,n<=u->u<v->e.testBit u=false)/\_=H'/\nx+1=nx') ?_ ⟨n,by omega,Nat.le_refl _,rfl,fun u h1 h2=>by omega,rfl,rfl⟩
  rintro m2 ih2 L2 _ _ ⟨v,hm2,hnv,rfl,hbits,rfl,rfl⟩ hih2
  by_cases hv:v<32
  .have hv':((v:Int)<32):=by omega
   simp (disch:=first|omega|assumption) only[W0,hv',Y3 hrow,hget _ _ (G3 he)]
   refine K0 (V44 he32 _ _) ?_
   rintro _ _ _ ⟨rfl,rfl,rfl⟩
   cases hb1:e.testBit v with
   | true=>
    simp (disch:=first|omega|assumption) only[W0]
    exact⟨by rw[E56 (by omega) (by omega) he (U78 hnv hb1)],hE⟩
   | false=>
    simp (disch:=first|omega|assumption) only[W0]
    refine hih2 (m2-1) _ _ _ (by omega) ⟨v+1,by omega,by omega,by simp,fun u h1 h2 => ?_,rfl,rfl⟩
    by_cases huv:u=v
    .subst huv;exact hb1
    .exact hbits u h1 (by omega)
  .have hv':¬ ((v:Int)<32):=by omega
   simp (disch:=first|omega|assumption) only[W0,hv']
   refine hih (m-1) _ _ _ (by omega) ⟨i+1,by omega,by simp,fun j e' hj he' => ?_,rfl,rfl⟩
   by_cases hji:j=i
   .subst hji;rw[he] at he';cases he'
    exact D72 he32 fun u h1 h2=>hbits u h1 (by omega)
   .exact hst j e' (by omega) he'
 .have hlt:¬ ((i:Int)<(es.length:Int)):=by omega
  simp (disch:=first|omega|assumption) only[W0,hlt]
  exact⟨by rw[W14 (by omega) (by omega) fun j e he=>hst j e (by have:=Q12 he;omega) he],hE⟩
theorem R93 (N:Int) (A:Option Addr) (len cap:Nat) (H:Y0) (nx:Nat):J2 Tryd.prog 8 [gv N A len cap] H nx fun r H' nx'=>r=gv N A len cap/\D0 H nx H' nx':=by
 refine spec8 ?_
 unfold F8
 simp (disch:=first|omega|assumption) only[W0,Z0,B0.val]
 have hb:∀ k,M4 [.int .i64 0,.slice none 0 0] [(0,1),(1,1)] [(0,.int .i64 N),(1,.slice A len cap)] k=k (gv N A len cap):=fun k=>rfl
 rw[hb]
 simp (disch:=first|omega|assumption) only[W0,Z0,Nat.reduceAdd,C31,J3]
 exact (((D0.self (by omega)).hs (by omega)).hs (by omega)).hs (by omega)
theorem Z90 (N:Int) (A:Option Addr) (es:List Nat) (cap:Nat) (H:Y0) (nx:Nat) (hS:Sl H nx A (N1 es)) (hsm:Z4 es):
  J2 Tryd.prog 5 [gv N A es.length cap] H nx fun v H' nx'=>(∃ c:Bool,v = .bool c/\(c=true->0<=N/\N<=6/\es.length<=8/\R8 N es=0))/\D0 H nx H' nx':=by
 refine spec5 ?_
 unfold F5
 have hE:D0 H nx (hs H nx (some (.cells [.int .i64 N,.slice A es.length cap] 0))) (nx+1):=(D0.refl H nx).new _ (Nat.le_refl _) (by omega)
 simp (disch:=first|omega|assumption) only[W0,Z0,B0.val]
 by_cases h1:N ≥ 0
 case neg => 
  simp (disch:=first|omega|assumption) only[W0,h1]
  exact⟨⟨false,rfl,fun h=>by cases h⟩,hE⟩
 by_cases h2:N<=6
 case neg => 
  simp (disch:=first|omega|assumption) only[W0,h1,h2]
  exact⟨⟨false,rfl,fun h=>by cases h⟩,hE⟩
 by_cases h3:(es.length:Int)<=8
 case neg => 
  simp (disch:=first|omega|assumption) only[W0,h1,h2,h3]
  exact⟨⟨false,rfl,fun h=>by cases h⟩,hE⟩
 simp (disch:=first|omega|assumption) only[W0,h1,h2,h3,J3]
 refine K0 (R93 N A es.length cap _ _) ?_
 rintro _ H2 nx2 ⟨rfl,hE2⟩
 refine K0 (M94 N A es cap _ _ (hS.ext (hE.trans hE2)) hsm) ?_
 rintro _ H3 nx3 ⟨rfl,hE3⟩
 simp (disch:=first|omega|assumption) only[W0]
 exact⟨⟨_,rfl,fun h=>⟨by omega,by simpa using h⟩⟩,(hE.trans hE2).trans hE3⟩
end Go.Proofs.YtpiobdofbhkmjaaDoor

namespace Go.Proofs
open Go.Shelf
def Tryd.laysNm223_ren:Go.Shelf.Ren:=⟨fun | 23=>41 | n=>n,fun | 22=>27 | 3=>3 | 4=>4 | 0=>0 | n=>n,fun | n=>n⟩
theorem Tryd.laysNm223:Go.Proofs.Lays2.n23 Tryd.prog Tryd.laysNm223_ren:={
 mixed:=by kernel_rfl
 f23:=Tryd.func41.trans (congrArg some (by kernel_rfl))
 t0:=Tryd.underlying0
 a0:=Tryd.isAgg0
 z0:=Tryd.sizeOf0
 v0:=Tryd.zeroValue0
 t3:=Tryd.underlying3
 a3:=Tryd.isAgg3
 z3:=Tryd.sizeOf3
 v3:=Tryd.zeroValue3
 t4:=Tryd.underlying4
 a4:=Tryd.isAgg4
 z4:=Tryd.sizeOf4
 v4:=Tryd.zeroValue4
 t22:=Tryd.underlying27
 a22:=Tryd.isAgg27
 z22:=Tryd.sizeOf27
 v22:=Tryd.zeroValue27
 i3:=by kernel_rfl }
open Go.RowKit Go.Lib Go.Sort in
open Go.RowKit Go.Lib Go.Sort in
theorem Tryd.slices_Delete_int (blk off cap i j:Nat) (zs:List Int) (w:World) (hH:Holds (Value.int .i64) w blk off zs.toArray) (hcap:zs.length<=cap) (hm:cap<=9223372036854775807) (hij:i<=j) (hj:j<=zs.length):
  Calls Tryd.prog 41 #[.slice (some ⟨blk,off,none⟩) zs.length cap,.int .i64 i,.int .i64 j] w fun e w'=>e = .returned (.slice (some ⟨blk,off,none⟩) (zs.length-(j-i)) cap)/\∃ q,w'=putRow (Value.int .i64) (Sort.ahead w q) blk off (zs.take i++zs.drop j++List.replicate (j-i) 0).toArray:=Any.slices_Delete_int Tryd.laysNm223 blk off cap i j zs w hH hcap hm hij hj
end Go.Proofs

namespace Go.Proofs.YtpiobdofbhkmjaaDoor
open Go.Clo
variable {A:Option Addr} {H:Y0} {blk nx off:Nat} {d:Array Int} {l:List Int} {w:World}
theorem W82:Go.Clo.Enters Tryd.prog 41:=⟨_,_,Tryd.func41,rfl,by kernel_rfl⟩
theorem Y41:∀ l:List Int,(R3 l).all W9=true
 | []=>rfl
 | x :: l=>Y41 l
theorem C81 {c:Array Value} {e:TypeId} {fr:Nat × Nat} (h:w.heap[blk]? = some (.cells c e fr)):(Sort.putRow (Value.int .i64) w blk off d).heap[blk]? = some (.cells (Sort.putCells (Value.int .i64) off d c) e fr):=by
 unfold Sort.putRow Sort.mapBlock
 simp only[Array.getElem?_modify,if_true,h,Option.map_some,Sort.onCells]
theorem R78 {k:Nat} (h:k≠blk):(Sort.putRow (Value.int .i64) w blk off d).heap[k]? = w.heap[k]? := by
 unfold Sort.putRow Sort.mapBlock
 simp only[Array.getElem?_modify]
 rw[if_neg (fun e=>h e.symm)]
theorem D75 {b i:Nat} {xs:List Int} (hb:b<nx) (hg:X0 H b=some (.cells (R3 xs) 1)) (hi:i<xs.length) (hl:xs.length<=1000000):
  J2 Tryd.prog 41 [.slice (some ⟨b,0,none⟩) xs.length xs.length,.int .i64 (i:Int),.int .i64 ((i:Int)+1)] H nx fun r H' nx'=>
   r = .slice (some ⟨b,0,none⟩) (xs.length-1) xs.length/\H'=hs H b (some (.cells (R3 (xs.take i++xs.drop (i+1)++[0])) 1))/\nx'=nx:=by
 refine⟨_,_,nx,⟨W82,fun F args' w hh hl => ?_⟩,rfl,rfl,rfl⟩
 cases hl with
 | cons ha hl=>
 cases hl with
 | cons h1 hl=>
 cases hl with
 | cons h2 hl=>
 cases hl
 cases h1
 cases h2
 obtain⟨_,t,c',hF,rfl,hc⟩:=ha.slice_inv
 obtain⟨c0,e,hw,hsz,hts,hte,hle,hvl⟩:=hh.hb.get hF hg
 have hcells:=K24 hvl (Y41 xs)
 rw[W5] at hcells hts hle
 have hcl:xs.length<=c':=by rcases hc with h | ⟨_,h,_⟩<;>omega
 have hcm:c'<=9223372036854775807:=by rcases hc with h | ⟨_,_,_,_,h⟩<;>omega
 have hget:∀ j,j<xs.length->c0[t.base+j]? = some (.int .i64 (xs.toArray[j]!)):=fun j hj=>by
  have h1:(R3 xs)[j]? = some (.int .i64 xs[j]):=by simp[R3,hj]
  rw[<- hcells,List.getElem?_take,if_pos hj,List.getElem?_drop,Array.getElem?_toList] at h1
  rw[h1]
  simp[hj]
 have hH:Sort.Holds (Value.int .i64) w t.blk (t.base+0) xs.toArray:=fun j hj=>by
  have hj':j<xs.length:=by simpa using hj
  constructor
  .show w.cell? ⟨t.blk,t.base+0+j,none⟩=_
   simp only[World.cell?,hw]
   rw[Nat.add_zero]
   simpa using hget j hj'
  .simp only[World.frozen?,hw]
   simp
 have hcall:=Tryd.slices_Delete_int t.blk (t.base+0) c' i (i+1) xs w hH hcl hcm (by omega) (by omega)
 have e1:((i+1:Nat):Int)=(i:Int)+1:=rfl
 rw[e1] at hcall
 refine hcall.mono fun ex w' ⟨he,q,hw'⟩ => ?_
 subst hw'
 have hnew:xs.length-(i+1-i)=xs.length-1:=by omega
 rw[hnew] at he
 refine⟨_,F,he,.slice hF hc,?_⟩
 have hzl:(xs.take i++xs.drop (i+1)++List.replicate (i+1-i) (0:Int))=xs.take i++xs.drop (i+1)++[0]:=by
  rw[show i+1-i=1 by omega];rfl
 have hlen2:(xs.take i++xs.drop (i+1)++[(0:Int)]).length=xs.length:=by simp;omega
 rw[hzl]
 generalize xs.take i++xs.drop (i+1)++[(0:Int)]=zs at *
 refine U5.update hh hb hg rfl rfl hF rfl rfl rfl (by simp[Sort.ahead]) (fun k hk=>by rw[R78 hk];rfl) ?_
 have hwa:(Sort.ahead w q).heap[t.blk]? = some (.cells c0 e (0,0)):=hw
 refine⟨_,e,C81 hwa,?_,by rw[hts,W5,hlen2],hte,by rw[W5,hlen2];exact hle,?_⟩
 .simp[Sort.putCells];exact hsz
 .have:((Sort.putCells (Value.int .i64) (t.base+0) zs.toArray c0).toList.drop t.base).take (R3 zs).length=R3 zs:=by
   apply List.ext_getElem?
   intro j
   rw[List.getElem?_take,W5]
   by_cases hj:j<zs.length
   .rw[if_pos hj,List.getElem?_drop,Array.getElem?_toList]
    have hin:t.base+j<c0.size:=by omega
    have hz:(R3 zs)[j]? = some (.int .i64 zs[j]):=by simp[R3,hj]
    rw[hz]
    unfold Sort.putCells
    rw[Array.getElem?_mapIdx,Array.getElem?_eq_getElem hin]
    simp only[Option.map_some]
    rw[if_pos (by simp;omega)]
    congr 2
    rw[show t.base+j-(t.base+0)=j by omega]
    simp[hj]
   .rw[if_neg hj,List.getElem?_eq_none (by rw[W5];omega)]
  rw[this]
  exact R14 _ _ (Y41 zs)
theorem Z58 {cap:Nat} (hS:Sl H nx A (R3 l)) (h0:Has H nx A) (hl:l.length<=1000) (hA:A=none->cap=0):
  J2 Tryd.prog 40 [.slice A l.length cap] H nx fun r H' nx'=>X30 nx H' nx' r (R3 l)/\D0 H nx H' nx':=by
 refine spec40 ?_
 unfold F40
 rw[U77]
 cases A with
 | none=>
  have hnil:l=[]:=by
   cases l with
   | nil=>rfl
   | cons x l=>
    obtain⟨b,o,row,e,_⟩:=hS.open (i:=0) (by simp[R3])
    cases e
  subst hnil
  simp (disch:=first|omega|assumption) only[W0,B0.val,Option.isNone]
  exact⟨.inl (Q6.nil _ _ _ _),D0.refl _ _⟩
 | some a=>
  simp (disch:=first|omega|assumption) only[W0,B0.val,Option.isNone,Q83]
  have hX:D0 H nx (hs H nx (some (.cells [] 0))) (nx+1):=(D0.refl H nx).new _ (Nat.le_refl _) (by omega)
  refine K80 (lo:=nx) (H0:=H) (Q0 _ _ _) (Nat.le_refl _) (by omega) (Y36 (hS.ext hX) (h0.ext hX) (by rw[W5];omega) (by omega)) (W21 l) (by omega) (by omega) hX ?_
  intro v1 H1 nx1 _ hA1 hE1
  exact⟨hA1,hE1⟩
theorem G81 {B:Option Addr} {m:List Int} {ca cb:Nat} (hA:Sl H nx A (R3 l)) (hB:Sl H nx B (R3 m)) (hl:l.length<=1000):
  J2 Tryd.prog 19 [.slice A l.length ca,.slice B m.length cb] H nx fun r H' nx'=>r = .bool (decide (l=m))/\D0 H nx H' nx':=by
 refine spec19 ?_
 unfold F19
 by_cases hlm:l.length=m.length
 case neg=>
  have h1:¬ (l.length:Int)=(m.length:Int):=by omega
  have h2:l≠m:=fun e=>hlm (by rw[e])
  simp (disch:=first|omega|assumption) only[W0,ne_eq,h1,not_false_eq_true]
  exact⟨by simp[h2],D0.refl _ _⟩
 have h1:(l.length:Int)=(m.length:Int):=by omega
 simp (disch:=first|omega|assumption) only[W0,ne_eq,h1,not_true_eq_false]
 refine E1 (m:=m.length) (fun k L H' nx'=>∃ i:Nat,k+i=m.length/\L=[.int .i64 (i:Int)]/\(∀ j,j<i->l[j]? = m[j]?)/\D0 H nx H' nx') ?_ ⟨0,by omega,rfl,fun j hj=>by omega,D0.refl _ _⟩
 rintro k ih L H1 nx1 ⟨i,hk,rfl,hall,hE1⟩ hih
 by_cases hi:i<m.length
 .have hi':(i:Int)<(m.length:Int):=by omega
  obtain⟨x,hx⟩:∃ x,l[i]? = some x:=⟨_,List.getElem?_eq_getElem (by omega)⟩
  obtain⟨y,hy⟩:∃ y,m[i]? = some y:=⟨_,List.getElem?_eq_getElem hi⟩
  obtain⟨b,o,row,rfl,_,hrow,hget⟩:=(hA.ext hE1).open (i:=i) (by rw[W5];omega)
  obtain⟨b',o',row',rfl,_,hrow',hget'⟩:=(hB.ext hE1).open (i:=i) (by rw[W5];omega)
  have q0:=hget _ _ (U17 hx)
  have q0':=hget' _ _ (U17 hy)
  have hil:i<l.length:=by omega
  by_cases hxy:x=y
  .subst hxy
   simp (disch:=first|omega|assumption) only[W0,hi',Y3 hrow,q0,Y3 hrow',q0',ne_eq,not_true_eq_false]
   refine hih (k-1) _ _ _ (by omega) ⟨i+1,by omega,by simp,fun j hj => ?_,hE1.more (by omega)⟩
   by_cases e:j=i
   .subst e;rw[hx,hy]
   .exact hall j (by omega)
  .simp (disch:=first|omega|assumption) only[W0,hi',Y3 hrow,q0,Y3 hrow',q0',ne_eq,hxy,not_false_eq_true]
   refine⟨?_,hE1.more (by omega)⟩
   have:l≠m:=fun e=>hxy (by rw[e,hy] at hx;cases hx;rfl)
   simp[this]
 .have hi':¬ (i:Int)<(m.length:Int):=by omega
  simp (disch:=first|omega|assumption) only[W0,hi']
  refine⟨?_,hE1⟩
  have:l=m:=by
   apply List.ext_getElem?
   intro j
   by_cases hj:j<m.length
   .exact hall j (by omega)
   .rw[List.getElem?_eq_none (by omega),List.getElem?_eq_none (by omega)]
  simp[this]
theorem E87 {f n:Nat} (hf:f<=n) (hn:n<=32):J2 Tryd.prog 15 [.int .i64 (f:Int),.int .i64 (n:Int),.slice none 0 0] H nx fun r H' nx'=>Q6 nx H' nx' 1 r (n-f) (R3 (upK f (n-f)))/\D0 H nx H' nx':=by
 refine spec15 ?_
 unfold F15
 refine E1 (m:=n-f) (fun m L H' nx'=>∃ i v,m+i=n-f/\L=[v,.int .i64 ((f+i:Nat):Int)]/\Q6 nx H' nx' 1 v i (R3 (upK f i))/\D0 H nx H' nx') ?_
  ⟨0,.slice none 0 0,by omega,by simp,Q6.nil _ _ _ _,D0.refl _ _⟩
 rintro m ih1 L1 H2 nx2 ⟨i,v,hm,rfl,hA,hE2⟩ hih
 have hle2:=hE2.le
 have hbs:∀ (x:Int) k,G7 1 1 [.int .i64 0] [(0,.int .i64 x)] k=k [.int .i64 x]:=fun x k=>rfl
 by_cases hi:i<n-f
 .have hi':((f+i:Nat):Int)<(n:Int):=by omega
  simp (config:={ maxSteps:=2000000 }) (disch:=first|omega|assumption) only[W0,B0.val,hi',hbs]
  have hE3:D0 H2 nx2 (hs H2 nx2 (some (.cells [.int .i64 ((f+i:Nat):Int)] 0))) (nx2+1):=(D0.refl _ _).new _ (Nat.le_refl _) (by omega)
  refine N16 (H0:=H) (lo:=nx) (m:=1) (l:=[.int .i64 ((f+i:Nat):Int)]) (by omega) (hA.ext hE3) (Z8 (Q0 _ _ _) rfl (by omega)) (by omega) rfl (by omega) (by omega) (hE2.trans hE3) (by omega) ?_
  intro v' H' hA' hE' _
  refine hih (m-1) _ _ _ (by omega) ⟨i+1,v',by omega,by simp;omega,?_,hE'⟩
  have e:R3 (upK f (i+1))=R3 (upK f i)++[.int .i64 ((f+i:Nat):Int)]:=by rw[Y66,E34];rfl
  rw[e];exact hA'
 have hi':¬ ((f+i:Nat):Int)<(n:Int):=by omega
 obtain rfl:i=n-f:=by omega
 obtain⟨A,rfl,_⟩:=hA.sl
 simp (config:={ maxSteps:=2000000 }) (disch:=first|omega|assumption) only[W0,B0.val,hi']
 refine E1 (m:=0) (fun m L H' nx'=>m=0/\L=[.int .i64 0]/\H2=H'/\nx2=nx') ?_ ⟨rfl,rfl,rfl,rfl⟩
 rintro m ih L _ _ ⟨rfl,rfl,rfl,rfl⟩ hih2
 have h00:¬ (0:Int)<((0:Nat):Int):=by omega
 simp (config:={ maxSteps:=2000000 }) (disch:=first|omega|assumption) only[W0,h00]
 exact⟨hA,hE2⟩
end Go.Proofs.YtpiobdofbhkmjaaDoor

namespace Go.Clo
theorem R70 {x y:Rat}:0<Q11 x y<->y<x:=by
 have:=@G43 x y
 constructor
 .intro h
  have:¬ x<=y:=fun hh=>by have:=this.2 hh;omega
  grind
 .intro h
  refine Classical.byContradiction fun hn => ?_
  have:=this.1 (by omega)
  grind
end Go.Clo
namespace Go.Proofs.YtpiobdofbhkmjaaDoor
open Go.Clo
theorem K62 {es:List Nat} {N:Nat} {bs:List Bag} {i:Nat} {b:Bag} (h:bs[i]? = some b):wdI es N bs (i+1)=gr (wdI es N bs i) (M10 es N (X6 b)):=by
 unfold wdI
 rw[K9 h,List.foldl_append];rfl
theorem V42 {es:List Nat} {N:Nat} {bs:List Bag} (h:es.length<=8):∀ i,i<=bs.length->X4 (wdI es N bs i) 100000
 | 0,_=>Y20 _ (by omega)
 | i+1,hi=>by
  rw[K62 (List.getElem?_eq_getElem (show i<bs.length by omega))]
  exact Z24 (V42 h i (by omega)) (Y38 es N _ h)
set_option maxHeartbeats 4000000 in
theorem J86 {H:Y0} {nx N cap capB:Nat} {A B:Option Addr} {es:List Nat} {bs:List Bag} (hS:Sl H nx A (N1 es)) (hB:Sl H nx B (M8 bs)) (hbl:bs.length=N) (hN:N<=6) (hsm:∀ e ∈ es,e<2^N) (hle:es.length<=8)
  (hbs:∀ b ∈ bs,b.key<4294967296/\X6 b<2^N/\0<(Y4 N (X6 b)).length) (hcov:∀ w,w<N->∃ e ∈ es,e.testBit w=true):
  J2 Tryd.prog 18 [gv N A es.length cap,.slice B N capB] H nx fun r H' nx'=>D0 H nx H' nx'/\∃ c C,r = .tuple ⟨[.agg ⟨c⟩,C,.int .i64 0]⟩/\RR H' nx' (.agg ⟨c⟩) (wdI es N bs N):=by
 have hp64:2^N<=64:=Nat.pow_le_pow_right (n:=2) (by omega) hN
 have hsm32:Z4 es:=fun e he=>by have:=hsm e he;omega
 have hgc:R8 N es=0:=W14 (by omega) (by omega) fun i e he=>hsm e (List.mem_of_getElem? he)
 refine spec18 ?_
 unfold F18
 simp (config:={ maxSteps:=2000000 }) (disch:=first|omega|assumption) only[W0,Z0,B0.val,J3]
 generalize hK:hs (hs H nx (some (.cells [.int .i64 N,.slice A es.length cap] 0))) (nx+1) (some (.cells [.bool false,.slice none 0 0,.slice none 0 0] 0))=K
 have k2:X0 K nx=some (.cells [.int .i64 N,.slice A es.length cap] 0):=by rw[<- hK,M0 _ (by omega),Q0]
 have k4:X0 K (nx+1)=some (.cells [.bool false,.slice none 0 0,.slice none 0 0] 0):=by rw[<- hK,Q0]
 have hEK:D0 H nx K (nx+1+1):=by
  rw[<- hK];exact (((D0.refl H nx).new _ (by omega) (by omega):D0 H nx _ (nx+1)).new _ (by omega) (by omega))
 clear hK
 refine K0 (Y24 N A es cap _ _ (hS.ext hEK) hsm32) ?_
 rintro _ H3 nx3 ⟨rfl,hE3⟩
 have d1:decide (R8 N es≠0)=false:=by simp[hgc]
 have g2:=(hE3.get nx (by omega)).trans k2
 have g4:=(hE3.get (nx+1) (by omega)).trans k4
 have hle3:=hE3.le
 simp (config:={ maxSteps:=2000000 }) (disch:=first|omega|assumption) only[W0,d1,g2,ne_eq,not_true_eq_false]
 refine K0 (V16 (n:=0) (by omega) (by omega) _ _) ?_
 rintro r6 H6 q8 ⟨hr6,hE6⟩
 obtain⟨c6,rfl,hc6⟩:=hr6.num
 have hle6:=hE6.le
 have hE7:D0 H6 q8 (hs (hs H6 q8 (some (.cells [.bool false,.slice none 0 0,.slice none 0 0] 0))) q8 (some (.cells c6 0))) (q8+1):=((D0.refl _ _).new _ (Nat.le_refl _) (m:=q8+1) (by omega)).hs (Nat.le_refl _)
 have g78:X0 (hs (hs H6 q8 (some (.cells [.bool false,.slice none 0 0,.slice none 0 0] 0))) q8 (some (.cells c6 0))) q8=some (.cells c6 0):=Q0 _ _ _
 have hr7:=hr6.ext hE7
 simp (config:={ maxSteps:=2000000 }) (disch:=first|omega|assumption) only[W0,Nat.reduceAdd,hc6.three,hc6.one,Z5 (show c6.length=[Value.bool false,.slice none 0 0,.slice none 0 0].length from hc6.three)]
 generalize hs (hs H6 q8 (some (.cells [.bool false,.slice none 0 0,.slice none 0 0] 0))) q8 (some (.cells c6 0))=K8 at *
 have hE06:=(hEK.trans hE3).trans hE6
 have hE08:=hE06.trans hE7
 have g82:=((hE6.trans hE7).get nx (by omega)).trans g2
 have g84:=((hE6.trans hE7).get (nx+1) (by omega)).trans g4
 have hr8:RR (U8 K8 [q8]) (q8+1) (.agg ⟨c6⟩) 0:=(hr6.ext (U53 hE7 fun q hq=>by simp at hq;omega))
 refine E1 (m:=N) (fun m L H' m'=>∃ (i:Nat) (v:Value) (cc c8:List Value),m+i=N/\L=[v,.int .i64 (i:Int)]/\Q6 (q8+1) H' m' 5 v i cc/\G9 c8/\X0 H' q8=some (.cells c8 0)/\RR (U8 H' [R4 q8 v]) m' (.agg ⟨c8⟩) (wdI es N bs i)/\D0 K8 q8 H' m'/\q8+1<=m') ?_
  ⟨0,.slice none 0 0,[],c6,by omega,rfl,Q6.nil _ _ _ _,hc6,g78,hr8,D0.self (by omega),Nat.le_refl _⟩
 rintro m ih L H9 m9 ⟨i,v,cc,c8,hm,rfl,hA,hc8,g98,hr9,hE9,hle9⟩ hih
 have hE89:D0 H6 q8 H9 m9:=hE7.thru hE9
 have g92:=(hE9.get nx (by omega)).trans g82
 have g94:=(hE9.get (nx+1) (by omega)).trans g84
 have hE09:=hE06.trans hE89
 by_cases hi:i<N
 case neg=>
  obtain rfl:i=N:=by omega
  have hi':¬ (i:Int)<(i:Int):=by omega
  obtain⟨C,rfl,_⟩:=hA.sl
  simp (config:={ maxSteps:=2000000 }) (disch:=first|omega|assumption) only[W0,Nat.reduceAdd,hi',g98,Q3 hc8,g94,hc8.three,hc8.one,Z5 (show c8.length=[Value.bool false,.slice none 0 0,.slice none 0 0].length from hc8.three)]
  refine⟨hE09.hs (by omega),c8,_,rfl,?_⟩
  exact (hr9.sub fun i b _ h=>X12 i b h).boxs g94 (X8 rfl) (.inl rfl)
 have hi':(i:Int)<(N:Int):=by omega
 obtain⟨b,hb⟩:∃ b,bs[i]? = some b:=⟨_,List.getElem?_eq_getElem (by omega)⟩
 obtain⟨hbk,hset,hpos⟩:=hbs b (List.mem_of_getElem? hb)
 obtain⟨Bb,o,row,rfl,hBn,hrow,hget⟩:=(hB.ext hE09).open (i:=i*3) (by rw[Z42];omega)
 have hopen:∀ j v,(M8 bs)[j]? = some v->row[o+j]? = some v:=fun j v h=>by
  obtain⟨b1,o1,row1,e1,_,e3,e4⟩:=(hB.ext hE09) j v h
  cases e1
  rw[hrow] at e3;cases e3
  exact e4
 have c0:=hopen _ _ (Z19 hb 0 (.int .i64 b.var) rfl)
 have c1:=hopen _ _ (Z19 hb 1 (.int .u32 (b.key:Int)) rfl)
 have c2:=hopen _ _ (Z19 hb 2 (.int .i64 b.par) rfl)
 rw[Nat.add_zero] at c0
 rw[<- Nat.add_assoc] at c1 c2
 simp (config:={ maxSteps:=2000000 }) (disch:=first|omega|assumption) only[W0,Z0,Nat.reduceAdd,hi',Y3 hrow,E71 c0 c1 c2,G5,D3,g92,J3]
 generalize hK10:hs (hs H9 m9 (some (.cells [.int .i64 0,.int .u32 0,.int .i64 0] 0))) m9 (some (.cells [.int .i64 b.var,.int .u32 (b.key:Int),.int .i64 b.par] 0))=K10
 have kE:D0 H9 m9 K10 (m9+1+10):=by rw[<- hK10];exact (((D0.refl H9 m9).new _ (Nat.le_refl _) (by omega):D0 H9 m9 _ (m9+1+10)).hs (Nat.le_refl _))
 have kB:X0 K10 m9=some (.cells [.int .i64 b.var,.int .u32 (b.key:Int),.int .i64 b.par] 0):=by rw[<- hK10,Q0]
 have kG:=(kE.get nx (by omega)).trans g92
 clear hK10
 refine K0 (Y90 (b:=b) hbk K10 (m9+1+10)) ?_
 rintro _ H13 m13 ⟨rfl,hE13⟩
 have hE913:=kE.trans hE13
 have hle13:=hE913.le
 have hle13b:=hE13.le
 have g132:=(hE913.get nx (by omega)).trans g92
 have hqlt:R4 q8 v<m9:=B20 hA (by omega)
 have hqge:q8<=R4 q8 v:=by
  rcases W8 hA (d:=q8) with ⟨_,_,e⟩ | ⟨q,_,e,h1,_,_⟩<;>omega
 obtain⟨qs,hqsd⟩:∃ qs,qs=[R4 q8 v,m9+1+7]:=⟨_,rfl⟩
 have hqm:∀ q,q ∈ qs<->q=R4 q8 v\/q=m9+1+7:=fun q=>by rw[hqsd];simp
 have hqs:∀ q ∈ qs,q<m13:=fun q hq=>by rcases (hqm q).1 hq with h | h<;>omega
 have hES:D0 H nx (U8 H13 qs) m13:=U53 (hE09.trans hE913) fun q hq=>by rcases (hqm q).1 hq with h | h<;>omega
 refine R16 (qs:=qs) hqs (K89 (by omega) (hS.ext hES) hsm hle hset hpos (fun w hw=>hcov w (X11 hset hw))) (fun _ _ _ h=>h.1) ?_
 rintro _ H14 m14 H0 ⟨hX14,AW,AP,lw,cw,lp,cp,t,Az,Cz,l,kk1,l',kk2,rfl,hz⟩ hE14 hS14 _
 have hE914:=hE913.trans hE14
 have hle14:=hE914.le
 have hput5:∀ (a b c d e a' b' c' d' e':Value),G6 [a,b,c,d,e] 0 [a',b',c',d',e']=[a',b',c',d',e']:=fun _ _ _ _ _ _ _ _ _ _=>rfl
 have h7lt:m9+1+7<m14:=by have:=hE13.le;have:=hE14.le;omega
 have g142:=(hE914.get nx (by omega)).trans g92
 have g148:=(hE914.get q8 (by omega)).trans g98
 have hle1314:=hE14.le
 simp (config:={ maxSteps:=2000000 }) (disch:=first|omega|assumption) only[W0,Z0,Nat.reduceAdd,hput5,g132,J3,ne_eq,not_true_eq_false]
 generalize hK16:hs (hs H14 (m9+1+7) (some (.cells [.slice none 0 0,.slice none 0 0,.bool false,.slice none 0 0,.slice none 0 0] 0))) (m9+1+7) (some (.cells [.slice AW lw cw,.slice AP lp cp,.bool t,.slice Az l kk1,.slice Cz l' kk2] 0))=K16
 have s12:X0 K16 (m9+1+7)=some (.cells [.slice AW lw cw,.slice AP lp cp,.bool t,.slice Az l kk1,.slice Cz l' kk2] 0):=by rw[<- hK16,Q0]
 have hE916:D0 H9 m9 K16 m14:=by rw[<- hK16];exact (hE914.hs (by omega)).hs (by omega)
 have hout:∀ q,q ∉ qs->X0 K16 q=X0 H14 q:=fun q hq=>by
  have h7:q≠m9+1+7:=fun e=>hq ((hqm q).2 (.inr e))
  rw[<- hK16,M0 _ h7,M0 _ h7]
 have hz16:RR (U8 K16 qs) m14 (.agg ⟨[.bool t,.slice Az l kk1,.slice Cz l' kk2]⟩) (M10 es N (X6 b)):=(hz.sub hS14).sub (R13 (fun q _ hq=>hout q hq) fun q hq => .inl hq)
 have hr16:RR (U8 K16 qs) m14 (.agg ⟨c8⟩) (wdI es N bs i):=(hr9.sub (R13 (fun q hq hn=>hE916.get q hq) fun q hq=>by
  rcases (hqm q).1 hq with h | h
  .left;simp[h]
  .right;omega)).ext (D0.self hle14)
 have hA16:=hA.ext hE916
 have g168:=(hE916.get q8 (by omega)).trans g98
 have hwS:=V42 (es:=es) (N:=N) (bs:=bs) hle i (by omega)
 have hcS:X4 (M10 es N (X6 b)) 100000:=Y38 es N _ hle
 have hnext:=K62 (es:=es) (N:=N) hb
 clear hK16
 have hqs14:∀ q ∈ qs,q<m14:=fun q hq=>by have:=hqs q hq;omega
 refine J6 (fun L' H' m'=>L'=[]/\∃ c8',G9 c8'/\X0 H' q8=some (.cells c8' 0)/\X0 H' (m9+1+7)=some (.cells [.slice AW lw cw,.slice AP lp cp,.bool t,.slice Az l kk1,.slice Cz l' kk2] 0)/\RR (U8 H' qs) m' (.agg ⟨c8'⟩) (gr (wdI es N bs i) (M10 es N (X6 b)))/\Q6 (q8+1) H' m' 5 v i cc/\D0 K8 q8 H' m'/\m14<=m') (fun j hj => ?_) ?_
 case refine_1=>
  simp (config:={ maxSteps:=2000000 }) (disch:=first|omega|assumption) only[W0,X41,g148,Q3 hc8]
  refine R16 (qs:=qs) hqs14 (N20 hz16 hr16 hcS hwS) (fun _ _ _ h=>h.2) ?_
  rintro _ H19 m19 H00 ⟨rfl,hX19⟩ hE19 hS19 _
  have hle19:=hE19.le
  have g198:=(hE19.get q8 (by omega)).trans g168
  have s192:=(hE19.get (m9+1+7) (by omega)).trans s12
  have hE819:D0 K8 q8 H19 m19:=⟨by omega,fun q hq=>(hE19.get q (by omega)).trans ((hE916.get q (by omega)).trans (hE9.get q hq))⟩
  by_cases hlt:wdI es N bs i<M10 es N (X6 b)
  .have hg:=R70.2 hlt
   have hgr:gr (wdI es N bs i) (M10 es N (X6 b))=M10 es N (X6 b):=if_pos hlt
   rw[hgr] at hj
   simp (config:={ maxSteps:=2000000 }) (disch:=first|omega|assumption) only[W0,hg,s192,X41]
   have hz19:=(hz16.ext (hE19.er qs))
   refine R16 (qs:=qs) (fun q hq=>by have:=hqs14 q hq;omega) (J13 hz19 ⟨by have:=hcS.1;omega,by have:=hcS.2;omega⟩) (fun _ _ _ h=>h.2) ?_
   rintro r20 H20 m20 H000 ⟨hr20,hX20⟩ hE20 hS20 _
   obtain⟨c20,rfl,hc20⟩:=hr20.num
   have hle20:=hE20.le
   have g208:=(hE20.get q8 (by omega)).trans g198
   have s202:=(hE20.get (m9+1+7) (by omega)).trans s192
   have hr20':=hr20.sub hS20
   have hq8:q8 ∉ qs\/q8 ∈ qs:=by by_cases h:q8 ∈ qs;exact .inr h;exact .inl h
   simp (config:={ maxSteps:=2000000 }) (disch:=first|omega|assumption) only[W0,hc20.three,hc20.one,g208,Z5 (show c20.length=c8.length by rw[hc20.three,hc8.three])]
   refine⟨by rw[hc8.three];omega,hj _ _ _ ⟨rfl,c20,hc20,Q0 _ _ _,by rw[M0 _ (by omega)];exact s202,?_,(hA16.ext (hE19.trans hE20)).low (by omega) _,(D0.hs (⟨by omega,fun q hq=>(hE20.get q (by omega)).trans (hE819.get q hq)⟩:D0 K8 q8 H20 m20) (Nat.le_refl _)),by omega⟩⟩
   rcases hq8 with h | h
   .have hg8:X0 (U8 H20 qs) q8=some (.cells c8 0):=by rw[W11 h];exact g208
    refine (hr20'.boxs (row':=c20) hg8 (D23 hc8) (.inl rfl) (s':=0)).sub fun q x _ hx => ?_
    rw[W7] at hx
    by_cases e:q=q8
    .subst e
     rw[if_pos rfl] at hx
     rw[W11 h,Q0];exact hx
    .rw[if_neg e] at hx
     by_cases hm:q ∈ qs
     .rw[V19 hm] at hx;cases hx
     .rw[W11 hm] at hx ⊢
      rw[M0 _ e];exact hx
   .exact hr20'.sub (R13 (fun q _ hq=>M0 _ (fun e=>hq (e ▸ h))) fun q hq => .inl hq)
  .have hg:¬ Q11 (M10 es N (X6 b)) (wdI es N bs i) > 0:=fun h=>hlt (R70.1 h)
   have hgr:gr (wdI es N bs i) (M10 es N (X6 b))=wdI es N bs i:=if_neg hlt
   rw[hgr] at hj
   simp (config:={ maxSteps:=2000000 }) (disch:=first|omega|assumption) only[W0,hg]
   exact hj _ _ _ ⟨rfl,c8,hc8,g198,s192,hr16.ext (hE19.er qs),hA16.ext hE19,hE819,by omega⟩
 rintro _ H18 m18 ⟨rfl,c18,hc18,g188,s182,hr18,hA18,hE18,hle18⟩
 have hbs5:∀ k,G7 1 5 [.slice none 0 0,.slice none 0 0,.bool false,.slice none 0 0,.slice none 0 0] [(0,.agg ⟨[.slice AW lw cw,.slice AP lp cp,.bool t,.slice Az l kk1,.slice Cz l' kk2]⟩)] k=k [.slice AW lw cw,.slice AP lp cp,.bool t,.slice Az l kk1,.slice Cz l' kk2]:=fun k=>rfl
 simp (config:={ maxSteps:=2000000 }) (disch:=first|omega|assumption) only[W0,s182,Y78,R45,hbs5]
 have hE22:D0 H18 m18 (hs H18 m18 (some (.cells [.slice AW lw cw,.slice AP lp cp,.bool t,.slice Az l kk1,.slice Cz l' kk2] 0))) (m18+1):=(D0.refl _ _).new _ (Nat.le_refl _) (by omega)
 have hg22:X0 (hs H18 m18 (some (.cells [.slice AW lw cw,.slice AP lp cp,.bool t,.slice Az l kk1,.slice Cz l' kk2] 0))) m18=some (.cells [.slice AW lw cw,.slice AP lp cp,.bool t,.slice Az l kk1,.slice Cz l' kk2] 0):=Q0 _ _ _
 generalize hs H18 m18 (some (.cells [.slice AW lw cw,.slice AP lp cp,.bool t,.slice Az l kk1,.slice Cz l' kk2] 0))=H22 at *
 refine V15 (lo:=q8+1) (d:=m18+1) (m:=1) (l:=[.slice AW lw cw,.slice AP lp cp,.bool t,.slice Az l kk1,.slice Cz l' kk2]) (by omega) (hA18.ext hE22) (Z8 hg22 rfl (by omega)) (by omega) rfl (by omega) (by omega) ?_
 intro H23 hg23 hne
 have hA22:=hA18.ext hE22
 have hne2:∀ q,q≠m18+1->q ∉ qs\/q<=q8->X0 H23 q=X0 H22 q:=by
  intro q h1 h2
  rcases W8 hA22 (d:=q8) with ⟨e0,_,_⟩ | ⟨bb,e0,e,h3,h4,_⟩
  .refine hne q h1 ?_
   rw[e0];exact h1
  .refine hne q h1 ?_
   rw[e0]
   show q≠bb
   rcases h2 with h2 | h2
   .exact fun e2=>h2 ((hqm q).2 (.inl (by rw[e,e2])))
   .omega
 refine hih (m-1) _ _ _ (by omega) ⟨i+1,.slice (some ⟨m18+1,0,none⟩) (i+1) (i+1),cc++[.slice AW lw cw,.slice AP lp cp,.bool t,.slice Az l kk1,.slice Cz l' kk2],c18,by omega,by simp,?_,hc18,?_,?_,⟨by omega,fun q hq => ?_⟩,by omega⟩
 .refine X22 ?_ (by omega) (by omega) hg23
  have:=hA22.1
  rw[List.length_append,this]
  simp;omega
 .rw[hne2 q8 (by omega) (.inr (Nat.le_refl _))]
  exact (hE22.get q8 (by omega)).trans g188
 .rw[hnext]
  refine ((hr18.ext (hE22.er qs)).sub (R13 (fun q hq hn=>hne2 q (by omega) (.inl hn)) fun q hq => ?_)).ext (D0.self (by omega))
  right
  simp[R4] at hq
  omega
 .rw[hne2 q (by omega) (.inr (by omega)),hE22.get q (by omega)]
  exact hE18.get q hq
end Go.Proofs.YtpiobdofbhkmjaaDoor
