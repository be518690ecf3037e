/-
  Contracts: simplex.objective,point,dual.
  Contracts: simplex.valid,Solve.
  Maps from u32 to values;a heap without some blocks.
  Plain facts on sets of vertices as numbers.
-/
import Derived.Test.YtpiobdofbhkmjaaDoorL32
import Derived.Test.YtpiobdofbhkmjaaDoorL31
import Derived.Test.YtpiobdofbhkmjaaDoorL16
import Derived.MapKept
import GoSem.Claim
import Derived.Laws.BitsAllLaws
set_option linter.unusedSimpArgs false
set_option linter.unusedVariables false
set_option linter.unusedSectionVars false
namespace Go.Proofs.YtpiobdofbhkmjaaDoor
open Go.Clo
variable {H:Y0} {T:Lp.Tab} {bb br cb cr gb lo m n nx p sb sr:Nat} {bs:List Nat}
theorem Q64 {Hc:Y0} {cC:Nat} {a:Nat->Nat->Rat} {AC:Option Addr} (h:TQ H nx lo p n m br cr bb cb sr sb bs a (fun r=>n+r)) (hn:1<=n) (hn20:n<=20) (hm0:1<=m) (hm:m<=20)
  (hC:RSl Hc lo AC n (fun _=>1)) (hEc:D0 Hc lo H nx):
  J2 Tryd.prog 79 [.pointer (some ⟨p,0,none⟩),.slice AC n cC] H nx fun v H' nx'=>v = .tuple ⟨[]⟩/\nx<=nx'/\D0 H lo H' nx' /\
   ∃ gb,TV H' nx' lo p n m br cr gb bb cb sr sb bs ⟨a,fun t=>if t<n then -1 else 0,fun r=>n+r⟩:=by
 obtain⟨bC,oC,rwC,rfl,hbC,hrwC,hgetC⟩:=hC.open (by omega)
 have hpn:=h.pn
 have hlon:=hEc.le
 have hlop:=h.lop
 refine spec79 ?_
 unfold F79
 refine K0 (C24 h.hp (by omega) (by omega)) ?_
 rintro _ H nx1 ⟨rfl,rfl,hle1⟩
 simp (disch:=first|omega|assumption) only[W0]
 rw[show ((n+m+1:Nat):Int)+1=((n+m+2:Nat):Int) by omega]
 refine K0 (M37 (n:=n+m+2) (by omega) _ _) ?_
 rintro _ H2 nx2 ⟨rfl,hrb,hE2⟩
 have hle2:=hE2.le
 have hp2:=(hE2.get p (by omega)).trans h.hp
 have hset3:∀ (x y:Int) (A C D v:Value),G6 [.int .i64 x,.int .i64 y,A,C,D] 3 [v]=[.int .i64 x,.int .i64 y,A,v,D]:=fun _ _ _ _ _ _=>rfl
 have hro2:=hrb.ro
 rw[List.length_replicate] at hro2
 have hn12:nx1<nx2:=hro2.choose_spec.2.1
 simp (disch:=first|omega|assumption) only[W0,Nat.reduceAdd,Nat.reduceLeDiff,hp2,hset3]
 have htg:TG (hs H p (some (.cells [.int .i64 (n:Int),.int .i64 (m:Int),.slice (some ⟨br,0,none⟩) m cr,.slice (some ⟨nx1,0,none⟩) (n+m+2) (n+m+2),.slice (some ⟨bb,0,none⟩) m cb] 0))) nx lo p n m br cr (.slice (some ⟨nx1,0,none⟩) (n+m+2) (n+m+2)) bb cb sr sb bs a (fun r=>n+r):=h.tg (by omega)
 have htg1:=htg.ext (D0.self hle1)
 have hEc1:D0 Hc lo (hs H p (some (.cells [.int .i64 (n:Int),.int .i64 (m:Int),.slice (some ⟨br,0,none⟩) m cr,.slice (some ⟨nx1,0,none⟩) (n+m+2) (n+m+2),.slice (some ⟨bb,0,none⟩) m cb] 0))) nx1:=(hEc.more hle1).hs h.lop
 have hEH1:D0 H lo (hs H p (some (.cells [.int .i64 (n:Int),.int .i64 (m:Int),.slice (some ⟨br,0,none⟩) m cr,.slice (some ⟨nx1,0,none⟩) (n+m+2) (n+m+2),.slice (some ⟨bb,0,none⟩) m cb] 0))) nx1:=(D0.self (by omega)).hs h.lop
 have hEb:D0 (hs H p (some (.cells [.int .i64 (n:Int),.int .i64 (m:Int),.slice (some ⟨br,0,none⟩) m cr,.slice (some ⟨nx1,0,none⟩) (n+m+2) (n+m+2),.slice (some ⟨bb,0,none⟩) m cb] 0))) nx1
   (hs H2 p (some (.cells [.int .i64 (n:Int),.int .i64 (m:Int),.slice (some ⟨br,0,none⟩) m cr,.slice (some ⟨nx1,0,none⟩) (n+m+2) (n+m+2),.slice (some ⟨bb,0,none⟩) m cb] 0))) nx2:=⟨hle2,fun i hi=>by
  rw[W7,W7]
  split
  .rfl
  .exact hE2.get i hi⟩
 obtain⟨css0,g30,_,hl0,hx0⟩:=hro2.boxs (s':=0) (l':=[.int .i64 (n:Int),.int .i64 (m:Int),.slice (some ⟨br,0,none⟩) m cr,.slice (some ⟨nx1,0,none⟩) (n+m+2) (n+m+2),.slice (some ⟨bb,0,none⟩) m cb]) (by omega) hp2 (Q61 _ _ _ _ _ _ _ _ _ _ _) (.inl rfl)
 generalize hs H2 p (some (.cells [.int .i64 (n:Int),.int .i64 (m:Int),.slice (some ⟨br,0,none⟩) m cr,.slice (some ⟨nx1,0,none⟩) (n+m+2) (n+m+2),.slice (some ⟨bb,0,none⟩) m cb] 0))=H3 at *
 generalize hs H p (some (.cells [.int .i64 (n:Int),.int .i64 (m:Int),.slice (some ⟨br,0,none⟩) m cr,.slice (some ⟨nx1,0,none⟩) (n+m+2) (n+m+2),.slice (some ⟨bb,0,none⟩) m cb] 0))=Hb at *
 refine E1 (m:=n) (fun k L H' nx'=>∃ (j:Nat) (css:List (List Value)),k+j=n/\L=[.int .i64 (j:Int)]/\D0 Hb nx1 H' nx'/\nx2<=nx'/\X0 H' nx1=some (.cells css.flatten 0)/\css.length=n+m+2/\RX H' nx' css (fun t=>if t<j then -1 else 0)) ?_
  ⟨0,css0,by omega,rfl,hEb,Nat.le_refl _,g30,hl0,fun q c hc=>by
   have:=hx0 q c hc
   have hq:=(List.getElem?_eq_some_iff.1 hc).1
   simp only[List.getD_eq_getElem?_getD,List.getElem?_replicate] at this
   rw[if_pos (by omega)] at this
   simpa using this⟩
 rintro k ih L H4 nx4 ⟨j,css,hk,rfl,hE4,hnx4,g4,hlen,hX4⟩ hih
 have h4:=htg1.ext hE4
 have hEc4:=hEc1.both (hE4.less (by omega))
 by_cases hj:j<n
 .have hj':(j:Int)<(n:Int):=by omega
  obtain⟨cc,hccT,hccR,hld⟩:=hgetC j hj
  have hrC:V3 H4 bC=some rwC:=(hEc4.row hbC).trans hrwC
  simp (disch:=first|omega|assumption) only[W0,hj',h4.hp,Y3 hrC,hld]
  have hE4':D0 H4 nx4 H4 (nx4+12):=D0.self (by omega)
  refine K0 (C83 ((hccR.ext hEc4).ext hE4') (B41 _ (by omega))) ?_
  rintro r H6 nx6 ⟨hr,hE6⟩
  have hE46:=hE4'.trans hE6
  have h6:=h4.ext hE46
  have hle6:=hE46.le
  have g6:=(hE46.get nx1 (by omega)).trans g4
  have hX6:=hX4.ext hE46
  obtain⟨rc,rfl,hrc⟩:=hr.num
  rw[Nat.mul_comm j 3,E21 g6 hX6.tri hrc (by omega)]
  simp (disch:=first|omega|assumption) only[W0,h6.hp]
  refine hih (k-1) _ _ _ (by omega) ⟨j+1,css.set j rc,by omega,by simp,(hE4.trans hE46).hs (Nat.le_refl _),by omega,Q0 _ _ _,by simp[hlen],hX6.put g6 hr (by omega) (by rw[if_pos (by omega)]) (fun q hq => ?_)⟩
  by_cases h1:q<j
  .rw[if_pos h1,if_pos (by omega)]
  .rw[if_neg h1,if_neg (by omega)]
 obtain rfl:j=n:=by omega
 have hj':¬ (j:Int)<(j:Int):=by omega
 simp (disch:=first|omega|assumption) only[W0,hj',h4.hp]
 refine E1 (m:=m) (fun k L H' nx'=>∃ i:Nat,k+i=m/\L=[.int .i64 (i:Int)]/\H4=H'/\nx4=nx') ?_ ⟨0,by omega,rfl,rfl,rfl⟩
 rintro k2 ih2 L2 _ _ ⟨i,hk2,rfl,rfl,rfl⟩ hih2
 by_cases hi:i<m
 .have hi':(i:Int)<(m:Int):=by omega
  have hbi:¬ ((j+i:Nat):Int)<(j:Int):=by omega
  rw[K3]
  simp (disch:=first|omega|assumption) only[W0,hi',h4.hb,Q19 hi,h4.hp,hbi]
  exact hih2 (k2-1) _ _ _ (by omega) ⟨i+1,by omega,by simp,rfl,rfl⟩
 have hi':¬ (i:Int)<(m:Int):=by omega
 simp (disch:=first|omega|assumption) only[W0,hi']
 exact⟨by omega,hEH1.both (hE4.less (by omega)),nx1,h4.tv ⟨css,g4,by omega,hlen,hX4⟩⟩
theorem J85 (h:TV H nx lo p n m br cr gb bb cb sr sb bs T) (hn:n<=20) (hm:m<=20):
  J2 Tryd.prog 81 [.pointer (some ⟨p,0,none⟩)] H nx fun v H' nx'=>∃ b,v = .slice (some ⟨b,0,none⟩) n n/\nx<=b/\b<nx'/\TC H' b n/\D0 H nx H' nx':=by
 refine spec81 ?_
 unfold F81
 have hp0:=h.hp
 unfold N11 at hp0
 simp (disch:=first|omega|assumption) only[W0,hp0]
 refine K0 (M37 (n:=n) (by omega) _ _) ?_
 rintro _ H1 nx1 ⟨rfl,hrb,hE1⟩
 have hro:=hrb.ro
 rw[List.length_replicate] at hro
 obtain⟨css0,g0,hn01,hl0,hx0⟩:=hro
 have h1:=h.ext hE1
 have hp1:=h1.hp
 unfold N11 at hp1
 simp (disch:=first|omega|assumption) only[W0,hp1]
 refine E1 (m:=m) (fun k L H' nx'=>∃ (i:Nat) (css:List (List Value)),k+i=m/\L=[.int .i64 (i:Int)]/\D0 H nx H' nx'/\nx<nx'/\X0 H' nx=some (.cells css.flatten 0)/\css.length=n/\∀ c ∈ css,G9 c) ?_
  ⟨0,css0,by omega,rfl,hE1,hn01,g0,hl0,hx0.tri⟩
 rintro k ih L H2 nx2 ⟨i,css,hk,rfl,hE2,hnx2,g2,hlen,htri⟩ hih
 have h2:=h.ext hE2
 have hp2:=h2.hp
 unfold N11 at hp2
 by_cases hi:i<m
 case neg=>
  have hi':¬ (i:Int)<(m:Int):=by omega
  simp (disch:=first|omega|assumption) only[W0,hi']
  exact⟨nx,rfl,Nat.le_refl _,hnx2,⟨css,g2,hlen,htri⟩,hE2⟩
 have hi':(i:Int)<(m:Int):=by omega
 rw[K3]
 by_cases hb:T.B i<n
 .have hb':(T.B i:Int)<(n:Int):=by omega
  obtain⟨b,hbi,hrow⟩:=h2.row hi
  obtain⟨csi,hgi,hbn,hli,hxi⟩:=hrow
  obtain⟨cc,hcc⟩:∃ cc,csi[n+m+1]? = some cc:=⟨csi[n+m+1]'(by omega),List.getElem?_eq_getElem _⟩
  have hccT:=hxi.tri cc (List.mem_of_getElem? hcc)
  simp (disch:=first|omega|assumption) only[W0,hi',h2.hb,Q19 hi,hp2,hb',h2.hr,G14 hbi]
  refine K0 (C24 (r:=[.slice (some ⟨br,0,none⟩) m cr,.slice (some ⟨gb,0,none⟩) (n+m+2) (n+m+2),.slice (some ⟨bb,0,none⟩) m cb]) hp2 (by omega) (by omega)) ?_
  rintro _ H2 nx5 ⟨rfl,rfl,hle5⟩
  have e3:T.B i*3=3*T.B i:=by omega
  have ep:G6 css.flatten (T.B i*3) cc=(css.set (T.B i) cc).flatten:=by rw[e3];exact E30 (fun c hc=>(htri c hc).three) hccT.three (by omega)
  have el:T.B i*3+3<=3*css.length:=by omega
  simp (disch:=first|omega|assumption) only[W0,hp2,h2.hr,G14 hbi,hgi,U6 hxi.three hcc,hccT.three,hccT.one,g2,Q8 (fun c hc=>(htri c hc).three),ep,el]
  exact hih (k-1) _ _ _ (by omega) ⟨i+1,css.set (T.B i) cc,by omega,by simp,(hE2.more (by omega)).hs (Nat.le_refl _),by omega,Q0 _ _ _,by simp[hlen],M42 htri hccT⟩
 .have hb':¬ (T.B i:Int)<(n:Int):=by omega
  simp (disch:=first|omega|assumption) only[W0,hi',h2.hb,Q19 hi,hp2,hb']
  exact hih (k-1) _ _ _ (by omega) ⟨i+1,css,by omega,by simp,hE2,hnx2,g2,hlen,htri⟩
theorem Y91 (h:TV H nx lo p n m br cr gb bb cb sr sb bs T) (hn:n<=20) (hm0:1<=m) (hm:m<=20):
  J2 Tryd.prog 78 [.pointer (some ⟨p,0,none⟩)] H nx fun v H' nx'=>∃ b,v = .slice (some ⟨b,0,none⟩) m m/\nx<=b/\b<nx'/\TC H' b m/\D0 H nx H' nx':=by
 refine spec78 ?_
 unfold F78
 have hp0:=h.hp
 unfold N11 at hp0
 simp (disch:=first|omega|assumption) only[W0,hp0]
 refine K0 (M37 (n:=m) (by omega) _ _) ?_
 rintro _ H1 nx1 ⟨rfl,hrb,hE1⟩
 have hro:=hrb.ro
 rw[List.length_replicate] at hro
 obtain⟨css0,g0,hn01,hl0,hx0⟩:=hro
 have h1:=h.ext hE1
 have hp1:=h1.hp
 unfold N11 at hp1
 obtain⟨csg,hgg,hbg,hlg,hxg⟩:=id h1.goal
 have hsl:∀ k:VP,wSl (.slice (some ⟨gb,0,none⟩) (n+m+2) (n+m+2)) 3 (some (.int .i64 (n:Int))) (some (.int .i64 ((n:Int)+(m:Int)))) none H1 k=k (.slice (some ⟨gb,n*3,none⟩) m (n+m+2-n)):=fun k=>by
  rw[show (n:Int)+(m:Int)=((n+m:Nat):Int) by omega,J92 hgg (by omega) (by omega) (by omega),show n+m-n=m by omega]
 have hll:((csg.drop n).take m).flatten.length=m*3:=by
  rw[Q8 (fun c hc=>hxg.three c (List.mem_of_mem_drop (List.mem_of_mem_take hc))),List.length_take,List.length_drop];omega
 have htri:∀ c ∈ (csg.drop n).take m,G9 c:=fun c hc=>hxg.tri c (List.mem_of_mem_drop (List.mem_of_mem_take hc))
 have hsrc:Src H1 3 (.slice (some ⟨gb,n*3,none⟩) m (n+m+2-n)) m ((csg.drop n).take m).flatten:=R66 (N94 hgg hbg hxg.three (by omega)) hll (by omega)
 have hcp:∀ k:EP,Z39 (.slice (some ⟨nx,0,none⟩) m m) (.slice (some ⟨gb,n*3,none⟩) m (n+m+2-n)) 3 H1 (nx1+20) k=k (.int .i64 (m:Int)) (hs H1 nx (some (.cells ((csg.drop n).take m).flatten 0))) (nx1+20):=fun k=>by
  have hfl:=Q8 hx0.three
  rw[W32 g0 hsrc (Nat.le_refl _) (K37 htri) (by omega),Z5 (by omega)]
 simp (disch:=first|omega|assumption) only[W0,hp1,hsl,hcp]
 exact⟨nx,rfl,Nat.le_refl _,by omega,⟨_,Q0 _ _ _,by rw[List.length_take,List.length_drop];omega,htri⟩,(hE1.more (by omega)).hs (Nat.le_refl _)⟩
end Go.Proofs.YtpiobdofbhkmjaaDoor

namespace Go.Clo
theorem X96 (b o:Nat) (H:Y0) (k:VP):G0 (.pointer (some ⟨b,o,none⟩)) (some 7) H k=ldP (X0 H b) o (some 7) k:=M30 b o 6 H k
def noU (l:List Value):Bool:=l.all fun v=>match v with
 | .int .u32 _=>false
 | _=>true
theorem X8 {l:List Value} (h:noU l=true):∀ (q:Nat) (z:Int),l[q]? ≠ some (Value.int .u32 z):=by
 intro q z hq
 have:=List.all_eq_true.1 h _ (List.mem_of_getElem? hq)
 cases this
end Go.Clo
namespace Go.Proofs.YtpiobdofbhkmjaaDoor
open Go.Clo
theorem B88 {H:Y0} {nx n m cC cA cB:Nat} {AC AA AB:Option Addr} {ac:List Value} (hm0:1<=m)
  (hA:Sl H nx AA ac) (hac:ac.length=m) (hrow:∀ i,i<m->∃ Ai ci,ac[i]? = some (.slice Ai n ci)) (hm:m<=1000):
  J2 Tryd.prog 75 [.agg ⟨[.slice AC n cC,.slice AA m cA,.slice AB m cB]⟩] H nx fun v H' nx'=>v = .bool true/\D0 H nx H' nx':=by
 obtain⟨bA,oA,rwA,rfl,hbA,hrwA,hgetA⟩:=hA.open (i:=0) (by omega)
 refine spec75 ?_
 unfold F75
 simp (disch:=first|omega|assumption) only[W0,Z0,B0.val,ne_eq,not_true_eq_false]
 have hE1:D0 H nx (hs H nx (some (.cells [.slice AC n cC,.slice (some ⟨bA,oA,none⟩) m cA,.slice AB m cB] 0))) (nx+1):=(D0.refl _ _).new _ (Nat.le_refl _) (by omega)
 have g1:X0 (hs H nx (some (.cells [.slice AC n cC,.slice (some ⟨bA,oA,none⟩) m cA,.slice AB m cB] 0))) nx=some (.cells [.slice AC n cC,.slice (some ⟨bA,oA,none⟩) m cA,.slice AB m cB] 0):=Q0 _ _ _
 generalize hs H nx (some (.cells [.slice AC n cC,.slice (some ⟨bA,oA,none⟩) m cA,.slice AB m cB] 0))=H1 at *
 refine E1 (m:=m) (fun k L H' nx'=>∃ i:Nat,k+i=m/\L=[.int .i64 (i:Int)]/\H1=H'/\nx+1=nx') ?_ ⟨0,by omega,rfl,rfl,rfl⟩
 rintro k ih L _ _ ⟨i,hk,rfl,rfl,rfl⟩ hih
 by_cases hi:i<m
 .have hi':(i:Int)<(m:Int):=by omega
  obtain⟨Ai,ci,hai⟩:=hrow i hi
  have hr1:V3 H1 bA=some rwA:=(hE1.row hbA).trans hrwA
  simp (disch:=first|omega|assumption) only[W0,hi',Y3 hr1,hgetA i _ hai,g1,ne_eq,not_true_eq_false]
  exact hih (k-1) _ _ _ (by omega) ⟨i+1,by omega,by simp,rfl,rfl⟩
 have hi':¬ (i:Int)<(m:Int):=by omega
 simp (disch:=first|omega|assumption) only[W0,hi']
 exact hE1
structure K97 (H:Y0) (nx n m:Nat) (s:Nat->Nat->Bool) (v:Value):Prop where
 ex:∃ (bX bY:Nat) (t:Bool) (A C:Option Addr) (l k l' k':Nat),v = .tuple ⟨[.agg ⟨[.int .i64 0,.slice (some ⟨bX,0,none⟩) n n,.slice (some ⟨bY,0,none⟩) m m,.slice none 0 0,.bool t,.slice A l k,.slice C l' k']⟩,.int .i64 0]⟩ /\
  bX<nx/\bY<nx/\TC H bX n/\TC H bY m/\RR H nx (.agg ⟨[.bool t,.slice A l k,.slice C l' k']⟩) ((Lp.tabK n m s (Lp.steps n m s)).g (n+m+1))
theorem Q87 {H:Y0} {nx n m cC cA cB:Nat} {AC AA AB:Option Addr} {s:Nat->Nat->Bool} {ac:List Value} (hn:1<=n) (hn20:n<=20) (hm0:1<=m) (hm:m<=8)
  (hA:Sl H nx AA ac) (hac:ac.length=m) (hrow:∀ i,i<m->∃ Ai ci,ac[i]? = some (.slice Ai n ci)/\RSl H nx Ai n (fun j=>if s i j then 1 else 0)) (hB:RSl H nx AB m (fun _=>1)) (hC:RSl H nx AC n (fun _=>1))
  (hcov:∀ v,v<n->∃ r,r<m/\s r v=true):
  J2 Tryd.prog 63 [.agg ⟨[.slice AC n cC,.slice AA m cA,.slice AB m cB]⟩] H nx fun v H' nx'=>K97 H' nx' n m s v/\D0 H nx H' nx':=by
 refine spec63 ?_
 unfold F63
 have hE2:D0 H nx (hs (hs H nx (some (.cells [.slice AC n cC,.slice AA m cA,.slice AB m cB] 0))) (nx+1) (some (.cells [.int .i64 0,.slice none 0 0,.slice none 0 0,.slice none 0 0,.bool false,.slice none 0 0,.slice none 0 0] 0))) (nx+1+1):=
  ((D0.refl _ _).new _ (Nat.le_refl _) (m:=nx+1) (by omega)).new _ (by omega) (by omega)
 have g2:X0 (hs (hs H nx (some (.cells [.slice AC n cC,.slice AA m cA,.slice AB m cB] 0))) (nx+1) (some (.cells [.int .i64 0,.slice none 0 0,.slice none 0 0,.slice none 0 0,.bool false,.slice none 0 0,.slice none 0 0] 0))) nx=some (.cells [.slice AC n cC,.slice AA m cA,.slice AB m cB] 0):=by
  rw[M0 _ (by omega),Q0]
 have g21:X0 (hs (hs H nx (some (.cells [.slice AC n cC,.slice AA m cA,.slice AB m cB] 0))) (nx+1) (some (.cells [.int .i64 0,.slice none 0 0,.slice none 0 0,.slice none 0 0,.bool false,.slice none 0 0,.slice none 0 0] 0))) (nx+1)=some (.cells [.int .i64 0,.slice none 0 0,.slice none 0 0,.slice none 0 0,.bool false,.slice none 0 0,.slice none 0 0] 0):=Q0 _ _ _
 simp (disch:=first|omega|assumption) only[W0,Z0,B0.val,D3]
 generalize hs (hs H nx (some (.cells [.slice AC n cC,.slice AA m cA,.slice AB m cB] 0))) (nx+1) (some (.cells [.int .i64 0,.slice none 0 0,.slice none 0 0,.slice none 0 0,.bool false,.slice none 0 0,.slice none 0 0] 0))=H2 at *
 refine K0 (B88 hm0 (hA.ext hE2) hac (fun i hi=>by obtain⟨Ai,ci,h1,_⟩:=hrow i hi;exact⟨Ai,ci,h1⟩) (by omega)) ?_
 rintro _ H3 nx3 ⟨rfl,hE3⟩
 have hle3:=hE3.le
 have g3:=(hE3.get nx (by omega)).trans g2
 have g31:=(hE3.get (nx+1) (by omega)).trans g21
 have hE03:=hE2.trans hE3
 simp (disch:=first|omega|assumption) only[W0,K3,g3,show ¬ (n:Int) > 64 by omega,show ¬ (64:Int)<(m:Int) by omega,D3]
 have sX:∀ i q,i<m->q<n->X4 ((fun i j=>if s i j then (1:Rat) else 0) i q) 400000:=fun i q _ _=>by
  show X4 (if s i q then (1:Rat) else 0) 400000
  split
  .exact R34 1 (by simp)
  .exact R34 0 (by simp)
 refine K0 (D60 (X:=fun i j=>if s i j then (1:Rat) else 0) hn hn20 hm0 (by omega) (hA.ext hE03) hac (fun i hi=>by
  obtain⟨Ai,ci,h1,h2⟩:=hrow i hi;exact⟨Ai,ci,h1,h2.ext hE03⟩) (hB.ext hE03) sX) ?_
 rintro _ H7 nx7 ⟨rfl,hE7,br,cr,bb,cb,sr,sb,bs,hq⟩
 have hle7:=hE7.le
 refine K0 (W68 hq hn20 (by omega) (fun i hi=>by unfold G17;rw[if_neg (by omega),if_neg (by omega),if_neg (by omega)])) ?_
 rintro _ H8 nx8 ⟨rfl,hE8⟩
 have hle8:=hE8.le
 have hq8:=hq.ext hE8
 have hE38:=hE7.trans hE8
 have g8:=(hE38.get nx (by omega)).trans g3
 have g81:=(hE38.get (nx+1) (by omega)).trans g31
 simp (disch:=first|omega|assumption) only[W0,g8]
 refine K0 (Q64 hq8 hn hn20 hm0 (by omega) (hC.ext hE03) hE38) ?_
 rintro _ H12 nx12 ⟨rfl,hle12,hE12,gb,htv⟩
 have hE312:=hE38.both hE12
 have hp12:=htv.hp
 unfold N11 at hp12
 simp (disch:=first|omega|assumption) only[W0,hp12]
 rw[show ((n:Int)+(m:Int))=((n+m:Nat):Int) by omega]
 have hE13:D0 H12 nx12 H12 (nx12+16):=D0.self (by omega)
 refine K0 (Z68 (s:=s) (htv.ext hE13) hn20 hm hcov (by omega)) ?_
 rintro _ H14 nx14 ⟨rfl,hle14,hE14,gb2,bs2,htv2⟩
 have hE314:=hE312.both (hE14)
 have hE15:D0 H14 nx14 H14 (nx14+15):=D0.self (by omega)
 simp (disch:=first|omega|assumption) only[W0]
 refine K0 (J85 (htv2.ext hE15) hn20 (by omega)) ?_
 rintro _ H20 nx20 ⟨bX,rfl,hbX,hbX2,hX,hE20⟩
 have htv20:=(htv2.ext hE15).ext hE20
 refine K0 (Y91 htv20 hn20 hm0 (by omega)) ?_
 rintro _ H21 nx21 ⟨bY,rfl,hbY,hbY2,hY,hE21⟩
 have htv21:=htv20.ext hE21
 have hle20:=hE20.le
 have hle21:=hE21.le
 have hp21:=htv21.hp
 unfold N11 at hp21
 have hp20:=htv20.hp
 unfold N11 at hp20
 have hp14:=htv2.hp
 unfold N11 at hp14
 simp (disch:=first|omega|assumption) only[W0,hp21]
 refine K0 (C24 hp21 (by omega) (by omega)) ?_
 rintro _ H21 nx22 ⟨rfl,rfl,hle22⟩
 obtain⟨csg,hgg,hbg,hlg,hxg⟩:=id htv21.goal
 obtain⟨cc,hcc⟩:∃ cc,csg[n+m+1]? = some cc:=⟨csg[n+m+1]'(by omega),List.getElem?_eq_getElem _⟩
 have hccR:=hxg _ cc hcc
 have hthree:=hxg.three
 obtain⟨t,A,l,k,C,l',k',rfl⟩:=hccR.tri
 have hE321:D0 H3 nx3 H21 nx21:=((hE314.more (show nx14<=nx14+15 by omega)).both (hE20.less (by omega))).both (hE21.less (by omega))
 have g211:=(hE321.get (nx+1) (by omega)).trans g31
 have hbd:∀ k0:VP,M4 [.int .i64 0,.slice none 0 0,.slice none 0 0,.slice none 0 0,.bool false,.slice none 0 0,.slice none 0 0] [(0,1),(1,1),(2,1),(3,1),(4,3)] [(0,.int .i64 0),(1,.slice (some ⟨bX,0,none⟩) n n),(2,.slice (some ⟨bY,0,none⟩) m m),(4,.agg ⟨[.bool t,.slice A l k,.slice C l' k']⟩)] k0 =
   k0 (.agg ⟨[.int .i64 0,.slice (some ⟨bX,0,none⟩) n n,.slice (some ⟨bY,0,none⟩) m m,.slice none 0 0,.bool t,.slice A l k,.slice C l' k']⟩):=fun k0=>E3 _ _
 have hlit:∀ (a b c d e f g:Value) (k:VP),N9 [a,b,c,d,e,f,g] 0 (some 7) k=k (.agg ⟨[a,b,c,d,e,f,g]⟩):=fun a b c d e f g k=>R31 (l:=[a,b,c,d,e,f,g]) k
 have hput:∀ (a b c d e f g a' b' c' d' e' f' g':Value),G6 [a,b,c,d,e,f,g] 0 [a',b',c',d',e',f',g']=[a',b',c',d',e',f',g']:=fun _ _ _ _ _ _ _ _ _ _ _ _ _ _=>rfl
 simp (disch:=first|omega|assumption) only[W0,Z0,Nat.reduceAdd,hgg,U6 hthree hcc,hbd,g211,hput,hlit,hp21,hp20,hp14,X96]
 refine⟨⟨bX,bY,t,A,C,l,k,l',k',rfl,by omega,by omega,?_,?_,?_⟩,?_⟩
 .obtain⟨cs,h1,h2,h3⟩:=hX.ext hE21 hbX2
  refine⟨cs,?_,h2,h3⟩
  rw[M0 _ (by omega)];exact h1
 .obtain⟨cs,h1,h2,h3⟩:=hY
  refine⟨cs,?_,h2,h3⟩
  rw[M0 _ (by omega)];exact h1
 .exact (hccR.ext (D0.self hle22)).boxs g211 (X8 rfl) (.inl rfl)
 .exact ((hE03.trans hE321).more hle22).hs (by omega)
end Go.Proofs.YtpiobdofbhkmjaaDoor

namespace Go.Clo
variable {H H':Y0} {M:Nat->Option Value} {k:EP} {nx nx' r:Nat} {qs:List Nat}
def C8 (H:Y0) (r:Nat) (M:Nat->Option Value):Prop:=∃ es c,X0 H r=some (.map es c)/\(∀ x ∈ es,MapKept.IsKey (.int .u32) x.key) /\
 (∀ (i j:Nat) (x y:MapEntry),es[i]? = some x->es[j]? = some y->x.key=y.key->i=j)/\∀ (n:Nat) (v:Value),M n=some v<->∃ x ∈ es,x.key = .int .u32 (n:Int)/\x.val=v
theorem C8.same (h:C8 H r M) (e:X0 H' r=X0 H r):C8 H' r M:=by
 obtain⟨es,c,h1,h2,h3,h4⟩:=h
 exact⟨es,c,by rw[e];exact h1,h2,h3,h4⟩
theorem C8.ext (h:C8 H r M) (hr:r<nx) (e:D0 H nx H' nx'):C8 H' r M:=h.same (e.get r hr)
theorem C8.congr {M':Nat->Option Value} (h:C8 H r M) (e:∀ n,M' n=M n):C8 H r M':=by rw[show M'=M from funext e];exact h
theorem C8.nil {c:Nat} (h:X0 H r=some (.map [] c)):C8 H r fun _=>none:=⟨[],c,h,by simp,by simp,by simp⟩
theorem C8.find {es:List MapEntry} {M:Nat->Option Value} (h2:∀ x ∈ es,MapKept.IsKey (.int .u32) x.key) (h3:∀ (i j:Nat) (x y:MapEntry),es[i]? = some x->es[j]? = some y->x.key=y.key->i=j)
  (h4:∀ (n:Nat) (v:Value),M n=some v<->∃ x ∈ es,x.key = .int .u32 (n:Int)/\x.val=v) (n:Nat):
  (M n=none/\Instr.findNow (.int .u32) (.int .u32 (n:Int)) es 0=some none/\∀ x ∈ es,x.key ≠ .int .u32 (n:Int))\/∃ j e,M n=some e.val/\Instr.findNow (.int .u32) (.int .u32 (n:Int)) es 0=some (some (j,e.val))/\es[j]? = some e/\e.key = .int .u32 (n:Int):=by
 rcases MapKept.findNow_spec (d := .int .u32) (k := .int .u32 (n:Int)) rfl es 0 h2 with ⟨h,hn⟩ | ⟨j,e,h,hj,hk⟩
 .refine .inl ⟨?_,h,hn⟩
  cases hM:M n with
  | none=>rfl
  | some v=>
   obtain⟨x,hx,hxk,_⟩:=(h4 n v).1 hM
   exact absurd hxk (hn x hx)
 .refine .inr ⟨j,e,(h4 n _).2 ⟨e,List.mem_of_getElem? hj,hk,rfl⟩,?_,hj,hk⟩
  rw[h,Nat.zero_add]
theorem C8.lk {r:Nat} {M:Nat->Option Value} (h:C8 H r M) (n:Nat) (z:Value) (ok:Bool) (k:VP):
  wLk (.int .u32) z (.map (some r)) (.int .u32 (n:Int)) ok H k=(M n).elim (cond ok (k (.tuple ⟨[z,.bool false]⟩)) (k z)) fun v=>cond ok (k (.tuple ⟨[v,.bool true]⟩)) (k v):=by
 obtain⟨es,c,h1,h2,h3,h4⟩:=h
 unfold wLk
 rw[show N15 (.int .u32) (.int .u32 (n:Int))=true from rfl]
 simp only[cond_true]
 rw[W6,h1]
 simp only[Option.elim_some]
 rcases C8.find h2 h3 h4 n with ⟨hM,hf,_⟩ | ⟨j,e,hM,hf,_⟩
 .rw[hf,hM];rfl
 .rw[hf,hM];rfl
theorem C8.lkN {M:Nat->Option Value} (h:C8 H r M) {n:Nat} (hn:M n=none) (z:Value) (k:VP):wLk (.int .u32) z (.map (some r)) (.int .u32 (n:Int)) true H k=k (.tuple ⟨[z,.bool false]⟩):=by
 rw[h.lk,hn];rfl
theorem C8.lkS {M:Nat->Option Value} (h:C8 H r M) {n:Nat} {v:Value} (hn:M n=some v) (z:Value) (k:VP):wLk (.int .u32) z (.map (some r)) (.int .u32 (n:Int)) true H k=k (.tuple ⟨[v,.bool true]⟩):=by
 rw[h.lk,hn];rfl
theorem C8.lkN' {M:Nat->Option Value} (h:C8 H r M) {n:Nat} (hn:M n=none) (z:Value) (k:VP):wLk (.int .u32) z (.map (some r)) (.int .u32 (n:Int)) false H k=k z:=by
 rw[h.lk,hn];rfl
theorem C8.lkS' {M:Nat->Option Value} (h:C8 H r M) {n:Nat} {v:Value} (hn:M n=some v) (z:Value) (k:VP):wLk (.int .u32) z (.map (some r)) (.int .u32 (n:Int)) false H k=k v:=by
 rw[h.lk,hn];rfl
theorem Q54 {n m:Nat} (h:Value.int .u32 (n:Int) = .int .u32 (m:Int)):n=m:=by
 injection h with _ h;omega
theorem C8.put {nx r:Nat} {M:Nat->Option Value} (h:C8 H r M) (n:Nat) (v:Value) (hk:∀ es c,C8 (hs H r (some (.map es c))) r (fun t=>if t=n then some v else M t)->k undef (hs H r (some (.map es c))) nx):
  K54 (.int .u32) (.map (some r)) (.int .u32 (n:Int)) v H nx k:=by
 obtain⟨es,c,h1,h2,h3,h4⟩:=h
 unfold K54
 dsimp only
 rw[W6,h1]
 simp only[Option.elim_some,Z74]
 rw[show N15 (.int .u32) (.int .u32 (n:Int))=true from rfl]
 rcases C8.find h2 h3 h4 n with ⟨hM,hf,hno⟩ | ⟨j,e,hM,hf,hj,hke⟩
 .rw[hf]
  simp only[cond_true]
  rw[E3,N2,Y8]
  refine hk _ _ ⟨_,_,Q0 _ _ _,?_,?_,fun t u => ?_⟩
  .intro x hx
   rcases List.mem_append.1 hx with hx | hx
   .exact h2 x hx
   .rw[List.mem_singleton.1 hx];rfl
  .intro i j x y hx hy hxy
   rw[List.getElem?_append] at hx hy
   split at hx<;>split at hy
   .exact h3 i j x y hx hy hxy
   .have hy':y={ key := .int .u32 (n:Int),val:=v,born:=c }:=by
     have:=List.mem_of_getElem? hy
     simpa using this
    rw[hy'] at hxy
    exact absurd hxy (hno x (List.mem_of_getElem? hx))
   .have hx':x={ key := .int .u32 (n:Int),val:=v,born:=c }:=by
     have:=List.mem_of_getElem? hx
     simpa using this
    rw[hx'] at hxy
    exact absurd hxy.symm (hno y (List.mem_of_getElem? hy))
   .have h5:=(List.getElem?_eq_some_iff.1 hx).1
    have h6:=(List.getElem?_eq_some_iff.1 hy).1
    simp at h5 h6
    omega
  .by_cases htn:t=n
   .subst htn
    dsimp only
    rw[if_pos rfl]
    constructor
    .intro hu
     cases hu
     exact⟨_,List.mem_append_right _ (List.mem_singleton.2 rfl),rfl,rfl⟩
    .rintro⟨x,hx,hxk,hxv⟩
     rcases List.mem_append.1 hx with hx | hx
     .exact absurd hxk (hno x hx)
     .rw[List.mem_singleton.1 hx] at hxv
      rw[<- hxv]
   .dsimp only
    rw[if_neg htn,h4]
    constructor
    .rintro⟨x,hx,h⟩
     exact⟨x,List.mem_append_left _ hx,h⟩
    .rintro⟨x,hx,hxk,hxv⟩
     rcases List.mem_append.1 hx with hx | hx
     .exact⟨x,hx,hxk,hxv⟩
     .rw[List.mem_singleton.1 hx] at hxk
      exact absurd (Q54 hxk).symm htn
 .rw[hf]
  simp only[cond_true]
  rw[C14,hj]
  simp only
  rw[E3,Y8,Z41]
  have hjl:=(List.getElem?_eq_some_iff.1 hj).1
  refine hk _ _ ⟨_,_,Q0 _ _ _,?_,?_,fun t u => ?_⟩
  .intro x hx
   rcases List.mem_or_eq_of_mem_set hx with hx | rfl
   .exact h2 x hx
   .rfl
  .intro i i' x y hx hy hxy
   rw[List.getElem?_set] at hx hy
   split at hx<;>split at hy
   .omega
   .rename_i g1 g2
    try rw[if_pos (by omega)] at hx
    cases hx
    have:=h3 j i' e y hj hy (hke.trans hxy)
    omega
   .rename_i g1 g2
    try rw[if_pos (by omega)] at hy
    cases hy
    have:=h3 i j x e hx hj (hxy.trans hke.symm)
    omega
   .exact h3 i i' x y hx hy hxy
  .by_cases htn:t=n
   .subst htn
    dsimp only
    rw[if_pos rfl]
    constructor
    .intro hu
     cases hu
     exact⟨_,List.mem_set hjl _,rfl,rfl⟩
    .rintro⟨x,hx,hxk,hxv⟩
     obtain⟨i,hi⟩:=List.getElem?_of_mem hx
     rw[List.getElem?_set] at hi
     split at hi
     .try rw[if_pos (by omega)] at hi
      cases hi
      rw[<- hxv]
     .rename_i g
      exact absurd (h3 j i e x hj hi (hke.trans hxk.symm)) g
   .dsimp only
    rw[if_neg htn,h4]
    constructor
    .rintro⟨x,hx,hxk,hxv⟩
     obtain⟨i,hi⟩:=List.getElem?_of_mem hx
     have hij:j≠i:=by
      rintro rfl
      rw[hj] at hi
      cases hi
      exact htn (Q54 (hxk.symm.trans hke))
     refine⟨x,List.mem_of_getElem? (i:=i) ?_,hxk,hxv⟩
     rw[List.getElem?_set,if_neg hij];exact hi
    .rintro⟨x,hx,hxk,hxv⟩
     obtain⟨i,hi⟩:=List.getElem?_of_mem hx
     rw[List.getElem?_set] at hi
     split at hi
     .try rw[if_pos (by omega)] at hi
      cases hi
      exact absurd (Q54 hxk).symm htn
     .exact⟨x,List.mem_of_getElem? hi,hxk,hxv⟩
noncomputable def U8 (H:Y0) (qs:List Nat):Y0:=qs.foldr (fun q H=>hs H q none) H
theorem V19 {H:Y0} {q:Nat}:∀ {qs:List Nat},q ∈ qs->X0 (U8 H qs) q=none
 | [],h=>by simp at h
 | p :: qs,h=>by
  show X0 (hs (U8 H qs) p none) q=none
  rw[W7]
  split
  .rfl
  .rename_i hn
   exact V19 (by simpa [hn] using h)
theorem W11 {H:Y0} {q:Nat}:∀ {qs:List Nat},q ∉ qs->X0 (U8 H qs) q=X0 H q
 | [],_=>rfl
 | p :: qs,h=>by
  show X0 (hs (U8 H qs) p none) q=_
  simp at h
  rw[W7,if_neg h.1]
  exact W11 h.2
theorem X12:∀ i b,X0 (U8 H qs) i=some b->X0 H i=some b:=by
 intro i b h
 by_cases hi:i ∈ qs
 .rw[V19 hi] at h;cases h
 .rwa [W11 hi] at h
theorem R13 {qs':List Nat} (h:∀ i,i<nx->i ∉ qs->X0 H' i=X0 H i) (hq:∀ q ∈ qs',q ∈ qs\/nx<=q):Sub (U8 H qs) nx (U8 H' qs'):=by
 intro i b hi hb
 have h1:i ∉ qs:=fun hm=>by rw[V19 hm] at hb;cases hb
 have h2:i ∉ qs':=fun hm=>by
  rcases hq i hm with h | h
  .exact h1 h
  .omega
 rw[W11 h1] at hb
 rw[W11 h2,h i hi h1];exact hb
theorem U53 {qs:List Nat} (e:D0 H nx H' nx') (hq:∀ q ∈ qs,nx<=q):D0 H nx (U8 H' qs) nx':=
 ⟨e.le,fun i hi=>by rw[W11 (fun hm=>by have:=hq i hm;omega)];exact e.get i hi⟩
theorem R16 {P:Program} {f:FuncId} {args:List Value} {qs:List Nat} {Q:EP} (hq:∀ q ∈ qs,q<nx) (h:J2 P f args (U8 H qs) nx Q) (hQ:∀ v H0 nx',Q v H0 nx'->D0 (U8 H qs) nx H0 nx')
  (hk:∀ v H' nx' H0,Q v H0 nx'->D0 H nx H' nx'->Sub H0 nx' (U8 H' qs)->Top H' nx'->k v H' nx'):Z1 P f args H nx k:=by
 refine J41 X12 h hQ fun v H' nx' H0 hq' hE hS hT=>hk v H' nx' H0 hq' hE (fun i b hi hb => ?_) hT
 have hE0:=hQ _ _ _ hq'
 have h1:i ∉ qs:=fun hm=>by rw[hE0.get i (hq i hm),V19 hm] at hb;cases hb
 rw[W11 h1]
 exact hS i b hi hb
end Go.Clo

namespace Go.Proofs.YtpiobdofbhkmjaaDoor
variable {a b k n:Nat}
theorem M66 (h:n<=32):2^n<=4294967296:=Nat.le_trans (Nat.pow_le_pow_right (by omega) h) (by decide)
theorem E64 (n:Nat):0<2^n:=Nat.pow_pos (by omega)
theorem D97 {s:Nat} (hs:s<4294967296):(((s:Int)/2^min n 32).tmod 2==1)=s.testBit n:=by
 have e:((2:Int)^min n 32)=((2^min n 32:Nat):Int):=by simp
 rw[e,<- Int.natCast_ediv]
 have key:s/2^min n 32=s/2^n:=by
  by_cases h:n<=32
  .rw[Nat.min_eq_left h]
  .rw[Nat.min_eq_right (by omega)]
   have a1:s/2^32=0:=Nat.div_eq_of_lt (by simpa using hs)
   have a2:s/2^n=0:=Nat.div_eq_of_lt (Nat.lt_of_lt_of_le hs (by
    have:=Nat.pow_le_pow_right (n:=2) (by omega) (show 32<=n by omega)
    simpa using this))
   rw[a1,a2]
 rw[key,Nat.testBit_eq_decide_div_mod_eq]
 generalize s/2^n=m
 have e2:((m:Int).tmod 2)=((m%2:Nat):Int):=by
  rw[Int.tmod_eq_emod_of_nonneg (by omega)];omega
 rw[e2,Bool.eq_iff_iff]
 simp
 omega
def B28 (a b k:Nat):Prop:=∀ v,v<k->b.testBit v=true->a.testBit v=true
instance (a b k:Nat):Decidable (B28 a b k):=by unfold B28;exact inferInstance
def J49 (a b:Nat):Bool:=decide (B28 a b 32)
theorem G75 (a b:Nat):B28 a b 0:=fun v h=>by omega
theorem X74 (h:B28 a b k) (hk:b.testBit k=false\/a.testBit k=true):B28 a b (k+1):=by
 intro v hv hb
 by_cases e:v=k
 .subst e;rcases hk with hk | hk
  .rw[hk] at hb;cases hb
  .exact hk
 .exact h v (by omega) hb
theorem U85 (h:B28 a b 32):J49 a b=true:=by simp[J49,h]
theorem N92 (hk:k<32) (h1:b.testBit k=true) (h2:a.testBit k=false):J49 a b=false:=by
 have:¬ B28 a b 32:=fun h=>by have:=h k hk h1;rw[h2] at this;cases this
 simp[J49,this]
theorem U88 {e i:Nat} (he:e<4294967296) (h:e.testBit i=true):i<32:=by
 rcases Nat.lt_or_ge i 32 with g | g
 .exact g
 .have:e<2^i:=Nat.lt_of_lt_of_le he (Nat.pow_le_pow_right (n:=2) (by omega) g)
  rw[Nat.testBit_lt_two_pow this] at h
  cases h
theorem J1 (hn:n<=32):2^n-1<4294967296:=by have:=M66 hn;have:=E64 n;omega
end Go.Proofs.YtpiobdofbhkmjaaDoor
