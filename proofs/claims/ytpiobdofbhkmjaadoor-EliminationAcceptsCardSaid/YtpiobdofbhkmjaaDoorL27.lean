/-
  Contracts: rat.Norm,rat.magnitude,rat.Int,rat.Sign.
  Rational numbers in memory (core's Rat);contracts: rat.Norm,magnitude,Int,Sign.
  Contracts: rat.magnitude,rat.Int,rat.Neg.
  Contracts: rat.Mul.
  Contracts: rat.Div.
-/
import Derived.Test.YtpiobdofbhkmjaaDoorL26
set_option linter.unusedSimpArgs false
set_option linter.unusedVariables false
set_option linter.unusedSectionVars false
namespace Go.Clo
def RT (H:Y0) (nx:Nat) (v:Value) (s:Bool) (n d:Nat):Prop:=∃ nv dv,v = .agg ⟨[.bool s,nv,dv]⟩/\NN H nx nv n/\NN H nx dv d
theorem RT.ext {H:Y0} {nx:Nat} {v:Value} {s:Bool} {n d:Nat} {H':Y0} {nx':Nat} (h:RT H nx v s n d) (e:D0 H nx H' nx'):RT H' nx' v s n d:=let ⟨a,b,h1,h2,h3⟩:=h;⟨a,b,h1,h2.ext e,h3.ext e⟩
def R42 (s:Bool) (n d:Nat):Bool:=s&&decide (0<n)&&(decide (n=0\/d=0) || s)
def M49 (n d:Nat):Nat:=if n=0\/d=0 then n else n/Nat.gcd n d
def Z48 (n d:Nat):Nat:=if n=0\/d=0 then 1 else d/Nat.gcd n d
theorem D31 (s:Bool) (n d:Nat):R42 s n d=(s&&decide (0<n)):=by unfold R42;cases s<;>simp
theorem NN.box {H:Y0} {nx i n sl:Nat} {v:Value} {row row':List Value} (h:NN H nx v n) (hg:X0 H i=some (.cells row sl)) (hr:∀ (q:Nat) (z:Int),row[q]? ≠ some (Value.int .u32 z)):NN (hs H i (some (.cells row' 0))) nx v n:=by
 obtain⟨A,c,rfl,hD⟩:=h
 refine⟨A,c,rfl,?_,?_,hD.small,hD.le⟩
 .intro j x hx
  obtain⟨b,o,rw1,e1,e2,e3,e4⟩:=hD.sl j x hx
  by_cases hb:b=i
  .subst hb
   have e5:rw1=row:=by rw[V3,hg] at e3;exact (Option.some.inj e3).symm
   subst e5
   have:∃ z,x = .int .u32 z:=by
    simp only[N1,List.getElem?_map,Option.map_eq_some_iff] at hx
    obtain⟨d,_,rfl⟩:=hx
    exact⟨_,rfl⟩
   obtain⟨z,rfl⟩:=this
   exact absurd e4 (hr _ z)
  .exact⟨b,o,rw1,e1,e2,by rw[V3,M0 _ hb];exact e3,e4⟩
 .rcases hD.sk with e | ⟨b,o,rw1,e1,e2,e3⟩
  .exact .inl e
  .by_cases hb:b=i
   .subst hb
    exact .inr ⟨b,o,row',e1,e2,.inr ⟨0,.inl rfl,Q0 _ _ _⟩⟩
   .exact .inr ⟨b,o,rw1,e1,e2,by rw[M0 _ hb];exact e3⟩
theorem G10 (s:Bool) (A C:Option Addr) (l1 c1 l2 c2:Nat):∀ (q:Nat) (z:Int),[Value.bool s,.slice A l1 c1,.slice C l2 c2][q]? ≠ some (Value.int .u32 z):=by
 intro q z h
 match q,h with
 | 0,h=>simp at h
 | 1,h=>simp at h
 | 2,h=>simp at h
 | q+3,h=>simp at h
theorem C12 (s:Bool) (A C:Option Addr) (l1 c1 l2 c2:Nat) (k:VP):M4 [.bool false,.slice none 0 0,.slice none 0 0] [(0,1),(1,1),(2,1)] [(0,.bool s),(1,.slice A l1 c1),(2,.slice C l2 c2)] k=k (.agg ⟨[.bool s,.slice A l1 c1,.slice C l2 c2]⟩):=by
 unfold M4
 have:V21 (nth [(0,1),(1,1),(2,1)]) [.bool false,.slice none 0 0,.slice none 0 0] [(0,.bool s),(1,.slice A l1 c1),(2,.slice C l2 c2)]=some [.bool s,.slice A l1 c1,.slice C l2 c2]:=rfl
 rw[this]
 exact E3 _ _
theorem M67 (s:Bool) (A:Option Addr) (l1 c1:Nat) (k:VP):M4 [.bool false,.slice none 0 0,.slice none 0 0] [(0,1),(1,1),(2,1)] [(0,.bool s),(1,.slice A l1 c1)] k=k (.agg ⟨[.bool s,.slice A l1 c1,.slice none 0 0]⟩):=by
 unfold M4
 have:V21 (nth [(0,1),(1,1),(2,1)]) [.bool false,.slice none 0 0,.slice none 0 0] [(0,.bool s),(1,.slice A l1 c1)]=some [.bool s,.slice A l1 c1,.slice none 0 0]:=rfl
 rw[this]
 exact E3 _ _
end Go.Clo
namespace Go.Proofs.YtpiobdofbhkmjaaDoor
open Go.Clo
set_option maxHeartbeats 4000000 in
theorem Z72 {v:Value} {s:Bool} {n d:Nat} {H:Y0} {nx:Nat} (h:RT H nx v s n d) (hl:(R0 n).length<400000) (hl2:(R0 d).length<400000):
  J2 Tryd.prog 36 [v] H nx fun r H' nx'=>RT H' nx' r (R42 s n d) (M49 n d) (Z48 n d)/\D0 H nx H' nx':=by
 obtain⟨nv,dv,rfl,hn,hd⟩:=h
 refine spec36 ?_
 unfold F36
 obtain⟨A0,c0,rfl,hn0⟩:=id hn
 obtain⟨C0,d0,rfl,hd0⟩:=id hd
 simp (disch:=first|omega|assumption) only[W0,Z0,B0.val]
 have gK0:X0 (hs (hs H nx (some (.cells [.bool s,.slice A0 (R0 n).length c0,.slice C0 (R0 d).length d0] 0))) (nx+1) (some (.cells [.bool false,.slice none 0 0,.slice none 0 0] 0))) nx=some (.cells [.bool s,.slice A0 (R0 n).length c0,.slice C0 (R0 d).length d0] 0):=by rw[M0 _ (by omega),Q0]
 have gK1:X0 (hs (hs H nx (some (.cells [.bool s,.slice A0 (R0 n).length c0,.slice C0 (R0 d).length d0] 0))) (nx+1) (some (.cells [.bool false,.slice none 0 0,.slice none 0 0] 0))) (nx+1)=some (.cells [.bool false,.slice none 0 0,.slice none 0 0] 0):=Q0 _ _ _
 have hEK:D0 H nx (hs (hs H nx (some (.cells [.bool s,.slice A0 (R0 n).length c0,.slice C0 (R0 d).length d0] 0))) (nx+1) (some (.cells [.bool false,.slice none 0 0,.slice none 0 0] 0))) (nx+2):=
  ((D0.refl H nx).new _ (Nat.le_refl _) (by omega):D0 H nx _ (nx+1)).new _ (by omega) (by omega)
 generalize hs (hs H nx (some (.cells [.bool s,.slice A0 (R0 n).length c0,.slice C0 (R0 d).length d0] 0))) (nx+1) (some (.cells [.bool false,.slice none 0 0,.slice none 0 0] 0))=K at gK0 gK1 hEK ⊢
 try simp (disch:=first|omega|assumption) only[W0,Z0,B0.val,Nat.reduceAdd,Nat.reduceMul,Nat.reduceLeDiff,gK0,gK1]
 have hEK':D0 H nx K (nx+1+1+8):=hEK.more (by omega)
 refine K0 (B71 (hn.ext hEK') (by omega)) ?_
 rintro u H4 nx4 ⟨hu,hE4⟩
 have g4:=(hE4.get nx (by omega)).trans gK0
 simp (disch:=first|omega|assumption) only[W0,g4]
 refine K0 (B71 ((hd.ext hEK').ext hE4) (by omega)) ?_
 rintro w H5 nx5 ⟨hw,hE5⟩
 have hE45:=hE4.trans hE5
 have hEE5:=hEK'.trans hE45
 have g5:=(hE45.get nx (by omega)).trans gK0
 have z5:=(hE45.get (nx+1) (by omega)).trans gK1
 obtain⟨A,c,rfl,hA⟩:=id hu
 obtain⟨C,dc,rfl,hC⟩:=id hw
 have hu5:=hu.ext hE5
 have en0:decide ((R0 n).length=0)=decide (n=0):=by
  congr 1;apply propext;exact K13
 have ed0:decide ((R0 d).length=0)=decide (d=0):=by
  congr 1;apply propext;exact K13
 have eng:decide ((0:Int)<((R0 n).length:Int))=decide (0<n):=by
  congr 1;apply propext
  have:=K13 (n:=n)
  omega
 have z6:∀ {H6:Y0} {nx6:Nat},D0 H5 nx5 H6 nx6->X0 H6 (nx+1)=some (.cells [.bool false,.slice none 0 0,.slice none 0 0] 0):=fun e=>(e.get (nx+1) (by have:=hE45.le;omega)).trans z5
 have fin:∀ (b:Bool) (H6:Y0) (nx6 n' d':Nat) (x y:Value),NN H6 nx6 x n'->NN H6 nx6 y d'->D0 H5 nx5 H6 nx6->RT (hs H6 (nx+1) (some (.cells [.bool b,x,y] 0))) nx6 (.agg ⟨[.bool b,x,y]⟩) b n' d'/\D0 H nx (hs H6 (nx+1) (some (.cells [.bool b,x,y] 0))) nx6:=
  fun b H6 nx6 n' d' x y hx hy hE6=>⟨⟨x,y,rfl,NN.box hx (z6 hE6) (G10 _ _ _ _ _ _ _),NN.box hy (z6 hE6) (G10 _ _ _ _ _ _ _)⟩,(hEE5.trans hE6).hs (by omega)⟩
 simp (disch:=first|omega|assumption) only[W0]
 refine J6 (fun L H' nx'=>L=[.bool (decide (n=0\/d=0))]/\H5=H'/\nx5=nx') ?_ ?_
 .intro tj hj
  by_cases hn0:n=0
  .have e:decide (n=0\/d=0)=true:=decide_eq_true (.inl hn0)
   simp (disch:=first|omega|assumption) only[W0,en0,decide_eq_true hn0]
   exact hj _ _ _ ⟨by rw[e],rfl,rfl⟩
  .have e:decide (n=0\/d=0)=decide (d=0):=by congr 1;apply propext;simp[hn0]
   simp (disch:=first|omega|assumption) only[W0,en0,decide_eq_false hn0,ed0]
   exact hj _ _ _ ⟨by rw[e],rfl,rfl⟩
 rintro L _ _ ⟨rfl,rfl,rfl⟩
 by_cases h0:n=0\/d=0
 .have e:decide (n=0\/d=0)=true:=decide_eq_true h0
  have eN:M49 n d=n:=if_pos h0
  have eD:Z48 n d=1:=if_pos h0
  cases s with
  | true=>
   simp (disch:=first|omega|assumption) only[W0,e,g5,eng]
   refine K0 (Z36 (n:=1) (by omega) H5 nx5) ?_
   rintro x H6 nx6 ⟨hx,hE6⟩
   obtain⟨X,cX,rfl,hX⟩:=id hx
   rw[C12]
   simp (disch:=first|omega|assumption) only[W0,Z0,Nat.reduceAdd,z6 hE6,G5,D3]
   have:=fin (decide (0<n)) H6 nx6 n 1 _ _ (hu5.ext hE6) hx hE6
   rw[D31,eN,eD,Bool.true_and]
   exact this
  | false=>
   simp (disch:=first|omega|assumption) only[W0,e,g5]
   refine K0 (Z36 (n:=1) (by omega) H5 nx5) ?_
   rintro x H6 nx6 ⟨hx,hE6⟩
   obtain⟨X,cX,rfl,hX⟩:=id hx
   rw[C12]
   simp (disch:=first|omega|assumption) only[W0,Z0,Nat.reduceAdd,z6 hE6,G5,D3]
   have:=fin false H6 nx6 n 1 _ _ (hu5.ext hE6) hx hE6
   rw[D31,eN,eD,Bool.false_and]
   exact this
 have e:decide (n=0\/d=0)=false:=decide_eq_false h0
 have hnp:0<n:=by omega
 have hdp:0<d:=by omega
 have eN:M49 n d=n/Nat.gcd n d:=if_neg h0
 have eD:Z48 n d=d/Nat.gcd n d:=if_neg h0
 have eS:R42 s n d=s:=by rw[D31,decide_eq_true hnp,Bool.and_true]
 have hgp:0<Nat.gcd n d:=Nat.gcd_pos_of_pos_left _ hnp
 simp (disch:=first|omega|assumption) only[W0,e]
 refine J6 (fun L H' nx'=>∃ x y,L=[x,y]/\NN H' nx' x (M49 n d)/\NN H' nx' y (Z48 n d)/\D0 H5 nx5 H' nx') ?_ ?_
 .intro tj hj
  refine K0 (K29 hw (by omega)) ?_
  rintro _ _ _ ⟨rfl,rfl,rfl⟩
  by_cases hb:1<W4 d
  .have hb':(1:Int)<(W4 d:Int):=by omega
   simp (disch:=first|omega|assumption) only[W0,hb']
   refine K0 (Q79 hu5 hw hl hl2) ?_
   rintro gq H6 nx6 ⟨hgq,hE6⟩
   have hgl:(R0 (Nat.gcd n d)).length<400000:=Nat.lt_of_le_of_lt (D20 (Nat.gcd_le_left _ hnp)) hl
   refine K0 (K29 hgq (by omega)) ?_
   rintro _ _ _ ⟨rfl,rfl,rfl⟩
   by_cases hb2:1<W4 (Nat.gcd n d)
   .have hb2':(1:Int)<(W4 (Nat.gcd n d):Int):=by omega
    simp (disch:=first|omega|assumption) only[W0,hb2']
    refine K0 (Y32 (hu5.ext hE6) hgq hl hgl) ?_
    rintro r1 H7 nx7 ⟨hr1,hE7⟩
    obtain⟨x1,y1,rfl,hx1,hy1⟩:=D36 hgp hr1
    simp (disch:=first|omega|assumption) only[W0]
    refine K0 (Y32 ((hw.ext hE6).ext hE7) (hgq.ext hE7) hl2 hgl) ?_
    rintro r2 H8 nx8 ⟨hr2,hE8⟩
    obtain⟨x2,y2,rfl,hx2,hy2⟩:=D36 hgp hr2
    simp (disch:=first|omega|assumption) only[W0]
    exact hj _ _ _ ⟨x1,x2,rfl,by rw[eN];exact hx1.ext hE8,by rw[eD];exact hx2,(hE6.trans hE7).trans hE8⟩
   .have hb2':¬ (1:Int)<(W4 (Nat.gcd n d):Int):=by omega
    have hg1:Nat.gcd n d=1:=K52.1 (by have:=X13 hgp;omega)
    simp (disch:=first|omega|assumption) only[W0,hb2']
    exact hj _ _ _ ⟨_,_,rfl,by rw[eN,hg1,Nat.div_one];exact hu5.ext hE6,by rw[eD,hg1,Nat.div_one];exact hw.ext hE6,hE6⟩
  .have hb':¬ (1:Int)<(W4 d:Int):=by omega
   have hd1:d=1:=K52.1 (by have:=X13 hdp;omega)
   simp (disch:=first|omega|assumption) only[W0,hb']
   refine hj _ _ _ ⟨_,_,rfl,?_,?_,D0.refl _ _⟩
   .rw[eN,hd1,Nat.gcd_one_right,Nat.div_one];exact hu5
   .rw[eD,hd1,Nat.gcd_one_right,Nat.div_one,<- hd1];exact hw
 rintro L H6 nx6 ⟨x,y,rfl,hx,hy,hE6⟩
 have g6:=(hE6.get nx (by have:=hE45.le;omega)).trans g5
 obtain⟨X,cX,rfl,hX⟩:=id hx
 obtain⟨Y,cY,rfl,hY⟩:=id hy
 simp (disch:=first|omega|assumption) only[W0,g6]
 rw[C12]
 simp (disch:=first|omega|assumption) only[W0,Z0,Nat.reduceAdd,z6 hE6,G5,D3]
 have:=fin s H6 nx6 _ _ _ _ hx hy hE6
 rw[eS]
 exact this
end Go.Proofs.YtpiobdofbhkmjaaDoor

namespace Go.Clo
def sg (s:Bool) (n:Nat):Int:=if s=true then -(n:Int) else n
theorem Q41 (s:Bool) (n:Nat):(sg s n).natAbs=n:=by unfold sg;cases s<;>simp
theorem E93 (s:Bool) (n:Nat) {d:Nat} (hd:d≠0):(mkRat (sg s n) d).num.natAbs=M49 n d/\(mkRat (sg s n) d).den=Z48 n d/\decide ((mkRat (sg s n) d).num<0)=R42 s n d:=by
 have e:mkRat (sg s n) d=Rat.normalize (sg s n) d hd:=by unfold mkRat;rw[dif_neg hd]
 have en:(mkRat (sg s n) d).num=sg s n/((Nat.gcd n d:Nat):Int):=by
  rw[e,Rat.normalize_eq];dsimp only;rw[Q41]
 have ed:(mkRat (sg s n) d).den=d/Nat.gcd n d:=by
  rw[e,Rat.normalize_eq];dsimp only;rw[Q41]
 rw[D31]
 simp only[en,ed]
 have hg:0<Nat.gcd n d:=Nat.gcd_pos_of_pos_right _ (by omega)
 obtain⟨k,hk⟩:=Nat.gcd_dvd_left n d
 generalize hG:Nat.gcd n d=G at *
 have hnum:sg s n/(G:Int)=sg s k:=by
  unfold sg
  rw[hk]
  cases s
  .simp only[Bool.false_eq_true,if_false]
   rw[Int.natCast_mul,Int.mul_ediv_cancel_left _ (by omega)]
  .simp only[if_true]
   rw[Int.natCast_mul,<- Int.mul_neg,Int.mul_ediv_cancel_left _ (by omega)]
 have hkn:n/G=k:=by rw[hk,Nat.mul_div_cancel_left _ hg]
 simp only[hnum,Q41]
 unfold M49 Z48
 rw[hG]
 by_cases h0:n=0
 .have hk0:k=0:=by rw[h0] at hkn;simp at hkn;exact hkn.symm
  have hGd:G=d:=by rw[<- hG,h0,Nat.gcd_zero_left]
  rw[if_pos (.inl h0),if_pos (.inl h0),hk0,h0,hGd,Nat.div_self (by omega)]
  refine⟨rfl,rfl,?_⟩
  unfold sg;cases s<;>simp
 .have h1:¬ (n=0\/d=0):=by omega
  rw[if_neg h1,if_neg h1]
  have hkp:0<k:=by
   rcases Nat.eq_zero_or_pos k with e | e
   .rw[e] at hk;omega
   .exact e
  refine⟨hkn.symm,rfl,?_⟩
  rw[decide_eq_true (show 0<n by omega),Bool.and_true]
  unfold sg;cases s
  .simp
  .simp;omega
def RR (H:Y0) (nx:Nat) (v:Value) (x:Rat):Prop:=RT H nx v (decide (x.num<0)) x.num.natAbs x.den
theorem RR.ext {H:Y0} {nx:Nat} {v:Value} {x:Rat} {H':Y0} {nx':Nat} (h:RR H nx v x) (e:D0 H nx H' nx'):RR H' nx' v x:=RT.ext h e
theorem Z79 (x:Rat):sg (decide (x.num<0)) x.num.natAbs=x.num:=by
 unfold sg
 by_cases h:x.num<0
 .rw[if_pos (decide_eq_true h)];omega
 .rw[if_neg (by simp[h])];omega
def X4 (x:Rat) (L:Nat):Prop:=(R0 x.num.natAbs).length<L/\(R0 x.den).length<L
end Go.Clo
namespace Go.Proofs.YtpiobdofbhkmjaaDoor
open Go.Clo
theorem X43 {v:Value} {s:Bool} {n d:Nat} {H:Y0} {nx:Nat} (h:RT H nx v s n d) (hd:d≠0) (hl:(R0 n).length<400000) (hl2:(R0 d).length<400000):
  J2 Tryd.prog 36 [v] H nx fun r H' nx'=>RR H' nx' r (mkRat (sg s n) d)/\D0 H nx H' nx':=by
 refine (Z72 h hl hl2).mono ?_
 rintro r H' nx' ⟨hr,hE⟩
 obtain⟨e1,e2,e3⟩:=E93 s n hd
 refine⟨?_,hE⟩
 unfold RR
 rw[e1,e2,e3]
 exact hr
theorem J13 {v:Value} {x:Rat} {H:Y0} {nx:Nat} (h:RR H nx v x) (hx:X4 x 400000):J2 Tryd.prog 36 [v] H nx fun r H' nx'=>RR H' nx' r x/\D0 H nx H' nx':=by
 have:=X43 h x.den_nz hx.1 hx.2
 rw[Z79,Rat.mkRat_self] at this
 exact this
theorem J22 {v:Value} {x:Rat} {H:Y0} {nx:Nat} (h:RR H nx v x) (hx:X4 x 400000):J2 Tryd.prog 31 [v] H nx fun r H' nx' => .int .i64 (x.num.sign)=r/\D0 H nx H' nx':=by
 obtain⟨nv,dv,rfl,hn,hd⟩:=h
 refine spec31 ?_
 unfold F31
 obtain⟨A0,c0,rfl,hn0⟩:=id hn
 obtain⟨C0,d0,rfl,hd0⟩:=id hd
 simp (disch:=first|omega|assumption) only[W0,Z0,B0.val]
 generalize hK:hs H nx (some (.cells [.bool (decide (x.num<0)),.slice A0 (R0 x.num.natAbs).length c0,.slice C0 (R0 x.den).length d0] 0))=K
 have gK:X0 K nx=some (.cells [.bool (decide (x.num<0)),.slice A0 (R0 x.num.natAbs).length c0,.slice C0 (R0 x.den).length d0] 0):=by rw[<- hK,Q0]
 have hEK:D0 H nx K (nx+1):=by rw[<- hK];exact (D0.refl H nx).new _ (Nat.le_refl _) (by omega)
 refine K0 (K29 (hn.ext hEK) (by have:=hx.1;omega)) ?_
 rintro _ _ _ ⟨rfl,rfl,rfl⟩
 by_cases h0:x.num=0
 .have e:decide ((W4 x.num.natAbs:Int)=0)=true:=decide_eq_true (by rw[h0];rfl)
  simp (disch:=first|omega|assumption) only[W0,h0,Int.sign_zero]
  exact hEK
 .have hp:0<x.num.natAbs:=by omega
  have hb:=X13 hp
  have e:decide ((W4 x.num.natAbs:Int)=0)=false:=decide_eq_false (by omega)
  by_cases hneg:x.num<0
  .simp (disch:=first|omega|assumption) only[W0,e,gK,decide_eq_true hneg,Int.sign_eq_neg_one_of_neg hneg]
   exact hEK
  .simp (disch:=first|omega|assumption) only[W0,e,gK,decide_eq_false hneg,Int.sign_eq_one_of_pos (show 0<x.num by omega)]
   exact hEK
end Go.Proofs.YtpiobdofbhkmjaaDoor

namespace Go.Clo
theorem D94 (x:Rat):sg (!decide (x.num<0)) x.num.natAbs = -x.num:=by
 unfold sg
 by_cases h:x.num<0
 .simp only[decide_eq_true h,Bool.not_true,Bool.false_eq_true,if_false];omega
 .simp only[decide_eq_false h,Bool.not_false,if_true];omega
theorem B82 (x:Rat):mkRat (-x.num) x.den = -x:=by rw[<- Rat.neg_mkRat,Rat.mkRat_self]
theorem RR.box {H:Y0} {nx i sl:Nat} {v:Value} {x:Rat} {row row':List Value} (h:RR H nx v x) (hg:X0 H i=some (.cells row sl)) (hr:∀ (q:Nat) (z:Int),row[q]? ≠ some (Value.int .u32 z)):RR (hs H i (some (.cells row' 0))) nx v x:=
 let ⟨a,b,h1,h2,h3⟩:=h;⟨a,b,h1,NN.box h2 hg hr,NN.box h3 hg hr⟩
end Go.Clo
namespace Go.Proofs.YtpiobdofbhkmjaaDoor
open Go.Clo
theorem C83 {v:Value} {x:Rat} {H:Y0} {nx:Nat} (h:RR H nx v x) (hx:X4 x 400000):J2 Tryd.prog 95 [v] H nx fun r H' nx'=>RR H' nx' r (-x)/\D0 H nx H' nx':=by
 obtain⟨nv,dv,rfl,hn,hd⟩:=h
 refine spec95 ?_
 unfold F95
 obtain⟨A0,c0,rfl,hn0⟩:=id hn
 obtain⟨C0,d0,rfl,hd0⟩:=id hd
 simp (disch:=first|omega|assumption) only[W0,Z0,B0.val]
 have gK1:X0 (hs (hs H nx (some (.cells [.bool (decide (x.num<0)),.slice A0 (R0 x.num.natAbs).length c0,.slice C0 (R0 x.den).length d0] 0))) (nx+1) (some (.cells [.bool false,.slice none 0 0,.slice none 0 0] 0))) (nx+1)=some (.cells [.bool false,.slice none 0 0,.slice none 0 0] 0):=Q0 _ _ _
 have hEK:D0 H nx (hs (hs H nx (some (.cells [.bool (decide (x.num<0)),.slice A0 (R0 x.num.natAbs).length c0,.slice C0 (R0 x.den).length d0] 0))) (nx+1) (some (.cells [.bool false,.slice none 0 0,.slice none 0 0] 0))) (nx+1+1):=
  ((D0.refl H nx).new _ (Nat.le_refl _) (by omega):D0 H nx _ (nx+1)).new _ (by omega) (by omega)
 generalize hs (hs H nx (some (.cells [.bool (decide (x.num<0)),.slice A0 (R0 x.num.natAbs).length c0,.slice C0 (R0 x.den).length d0] 0))) (nx+1) (some (.cells [.bool false,.slice none 0 0,.slice none 0 0] 0))=K at gK1 hEK ⊢
 rw[C12]
 refine K0 (X43 (s := !decide (x.num<0)) ⟨_,_,rfl,hn.ext hEK,hd.ext hEK⟩ x.den_nz hx.1 hx.2) ?_
 rintro r H3 nx3 ⟨hr,hE3⟩
 rw[D94,B82] at hr
 have g3:=(hE3.get (nx+1) (by omega)).trans gK1
 have hb:=RR.box (row':=[.bool (decide ((-x).num<0)),.slice none 0 0,.slice none 0 0]) hr g3 (G10 _ _ _ _ _ _ _)
 obtain⟨a1,b1,rfl,hn1,hd1⟩:=id hr
 obtain⟨X,cX,rfl,hX⟩:=id hn1
 obtain⟨Y,cY,rfl,hY⟩:=id hd1
 simp (disch:=first|omega|assumption) only[W0,Z0,Nat.reduceAdd,g3,G5,D3]
 exact⟨RR.box hr g3 (G10 _ _ _ _ _ _ _),(hEK.trans hE3).hs (by omega)⟩
theorem Q66 {n:Int} (h1 : -1000000<=n) (h2:n<=1000000) (H:Y0) (nx:Nat):J2 Tryd.prog 37 [.int .i64 n] H nx fun r H' nx'=>NN H' nx' r n.natAbs/\D0 H nx H' nx':=by
 refine spec37 ?_
 unfold F37
 by_cases hneg:n<0
 .obtain⟨m,rfl⟩:∃ m:Nat,n = -(m:Int):=⟨n.natAbs,by omega⟩
  have hm:0<m:=by omega
  have e1:∀ k:VP,M3 .u64 (.int .i64 (-(m:Int))) k=k (.int .u64 ((18446744073709551616-m:Nat):Int)):=fun k=>by
   rw[W17]
   congr 2
   simp only[IntKind.wrap,IntKind.signed,IntKind.bits]
   simp
   omega
  have e2:∀ k:VP,wUn .neg (.int .u64 ((18446744073709551616-m:Nat):Int)) k=k (.int .u64 (m:Int)):=fun k=>by
   unfold wUn
   rw[R9]
   have:unV .neg (.int .u64 ((18446744073709551616-m:Nat):Int))=some (.int .u64 (IntKind.u64.wrap (0-((18446744073709551616-m:Nat):Int)))):=rfl
   rw[this]
   simp only[Option.elim_some]
   congr 2
   simp only[IntKind.wrap,IntKind.signed,IntKind.bits]
   simp
   omega
  have hneg' : -(m:Int)<0:=hneg
  simp (disch:=first|omega|assumption) only[W0,hneg',e1,e2]
  refine K0 (Z36 (n:=m) (by omega) H nx) ?_
  rintro r H1 nx1 ⟨hr,hE⟩
  rw[show (-(m:Int)).natAbs=m by omega]
  exact⟨hr,hE⟩
 .obtain⟨m,rfl⟩:∃ m:Nat,n=(m:Int):=⟨n.natAbs,by omega⟩
  simp (disch:=first|omega|assumption) only[W0,hneg,Y6 _ (show m<18446744073709551616 by omega)]
  refine K0 (Z36 (n:=m) (by omega) H nx) ?_
  rintro r H1 nx1 ⟨hr,hE⟩
  exact⟨hr,hE⟩
end Go.Proofs.YtpiobdofbhkmjaaDoor

namespace Go.Clo
theorem M16 {a b la lb:Nat} (ha:(R0 a).length<=la) (hb:(R0 b).length<=lb):(R0 (a*b)).length<=la+lb:=by
 have h1:a<4294967296^la:=Nat.lt_of_lt_of_le (U13 a) (Nat.pow_le_pow_right (by omega) ha)
 have h2:b<4294967296^lb:=Nat.lt_of_lt_of_le (U13 b) (Nat.pow_le_pow_right (by omega) hb)
 refine X7 ?_
 rw[Nat.pow_add]
 exact Nat.mul_lt_mul_of_lt_of_lt h1 h2
theorem G94 (x y:Rat):sg (!(decide (x.num<0)==decide (y.num<0))) (x.num.natAbs*y.num.natAbs)=x.num*y.num:=by
 unfold sg
 have ex:(x.num.natAbs:Int)=if x.num<0 then -x.num else x.num:=by split<;>omega
 have ey:(y.num.natAbs:Int)=if y.num<0 then -y.num else y.num:=by split<;>omega
 rw[Int.natCast_mul,ex,ey]
 by_cases hx:x.num<0
 .by_cases hy:y.num<0
  .simp[hx,hy,Int.neg_mul,Int.mul_neg]
  .simp[hx,hy,Int.neg_mul]
 .by_cases hy:y.num<0
  .simp[hx,hy,Int.mul_neg]
  .simp[hx,hy]
theorem K78 (x y:Rat):mkRat (x.num*y.num) (x.den*y.den)=x*y:=by
 rw[<- Rat.mkRat_mul_mkRat,Rat.mkRat_self,Rat.mkRat_self]
theorem N49 (neg a b:Bool) (k:VP):wVf (.eqb neg) [.bool a,.bool b] k=k (.bool (cond neg (!(a==b)) (a==b))):=by
 unfold wVf
 rw[R9];rfl
theorem RR.form {H:Y0} {nx:Nat} {v:Value} {x:Rat} (h:RR H nx v x):∃ A l1 c1 C l2 c2,v = .agg ⟨[.bool (decide (x.num<0)),.slice A l1 c1,.slice C l2 c2]⟩/\NN H nx (.slice A l1 c1) x.num.natAbs/\NN H nx (.slice C l2 c2) x.den:=by
 obtain⟨a,b,rfl,h1,h2⟩:=h
 obtain⟨A,c1,rfl,_⟩:=id h1
 obtain⟨C,c2,rfl,_⟩:=id h2
 exact⟨A,_,c1,C,_,c2,rfl,h1,h2⟩
end Go.Clo
namespace Go.Proofs.YtpiobdofbhkmjaaDoor
open Go.Clo
set_option maxHeartbeats 2000000 in
theorem Y80 {v w:Value} {x y:Rat} {H:Y0} {nx:Nat} (hv:RR H nx v x) (hw:RR H nx w y) (hx:X4 x 100000) (hy:X4 y 100000):
  J2 Tryd.prog 100 [v,w] H nx fun r H' nx'=>RR H' nx' r (x*y)/\D0 H nx H' nx':=by
 obtain⟨A0,l0,c0,C0,m0,d0,rfl,hvn,hvd⟩:=hv.form
 obtain⟨A1,l1,c1,C1,m1,d1,rfl,hwn,hwd⟩:=hw.form
 refine spec100 ?_
 unfold F100
 generalize hsx:decide (x.num<0)=sx at *
 generalize hsy:decide (y.num<0)=sy at *
 simp (disch:=first|omega|assumption) only[W0,Z0,B0.val]
 obtain⟨K,hK⟩:∃ K,K=hs (hs (hs H nx (some (.cells [.bool sx,.slice A0 l0 c0,.slice C0 m0 d0] 0))) (nx+1) (some (.cells [.bool sy,.slice A1 l1 c1,.slice C1 m1 d1] 0))) (nx+1+1) (some (.cells [.bool false,.slice none 0 0,.slice none 0 0] 0)):=⟨_,rfl⟩
 have gK0:X0 K nx=some (.cells [.bool sx,.slice A0 l0 c0,.slice C0 m0 d0] 0):=by rw[hK,M0 _ (by omega),M0 _ (by omega),Q0]
 have gK1:X0 K (nx+1)=some (.cells [.bool sy,.slice A1 l1 c1,.slice C1 m1 d1] 0):=by rw[hK,M0 _ (by omega),Q0]
 have gK2:X0 K (nx+1+1)=some (.cells [.bool false,.slice none 0 0,.slice none 0 0] 0):=by rw[hK,Q0]
 have hEK:D0 H nx K (nx+1+1+1+6):=⟨by omega,fun i hi=>by rw[hK,M0 _ (by omega),M0 _ (by omega),M0 _ (by omega)]⟩
 rw[<- hK]
 simp (disch:=first|omega|assumption) only[W0,D3]
 have hv':RR K (nx+1+1+1+6) (.agg ⟨[.bool sx,.slice A0 l0 c0,.slice C0 m0 d0]⟩) x:=hv.ext hEK
 refine K0 (J13 hv' ⟨by have:=hx.1;omega,by have:=hx.2;omega⟩) ?_
 rintro r1 H5 nx5 ⟨hr1,hE5⟩
 have g5_0:=(hE5.get nx (by omega)).trans gK0
 have g5_1:=(hE5.get (nx+1) (by omega)).trans gK1
 have g5_2:=(hE5.get (nx+1+1) (by omega)).trans gK2
 obtain⟨A2,l2,c2,C2,m2,d2,rfl,hr1n,hr1d⟩:=hr1.form
 simp only[hsx] at hr1 ⊢
 simp (disch:=first|omega|assumption) only[W0,Z0,Nat.reduceAdd,g5_1,D3]
 refine K0 (J13 (hw.ext (hEK.trans hE5)) ⟨by have:=hy.1;omega,by have:=hy.2;omega⟩) ?_
 rintro r2 H6 nx6 ⟨hr2,hE6⟩
 have g6_0:=(hE6.get nx (by have:=hE5.le;omega)).trans g5_0
 have g6_1:=(hE6.get (nx+1) (by have:=hE5.le;omega)).trans g5_1
 have g6_2:=(hE6.get (nx+1+1) (by have:=hE5.le;omega)).trans g5_2
 obtain⟨A3,l3,c3,C3,m3,d3,rfl,hr2n,hr2d⟩:=hr2.form
 simp only[hsy] at hr2 ⊢
 obtain⟨M,hM⟩:∃ M,M=hs (hs H6 nx (some (.cells [.bool sx,.slice A2 l2 c2,.slice C2 m2 d2] 0))) (nx+1) (some (.cells [.bool sy,.slice A3 l3 c3,.slice C3 m3 d3] 0)):=⟨_,rfl⟩
 have g7_1:X0 (hs H6 nx (some (.cells [.bool sx,.slice A2 l2 c2,.slice C2 m2 d2] 0))) (nx+1)=some (.cells [.bool sy,.slice A1 l1 c1,.slice C1 m1 d1] 0):=by rw[M0 _ (by omega)];exact g6_1
 have gM0:X0 M nx=some (.cells [.bool sx,.slice A2 l2 c2,.slice C2 m2 d2] 0):=by rw[hM,M0 _ (by omega),Q0]
 have gM1:X0 M (nx+1)=some (.cells [.bool sy,.slice A3 l3 c3,.slice C3 m3 d3] 0):=by rw[hM,Q0]
 have gM2:X0 M (nx+1+1)=some (.cells [.bool false,.slice none 0 0,.slice none 0 0] 0):=by rw[hM,M0 _ (by omega),M0 _ (by omega)];exact g6_2
 have hEM:D0 H nx M (nx6+18):=⟨by have:=hEK.le;have:=hE5.le;have:=hE6.le;omega,fun i hi=>by rw[hM,M0 _ (by omega),M0 _ (by omega)];exact ((hEK.trans hE5).trans hE6).get i hi⟩
 have boxM:∀ {u:Value} {q:Nat},NN H6 nx6 u q->NN M (nx6+18) u q:=fun h=>by
  rw[hM]
  exact NN.ext (NN.box (NN.box h g6_0 (G10 _ _ _ _ _ _ _)) g7_1 (G10 _ _ _ _ _ _ _)) (D0.self (by omega))
 simp (disch:=first|omega|assumption) only[W0,Z0,Nat.reduceAdd,g6_0,g6_1,G5,N49,cond_true]
 rw[<- hM]
 have hlx:(R0 x.num.natAbs).length<100000:=hx.1
 have hld:(R0 x.den).length<100000:=hx.2
 have hly:(R0 y.num.natAbs).length<100000:=hy.1
 have hle:(R0 y.den).length<100000:=hy.2
 refine K0 (Z30 (boxM (hr1n.ext hE6)) (boxM hr2n) (by omega) (by omega)) ?_
 rintro p1 H10 nx10 ⟨hp1,hE10⟩
 have hn6:nx+1+1<nx6:=by have:=hEK.le;have:=hE5.le;have:=hE6.le;omega
 have g10_0:=(hE10.get nx (by omega)).trans gM0
 have g10_1:=(hE10.get (nx+1) (by omega)).trans gM1
 have g10_2:=(hE10.get (nx+1+1) (by omega)).trans gM2
 simp (disch:=first|omega|assumption) only[W0,g10_0,g10_1]
 refine K0 (Z30 ((boxM (hr1d.ext hE6)).ext hE10) ((boxM hr2d).ext hE10) (by omega) (by omega)) ?_
 rintro p2 H11 nx11 ⟨hp2,hE11⟩
 have hle11:nx6+18<=nx10:=hE10.le
 have g11_0:=(hE11.get nx (by omega)).trans g10_0
 have g11_1:=(hE11.get (nx+1) (by omega)).trans g10_1
 have g11_2:=(hE11.get (nx+1+1) (by omega)).trans g10_2
 obtain⟨X,cX,rfl,hX⟩:=id hp1
 obtain⟨Y,cY,rfl,hY⟩:=id hp2
 rw[C12]
 have hmn:=M16 (la:=100000) (lb:=100000) (Nat.le_of_lt hlx) (Nat.le_of_lt hly)
 have hmd:=M16 (la:=100000) (lb:=100000) (Nat.le_of_lt hld) (Nat.le_of_lt hle)
 refine K0 (X43 (s := !(sx==sy)) ⟨_,_,rfl,hp1.ext hE11,hp2⟩ (Nat.mul_ne_zero x.den_nz y.den_nz) (by omega) (by omega)) ?_
 rintro r H12 nx12 ⟨hr,hE12⟩
 have e3:=G94 x y
 rw[hsx,hsy] at e3
 rw[e3,K78] at hr
 have hle12:nx10<=nx11:=hE11.le
 have g12_2:=(hE12.get (nx+1+1) (by omega)).trans g11_2
 obtain⟨A4,l4,c4,C4,m4,d4,rfl,hrn,hrd⟩:=id hr.form
 simp (disch:=first|omega|assumption) only[W0,Z0,Nat.reduceAdd,g12_2,G5,D3,g11_0,g11_1]
 exact⟨RR.box hr g12_2 (G10 _ _ _ _ _ _ _),(((hEM.trans hE10).trans hE11).trans hE12).hs (by omega)⟩
end Go.Proofs.YtpiobdofbhkmjaaDoor

namespace Go.Clo
theorem W41 (y:Rat) (h:y.num≠0):(y⁻¹).num=sg (decide (y.num<0)) y.den/\(y⁻¹).den=y.num.natAbs:=by
 show (Rat.inv y).num=_/\(Rat.inv y).den=_
 unfold Rat.inv
 by_cases h1:y.num<0
 .rw[dif_pos h1]
  refine⟨?_,rfl⟩
  unfold sg;simp[h1]
 .rw[dif_neg h1,dif_pos (show y.num > 0 by omega)]
  refine⟨?_,rfl⟩
  unfold sg;simp[h1]
theorem C92 (y:Rat) (h:y.num≠0):decide ((y⁻¹).num<0)=decide (y.num<0):=by
 rw[(W41 y h).1]
 have:=y.den_pos
 unfold sg
 by_cases h1:y.num<0
 .simp[h1];omega
 .simp[h1]
end Go.Clo
namespace Go.Proofs.YtpiobdofbhkmjaaDoor
open Go.Clo
set_option maxHeartbeats 2000000 in
theorem B80 {v w:Value} {x y:Rat} {H:Y0} {nx:Nat} (hv:RR H nx v x) (hw:RR H nx w y) (hx:X4 x 100000) (hy:X4 y 100000) (hy0:y.num≠0):
  J2 Tryd.prog 98 [v,w] H nx fun r H' nx'=>(∃ u,r = .tuple ⟨[u,.int .i64 0]⟩/\RR H' nx' u (x/y))/\D0 H nx H' nx':=by
 obtain⟨A0,l0,c0,C0,m0,d0,rfl,hvn,hvd⟩:=hv.form
 obtain⟨A1,l1,c1,C1,m1,d1,rfl,hwn,hwd⟩:=hw.form
 refine spec98 ?_
 unfold F98
 generalize hsx:decide (x.num<0)=sx at *
 generalize hsy:decide (y.num<0)=sy at *
 simp (disch:=first|omega|assumption) only[W0,Z0,B0.val]
 obtain⟨K,hK⟩:∃ K,K=hs (hs (hs H nx (some (.cells [.bool sx,.slice A0 l0 c0,.slice C0 m0 d0] 0))) (nx+1) (some (.cells [.bool sy,.slice A1 l1 c1,.slice C1 m1 d1] 0))) (nx+1+1) (some (.cells [.bool false,.slice none 0 0,.slice none 0 0] 0)):=⟨_,rfl⟩
 have gK0:X0 K nx=some (.cells [.bool sx,.slice A0 l0 c0,.slice C0 m0 d0] 0):=by rw[hK,M0 _ (by omega),M0 _ (by omega),Q0]
 have gK1:X0 K (nx+1)=some (.cells [.bool sy,.slice A1 l1 c1,.slice C1 m1 d1] 0):=by rw[hK,M0 _ (by omega),Q0]
 have gK2:X0 K (nx+1+1)=some (.cells [.bool false,.slice none 0 0,.slice none 0 0] 0):=by rw[hK,Q0]
 have hEK:D0 H nx K (nx+1+1+1):=⟨by omega,fun i hi=>by rw[hK,M0 _ (by omega),M0 _ (by omega),M0 _ (by omega)]⟩
 rw[<- hK]
 simp (disch:=first|omega|assumption) only[D3]
 have hw':RR K (nx+1+1+1) (.agg ⟨[.bool sy,.slice A1 l1 c1,.slice C1 m1 d1]⟩) y:=hw.ext hEK
 refine K0 (J13 hw' ⟨by have:=hy.1;omega,by have:=hy.2;omega⟩) ?_
 rintro r1 H5 nx5 ⟨hr1,hE5⟩
 have g5_0:=(hE5.get nx (by omega)).trans gK0
 have g5_1:=(hE5.get (nx+1) (by omega)).trans gK1
 have g5_2:=(hE5.get (nx+1+1) (by omega)).trans gK2
 obtain⟨A2,l2,c2,C2,m2,d2,rfl,hr1n,hr1d⟩:=hr1.form
 simp only[hsy] at hr1 ⊢
 have hL:l2=(R0 y.num.natAbs).length:=by
  obtain⟨A,c,e,_⟩:=hr1n
  cases e;rfl
 have hl0:decide (l2=0)=false:=decide_eq_false (fun e=>hy0 (by
  have:=K13.1 (hL.symm.trans e)
  omega))
 obtain⟨M,hM⟩:∃ M,M=hs H5 (nx+1) (some (.cells [.bool sy,.slice A2 l2 c2,.slice C2 m2 d2] 0)):=⟨_,rfl⟩
 have gM0:X0 M nx=some (.cells [.bool sx,.slice A0 l0 c0,.slice C0 m0 d0] 0):=by rw[hM,M0 _ (by omega)];exact g5_0
 have gM1:X0 M (nx+1)=some (.cells [.bool sy,.slice A2 l2 c2,.slice C2 m2 d2] 0):=by rw[hM,Q0]
 have gM2:X0 M (nx+1+1)=some (.cells [.bool false,.slice none 0 0,.slice none 0 0] 0):=by rw[hM,M0 _ (by omega)];exact g5_2
 have hEM:D0 H nx M nx5:=⟨by have:=hEK.le;have:=hE5.le;omega,fun i hi=>by rw[hM,M0 _ (by omega)];exact (hEK.trans hE5).get i hi⟩
 have hn5:nx+1+1<nx5:=by have:=hE5.le;omega
 simp (disch:=first|omega|assumption) only[W0,Z0,Nat.reduceAdd,g5_1,G5,D3,g5_0,hl0]
 rw[<- hM]
 rw[C12]
 have hinv:RR M nx5 (.agg ⟨[.bool sy,.slice C2 m2 d2,.slice A2 l2 c2]⟩) (y⁻¹):=by
  obtain⟨e1,e2⟩:=W41 y hy0
  unfold RR
  rw[C92 y hy0,hsy,e1,e2,Q41,hM]
  exact⟨_,_,rfl,NN.box hr1d g5_1 (G10 _ _ _ _ _ _ _),NN.box hr1n g5_1 (G10 _ _ _ _ _ _ _)⟩
 have hsinv:X4 (y⁻¹) 100000:=by
  obtain⟨e1,e2⟩:=W41 y hy0
  unfold X4
  rw[e1,e2,Q41]
  exact⟨hy.2,hy.1⟩
 refine K0 (Y80 (hv.ext hEM) hinv hx hsinv) ?_
 rintro r H7 nx7 ⟨hr,hE7⟩
 have g7_2:=(hE7.get (nx+1+1) (by omega)).trans gM2
 obtain⟨A4,l4,c4,C4,m4,d4,rfl,hrn,hrd⟩:=id hr.form
 simp (disch:=first|omega|assumption) only[W0,Z0,Nat.reduceAdd,g7_2,G5,D3]
 refine⟨⟨_,rfl,?_⟩,(hEM.trans hE7).hs (by omega)⟩
 rw[Rat.div_def]
 exact RR.box hr g7_2 (G10 _ _ _ _ _ _ _)
end Go.Proofs.YtpiobdofbhkmjaaDoor
