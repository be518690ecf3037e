/-
  Contracts: rat.Norm,rat.magnitude,rat.Int,rat.Sign.
  Rational numbers in memory (core's Rat);contracts: rat.Norm,magnitude,Int,Sign.
  Contracts: rat.magnitude,rat.Int,rat.Neg.
  Contracts: rat.Mul.
  Contracts: rat.Div.
  Contracts: rat.Add,rat.Sub.
  Contracts: rat.Sub,rat.Int.
  Contracts: rat.Int,rat.divisor,rat.Cmp.
  Contracts: rat.divisor,rat.Cmp.
  MADE BY PROGRAM (wip/gen/gen.py): functions 127 135 136 119 139 137 140 120 121 122 123 124 125 126 109 107 110 108 95 as marked code,and their claims written out.
  Rows of rational numbers in memory.
  Contracts: simplex.zeros,right,artificial.
  Contracts: simplex.right,artificial,combined.
-/
import Derived.Test.YtoiioigihocgbaaGreatDoorO7
import Derived.KernelRfl
set_option maxHeartbeats 8000000
set_option maxRecDepth 100000
set_option linter.all false
noncomputable section
open Bool renaming false_eq_true->dQ
open Go.IntKind renaming bits->dW,signed->eK,wrap->eY
open Go.Value renaming bool->dU,int->cD
open List renaming ext_getElem?->dH,getD_eq_getElem?_getD->aP,getElem?_append_left->bQ,getElem?_append_right->bS,getElem?_drop->dB,getElem?_eq_getElem->aE,getElem?_eq_none->aT,getElem?_eq_some_iff->aJ,getElem?_map->cP,getElem?_set_ne->bL,getElem?_set_self->dG,getElem?_take->aX,getElem_of_mem->gL,length_append->bH,length_cons->cV,length_set->dO,length_take->cK,mem_of_getElem?->aH,replicate->aF
open Nat renaming eq_of_beq_eq_true->bT,eq_zero_or_pos->cI,gcd->fF,le_of_lt->eG,le_refl->aD,lt_of_le_of_lt->cE,lt_of_lt_of_le->aO,mod_lt->eZ,mul_comm->cG,pow_le_pow_right->aK,pow_succ->dR,zero_add->cF
open Option renaming elim_some->aN,map_eq_some_iff->bU
open Option.some renaming inj->fA
namespace Go.Clo
def RT(H:Y0)(nx:Nat)(v:Value)(s:Bool)(n d:Nat):Prop:=∃ nv dv,v = .agg ⟨[.bool s,nv,dv]⟩/\NN H nx nv n/\NN H nx dv d
theorem RT.ext{H:Y0}{nx:Nat}{v:Value}{s:Bool}{n d:Nat}{H':Y0}{nx':Nat}(h:RT H nx v s n d)(e:D0 H nx H' nx'):RT H' nx' v s n d:=let ⟨a,b,h1,h2,h3⟩:=h;⟨a,b,h1,h2.ext e,h3.ext e⟩
def B85(s:Bool)(n d:Nat):Bool:=s&&decide (0<n)&&(decide (n=0\/d=0) || s)
def G86(n d:Nat):Nat:=if n=0\/d=0 then n else n/fF n d
def K87(n d:Nat):Nat:=if n=0\/d=0 then 1 else d/fF n d
theorem Q78(s:Bool)(n d:Nat):B85 s n d=(s&&decide (0<n)):=by unfold B85;cases s<;>simp
theorem NN.box{H:Y0}{nx i n sl:Nat}{v:Value}{row row':List Value}(h:NN H nx v n)(hg:J0 H i=some (.cells row sl))(hr:∀(q:Nat)(z:Int),row[q]? ≠ some (cD .u32 z)):NN (hs H i (some (.cells row' 0))) nx v n:=by
 obtain⟨A,c,rfl,hD⟩:=h;refine⟨A,c,rfl,?_,?_,hD.small,hD.le⟩
 .intro j x hx
  obtain⟨b,o,E,e1,e2,e3,e4⟩:=hD.sl j x hx
  by_cases hb:b=i
  .subst hb
   have e5:E=row:=by rw[Q5,hg] at e3;exact(fA e3).symm
   subst e5;have:∃ z,x = .int .u32 z:=by
    simp only[K12,cP,bU] at hx;obtain⟨d,_,rfl⟩:=hx;exact⟨_,rfl⟩
   obtain⟨z,rfl⟩:=this;exact absurd e4 (hr _ z)
  .exact⟨b,o,E,e1,e2,by rw[Q5,Z1 _ hb];exact e3,e4⟩
 .rcases hD.sk with e | ⟨b,o,E,e1,e2,e3⟩
  .exact .inl e
  .by_cases hb:b=i
   .subst hb
    exact .inr ⟨b,o,row',e1,e2,.inr ⟨0,.inl rfl,Z11 _ _ _⟩⟩
   .exact .inr ⟨b,o,E,e1,e2,by rw[Z1 _ hb];exact e3⟩
theorem E46(s:Bool)(A C:Option Addr)(l1 c1 l2 c2:Nat):∀(q:Nat) (z:Int),[dU s,.slice A l1 c1,.slice C l2 c2][q]? ≠ some (cD .u32 z):=by
 intro q z h
 match q,h with
 | 0,h=>simp at h
 | 1,h=>simp at h
 | 2,h=>simp at h
 | q+3,h=>simp at h
theorem W65(s:Bool)(A C:Option Addr)(l1 c1 l2 c2:Nat)(k:VP):U11 [.bool false,.slice none 0 0,.slice none 0 0] [(0,1),(1,1),(2,1)] [(0,.bool s),(1,.slice A l1 c1),(2,.slice C l2 c2)] k=k (.agg ⟨[.bool s,.slice A l1 c1,.slice C l2 c2]⟩):=by
 unfold U11;have:V16 (nth [(0,1),(1,1),(2,1)]) [.bool false,.slice none 0 0,.slice none 0 0] [(0,.bool s),(1,.slice A l1 c1),(2,.slice C l2 c2)]=some [.bool s,.slice A l1 c1,.slice C l2 c2]:=rfl;rw[this];exact V14 _ _
theorem K96(s:Bool)(A:Option Addr)(l1 c1:Nat)(k:VP):U11 [.bool false,.slice none 0 0,.slice none 0 0] [(0,1),(1,1),(2,1)] [(0,.bool s),(1,.slice A l1 c1)] k=k (.agg ⟨[.bool s,.slice A l1 c1,.slice none 0 0]⟩):=by
 unfold U11;have:V16 (nth [(0,1),(1,1),(2,1)]) [.bool false,.slice none 0 0,.slice none 0 0] [(0,.bool s),(1,.slice A l1 c1)]=some [.bool s,.slice A l1 c1,.slice none 0 0]:=rfl;rw[this];exact V14 _ _
end Go.Clo
namespace Go.Proofs.YtoiioigihocgbaaGreatDoor
open Go.Clo
theorem B97{v:Value}{s:Bool}{n d:Nat}{H:Y0}{nx:Nat}(h:RT H nx v s n d)(hl:(D11 n).length<400000)(ad:(D11 d).length<400000):
  Q2 Tryz.prog 80 [v] H nx fun r H' nx'=>RT H' nx' r (B85 s n d) (G86 n d) (K87 n d)/\D0 H nx H' nx':=by
 obtain⟨nv,dv,rfl,hn,hd⟩:=h;refine spec80 ?_;unfold F80;obtain⟨A0,c0,rfl,Z⟩:=id hn;obtain⟨C0,d0,rfl,ax⟩:=id hd;simp(disch:=first|omega|assumption)only[W0,Z0,Q0.val];have V:J0 (hs (hs H nx (some (.cells [.bool s,.slice A0 (D11 n).length c0,.slice C0 (D11 d).length d0] 0))) (nx+1) (some (.cells [.bool false,.slice none 0 0,.slice none 0 0] 0))) nx=some (.cells [.bool s,.slice A0 (D11 n).length c0,.slice C0 (D11 d).length d0] 0):=by rw[Z1 _ (by omega),Z11]
 have a8:J0 (hs (hs H nx (some (.cells [.bool s,.slice A0 (D11 n).length c0,.slice C0 (D11 d).length d0] 0))) (nx+1) (some (.cells [.bool false,.slice none 0 0,.slice none 0 0] 0))) (nx+1)=some (.cells [.bool false,.slice none 0 0,.slice none 0 0] 0):=Z11 _ _ _;have ag:D0 H nx (hs (hs H nx (some (.cells [.bool s,.slice A0 (D11 n).length c0,.slice C0 (D11 d).length d0] 0))) (nx+1) (some (.cells [.bool false,.slice none 0 0,.slice none 0 0] 0))) (nx+2):=
  ((D0.refl H nx).new _ (aD _) (by omega):D0 H nx _ (nx+1)).new _ (by omega) (by omega)
 generalize hs (hs H nx (some (.cells [.bool s,.slice A0 (D11 n).length c0,.slice C0 (D11 d).length d0] 0))) (nx+1) (some (.cells [.bool false,.slice none 0 0,.slice none 0 0] 0))=K at V a8 ag ⊢
 try simp(disch:=first|omega|assumption)only[W0,Z0,Q0.val,Nat.reduceAdd,Nat.reduceMul,Nat.reduceLeDiff,V,a8]
 have W:D0 H nx K (nx+1+1+8):=ag.more (by omega);refine R0 (U97 (hn.ext W) (by omega)) ?_;rintro u H4 ay ⟨hu,a9⟩;have g4:=(a9.get nx (by omega)).trans V;simp(disch:=first|omega|assumption)only[W0,g4];refine R0 (U97 ((hd.ext W).ext a9) (by omega)) ?_;rintro w H5 U ⟨hw,ae⟩;have O:=a9.trans ae;have ac:=W.trans O;have g5:=(O.get nx (by omega)).trans V;have z5:=(O.get (nx+1) (by omega)).trans a8;obtain⟨A,c,rfl,hA⟩:=id hu;obtain⟨C,dc,rfl,hC⟩:=id hw;have Q:=hu.ext ae;have ah:decide ((D11 n).length=0)=decide (n=0):=by
  congr 1;apply propext;exact M65
 have aq:decide ((D11 d).length=0)=decide (d=0):=by
  congr 1;apply propext;exact M65
 have ap:decide ((0:Int)<((D11 n).length:Int))=decide (0<n):=by
  congr 1;apply propext;have:=M65 (n:=n);omega
 have z6:∀ {H6:Y0} {J:Nat},D0 H5 U H6 J->J0 H6 (nx+1)=some (.cells [.bool false,.slice none 0 0,.slice none 0 0] 0):=fun e=>(e.get (nx+1) (by have:=O.le;omega)).trans z5
 have a2:∀(b:Bool) (H6:Y0) (J n' d':Nat) (x y:Value),NN H6 J x n'->NN H6 J y d'->D0 H5 U H6 J->RT (hs H6 (nx+1) (some (.cells [.bool b,x,y] 0))) J (.agg ⟨[.bool b,x,y]⟩) b n' d'/\D0 H nx (hs H6 (nx+1) (some (.cells [.bool b,x,y] 0))) J:=
  fun b H6 J n' d' x y hx hy E=>⟨⟨x,y,rfl,NN.box hx (z6 E) (E46 _ _ _ _ _ _ _),NN.box hy (z6 E) (E46 _ _ _ _ _ _ _)⟩,(ac.trans E).hs (by omega)⟩
 simp(disch:=first|omega|assumption)only[W0];refine N5 (fun L H' nx'=>L=[.bool (decide (n=0\/d=0))]/\H5=H'/\U=nx') ?_ ?_
 .intro tj hj
  by_cases Z:n=0
  .have e:decide (n=0\/d=0)=true:=decide_eq_true (.inl Z)
   simp(disch:=first|omega|assumption)only[W0,ah,decide_eq_true Z];exact hj _ _ _ ⟨by rw[e],rfl,rfl⟩
  .have e:decide (n=0\/d=0)=decide (d=0):=by congr 1;apply propext;simp[Z]
   simp(disch:=first|omega|assumption)only[W0,ah,decide_eq_false Z,aq];exact hj _ _ _ ⟨by rw[e],rfl,rfl⟩
 rintro L _ _ ⟨rfl,rfl,rfl⟩
 by_cases h0:n=0\/d=0
 .have e:decide (n=0\/d=0)=true:=decide_eq_true h0
  have eN:G86 n d=n:=if_pos h0;have eD:K87 n d=1:=if_pos h0
  cases s with
  | true=>
   simp(disch:=first|omega|assumption)only[W0,e,g5,ap];refine R0 (R81 (n:=1) (by omega) H5 U) ?_;rintro x H6 J ⟨hx,E⟩;obtain⟨X,cX,rfl,hX⟩:=id hx;rw[W65];simp(disch:=first|omega|assumption)only[W0,Z0,Nat.reduceAdd,z6 E,D7,Y12];have:=a2 (decide (0<n)) H6 J n 1 _ _ (Q.ext E) hx E;rw[Q78,eN,eD,Bool.true_and];exact this
  | false=>
   simp(disch:=first|omega|assumption)only[W0,e,g5];refine R0 (R81 (n:=1) (by omega) H5 U) ?_;rintro x H6 J ⟨hx,E⟩;obtain⟨X,cX,rfl,hX⟩:=id hx;rw[W65];simp(disch:=first|omega|assumption)only[W0,Z0,Nat.reduceAdd,z6 E,D7,Y12];have:=a2 false H6 J n 1 _ _ (Q.ext E) hx E;rw[Q78,eN,eD,Bool.false_and];exact this
 have e:decide (n=0\/d=0)=false:=decide_eq_false h0;have a1:0<n:=by omega
 have an:0<d:=by omega
 have eN:G86 n d=n/fF n d:=if_neg h0;have eD:K87 n d=d/fF n d:=if_neg h0;have eS:B85 s n d=s:=by rw[Q78,decide_eq_true a1,Bool.and_true]
 have a5:0<fF n d:=Nat.gcd_pos_of_pos_left _ a1;simp(disch:=first|omega|assumption)only[W0,e];refine N5 (fun L H' nx'=>∃ x y,L=[x,y]/\NN H' nx' x (G86 n d)/\NN H' nx' y (K87 n d)/\D0 H5 U H' nx') ?_ ?_
 .intro tj hj
  refine R0 (M77 hw (by omega)) ?_;rintro _ _ _ ⟨rfl,rfl,rfl⟩
  by_cases hb:1<C14 d
  .have a7:(1:Int)<(C14 d:Int):=by omega
   simp(disch:=first|omega|assumption)only[W0,a7];refine R0 (W102 Q hw hl ad) ?_;rintro gq H6 J ⟨a6,E⟩;have aa:(D11 (fF n d)).length<400000:=cE (N73 (Nat.gcd_le_left _ a1)) hl;refine R0 (M77 a6 (by omega)) ?_;rintro _ _ _ ⟨rfl,rfl,rfl⟩
   by_cases aw:1<C14 (fF n d)
   .have a0:(1:Int)<(C14 (fF n d):Int):=by omega
    simp(disch:=first|omega|assumption)only[W0,a0];refine R0 (B79 (Q.ext E) a6 hl aa) ?_;rintro r1 H7 av ⟨aj,a4⟩;obtain⟨x1,y1,rfl,al,az⟩:=W83 a5 aj;simp(disch:=first|omega|assumption)only[W0];refine R0 (B79 ((hw.ext E).ext a4) (a6.ext a4) ad aa) ?_;rintro r2 H8 au ⟨ao,ab⟩;obtain⟨x2,y2,rfl,ak,b3⟩:=W83 a5 ao;simp(disch:=first|omega|assumption)only[W0];exact hj _ _ _ ⟨x1,x2,rfl,by rw[eN];exact al.ext ab,by rw[eD];exact ak,(E.trans a4).trans ab⟩
   .have a0:¬ (1:Int)<(C14 (fF n d):Int):=by omega
    have ai:fF n d=1:=E89.1 (by have:=C65 a5;omega);simp(disch:=first|omega|assumption)only[W0,a0];exact hj _ _ _ ⟨_,_,rfl,by rw[eN,ai,Nat.div_one];exact Q.ext E,by rw[eD,ai,Nat.div_one];exact hw.ext E,E⟩
  .have a7:¬ (1:Int)<(C14 d:Int):=by omega
   have a3:d=1:=E89.1 (by have:=C65 an;omega);simp(disch:=first|omega|assumption)only[W0,a7];refine hj _ _ _ ⟨_,_,rfl,?_,?_,D0.refl _ _⟩
   .rw[eN,a3,Nat.gcd_one_right,Nat.div_one];exact Q
   .rw[eD,a3,Nat.gcd_one_right,Nat.div_one,<- a3];exact hw
 rintro L H6 J ⟨x,y,rfl,hx,hy,E⟩;have g6:=(E.get nx (by have:=O.le;omega)).trans g5;obtain⟨X,cX,rfl,hX⟩:=id hx;obtain⟨Y,cY,rfl,hY⟩:=id hy;simp(disch:=first|omega|assumption)only[W0,g6];rw[W65];simp(disch:=first|omega|assumption)only[W0,Z0,Nat.reduceAdd,z6 E,D7,Y12];have:=a2 s H6 J _ _ _ _ hx hy E;rw[eS];exact this
end Go.Proofs.YtoiioigihocgbaaGreatDoor
namespace Go.Clo
def sg(s:Bool)(n:Nat):Int:=if s=true then -(n:Int) else n
theorem J84(s:Bool)(n:Nat):(sg s n).natAbs=n:=by unfold sg;cases s<;>simp
theorem G110(s:Bool)(n:Nat){d:Nat}(hd:d≠0):(mkRat (sg s n) d).num.natAbs=G86 n d/\(mkRat (sg s n) d).den=K87 n d/\decide ((mkRat (sg s n) d).num<0)=B85 s n d:=by
 have e:mkRat (sg s n) d=Rat.normalize (sg s n) d hd:=by unfold mkRat;rw[dif_neg hd]
 have en:(mkRat (sg s n) d).num=sg s n/((fF n d:Nat):Int):=by
  rw[e,Rat.normalize_eq];dsimp only;rw[J84]
 have ed:(mkRat (sg s n) d).den=d/fF n d:=by
  rw[e,Rat.normalize_eq];dsimp only;rw[J84]
 rw[Q78];simp only[en,ed];have hg:0<fF n d:=Nat.gcd_pos_of_pos_right _ (by omega);obtain⟨k,hk⟩:=Nat.gcd_dvd_left n d;generalize hG:fF n d=G at *
 have J:sg s n/(G:Int)=sg s k:=by
  unfold sg;rw[hk]
  cases s
  .simp only[dQ,if_false]
   rw[Int.natCast_mul,Int.mul_ediv_cancel_left _ (by omega)]
  .simp only[if_true]
   rw[Int.natCast_mul,<- Int.mul_neg,Int.mul_ediv_cancel_left _ (by omega)]
 have E:n/G=k:=by rw[hk,Nat.mul_div_cancel_left _ hg]
 simp only[J,J84];unfold G86 K87;rw[hG]
 by_cases h0:n=0
 .have O:k=0:=by rw[h0] at E;simp at E;exact E.symm
  have Q:G=d:=by rw[<- hG,h0,Nat.gcd_zero_left]
  rw[if_pos (.inl h0),if_pos (.inl h0),O,h0,Q,Nat.div_self (by omega)];refine⟨rfl,rfl,?_⟩;unfold sg;cases s<;>simp
 .have h1:¬ (n=0\/d=0):=by omega
  rw[if_neg h1,if_neg h1];have U:0<k:=by
   rcases cI k with e | e
   .rw[e] at hk;omega
   .exact e
  refine⟨E.symm,rfl,?_⟩;rw[decide_eq_true (show 0<n by omega),Bool.and_true];unfold sg;cases s
  .simp
  .simp;omega
def RR(H:Y0)(nx:Nat)(v:Value)(x:Rat):Prop:=RT H nx v (decide (x.num<0)) x.num.natAbs x.den
theorem RR.ext{H:Y0}{nx:Nat}{v:Value}{x:Rat}{H':Y0}{nx':Nat}(h:RR H nx v x)(e:D0 H nx H' nx'):RR H' nx' v x:=RT.ext h e
theorem B101(x:Rat):sg (decide (x.num<0)) x.num.natAbs=x.num:=by
 unfold sg
 by_cases h:x.num<0
 .rw[if_pos (decide_eq_true h)];omega
 .rw[if_neg (by simp[h])];omega
def U15(x:Rat)(L:Nat):Prop:=(D11 x.num.natAbs).length<L/\(D11 x.den).length<L
end Go.Clo
namespace Go.Proofs.YtoiioigihocgbaaGreatDoor
open Go.Clo
theorem V85{v:Value}{s:Bool}{n d:Nat}{H:Y0}{nx:Nat}(h:RT H nx v s n d)(hd:d≠0)(hl:(D11 n).length<400000)(E:(D11 d).length<400000):
  Q2 Tryz.prog 80 [v] H nx fun r H' nx'=>RR H' nx' r (mkRat (sg s n) d)/\D0 H nx H' nx':=by
 refine(B97 h hl E).mono ?_;rintro r H' nx' ⟨hr,hE⟩;obtain⟨e1,e2,e3⟩:=G110 s n hd;refine⟨?_,hE⟩;unfold RR;rw[e1,e2,e3];exact hr
theorem E71{v:Value}{x:Rat}{H:Y0}{nx:Nat}(h:RR H nx v x)(hx:U15 x 400000):Q2 Tryz.prog 80 [v] H nx fun r H' nx'=>RR H' nx' r x/\D0 H nx H' nx':=by
 have:=V85 h x.den_nz hx.1 hx.2;rw[B101,Rat.mkRat_self] at this;exact this
theorem E74{v:Value}{x:Rat}{H:Y0}{nx:Nat}(h:RR H nx v x)(hx:U15 x 400000):Q2 Tryz.prog 96 [v] H nx fun r H' nx' => .int .i64 (x.num.sign)=r/\D0 H nx H' nx':=by
 obtain⟨nv,dv,rfl,hn,hd⟩:=h;refine spec96 ?_;unfold F96;obtain⟨A0,c0,rfl,Q⟩:=id hn;obtain⟨C0,d0,rfl,O⟩:=id hd;simp(disch:=first|omega|assumption)only[W0,Z0,Q0.val];generalize hK:hs H nx (some (.cells [.bool (decide (x.num<0)),.slice A0 (D11 x.num.natAbs).length c0,.slice C0 (D11 x.den).length d0] 0))=K;have gK:J0 K nx=some (.cells [.bool (decide (x.num<0)),.slice A0 (D11 x.num.natAbs).length c0,.slice C0 (D11 x.den).length d0] 0):=by rw[<- hK,Z11]
 have J:D0 H nx K (nx+1):=by rw[<- hK];exact(D0.refl H nx).new _ (aD _) (by omega)
 refine R0 (M77 (hn.ext J) (by have:=hx.1;omega)) ?_;rintro _ _ _ ⟨rfl,rfl,rfl⟩
 by_cases h0:x.num=0
 .have e:decide ((C14 x.num.natAbs:Int)=0)=true:=decide_eq_true (by rw[h0];rfl)
  simp(disch:=first|omega|assumption)only[W0,h0,Int.sign_zero];exact J
 .have hp:0<x.num.natAbs:=by omega
  have hb:=C65 hp;have e:decide ((C14 x.num.natAbs:Int)=0)=false:=decide_eq_false (by omega)
  by_cases E:x.num<0
  .simp(disch:=first|omega|assumption)only[W0,e,gK,decide_eq_true E,Int.sign_eq_neg_one_of_neg E]
   exact J
  .simp(disch:=first|omega|assumption)only[W0,e,gK,decide_eq_false E,Int.sign_eq_one_of_pos (show 0<x.num by omega)]
   exact J
end Go.Proofs.YtoiioigihocgbaaGreatDoor
namespace Go.Clo
theorem N108(x:Rat):sg (!decide (x.num<0)) x.num.natAbs = -x.num:=by
 unfold sg
 by_cases h:x.num<0
 .simp only[decide_eq_true h,Bool.not_true,dQ,if_false];omega
 .simp only[decide_eq_false h,Bool.not_false,if_true];omega
theorem R101(x:Rat):mkRat (-x.num) x.den = -x:=by rw[<- Rat.neg_mkRat,Rat.mkRat_self]
theorem RR.box{H:Y0}{nx i sl:Nat}{v:Value}{x:Rat}{row row':List Value}(h:RR H nx v x)(hg:J0 H i=some (.cells row sl))(hr:∀(q:Nat)(z:Int),row[q]? ≠ some (cD .u32 z)):RR (hs H i (some (.cells row' 0))) nx v x:=
 let ⟨a,b,h1,h2,h3⟩:=h;⟨a,b,h1,NN.box h2 hg hr,NN.box h3 hg hr⟩
end Go.Clo
namespace Go.Proofs.YtoiioigihocgbaaGreatDoor
open Go.Clo
theorem G102{v:Value}{x:Rat}{H:Y0}{nx:Nat}(h:RR H nx v x)(hx:U15 x 400000):Q2 Tryz.prog 138 [v] H nx fun r H' nx'=>RR H' nx' r (-x)/\D0 H nx H' nx':=by
 obtain⟨nv,dv,rfl,hn,hd⟩:=h;refine spec138 ?_;unfold F138;obtain⟨A0,c0,rfl,Z⟩:=id hn;obtain⟨C0,d0,rfl,W⟩:=id hd;simp(disch:=first|omega|assumption)only[W0,Z0,Q0.val];have J:J0 (hs (hs H nx (some (.cells [.bool (decide (x.num<0)),.slice A0 (D11 x.num.natAbs).length c0,.slice C0 (D11 x.den).length d0] 0))) (nx+1) (some (.cells [.bool false,.slice none 0 0,.slice none 0 0] 0))) (nx+1)=some (.cells [.bool false,.slice none 0 0,.slice none 0 0] 0):=Z11 _ _ _;have E:D0 H nx (hs (hs H nx (some (.cells [.bool (decide (x.num<0)),.slice A0 (D11 x.num.natAbs).length c0,.slice C0 (D11 x.den).length d0] 0))) (nx+1) (some (.cells [.bool false,.slice none 0 0,.slice none 0 0] 0))) (nx+1+1):=
  ((D0.refl H nx).new _ (aD _) (by omega):D0 H nx _ (nx+1)).new _ (by omega) (by omega)
 generalize hs (hs H nx (some (.cells [.bool (decide (x.num<0)),.slice A0 (D11 x.num.natAbs).length c0,.slice C0 (D11 x.den).length d0] 0))) (nx+1) (some (.cells [.bool false,.slice none 0 0,.slice none 0 0] 0))=K at J E ⊢;rw[W65];refine R0 (V85 (s := !decide (x.num<0)) ⟨_,_,rfl,hn.ext E,hd.ext E⟩ x.den_nz hx.1 hx.2) ?_;rintro r H3 V ⟨hr,O⟩;rw[N108,R101] at hr;have g3:=(O.get (nx+1) (by omega)).trans J;have hb:=RR.box (row':=[.bool (decide ((-x).num<0)),.slice none 0 0,.slice none 0 0]) hr g3 (E46 _ _ _ _ _ _ _);obtain⟨a1,b1,rfl,U,Q⟩:=id hr;obtain⟨X,cX,rfl,hX⟩:=id U;obtain⟨Y,cY,rfl,hY⟩:=id Q;simp(disch:=first|omega|assumption)only[W0,Z0,Nat.reduceAdd,g3,D7,Y12];exact⟨RR.box hr g3 (E46 _ _ _ _ _ _ _),(E.trans O).hs (by omega)⟩
theorem E95{n:Int}(h1 : -1000000<=n)(h2:n<=1000000)(H:Y0)(nx:Nat):Q2 Tryz.prog 94 [.int .i64 n] H nx fun r H' nx'=>NN H' nx' r n.natAbs/\D0 H nx H' nx':=by
 refine spec94 ?_;unfold F94
 by_cases E:n<0
 .obtain⟨m,rfl⟩:∃ m:Nat,n = -(m:Int):=⟨n.natAbs,by omega⟩
  have hm:0<m:=by omega
  have e1:∀ k:VP,W8 .u64 (.int .i64 (-(m:Int))) k=k (.int .u64 ((18446744073709551616-m:Nat):Int)):=fun k=>by
   rw[Z32];congr 2;simp only[eY,eK,dW];simp;omega
  have e2:∀ k:VP,wUn .neg (.int .u64 ((18446744073709551616-m:Nat):Int)) k=k (.int .u64 (m:Int)):=fun k=>by
   unfold wUn;rw[J8];have:unV .neg (.int .u64 ((18446744073709551616-m:Nat):Int))=some (.int .u64 (IntKind.u64.wrap (0-((18446744073709551616-m:Nat):Int)))):=rfl;rw[this];simp only[aN];congr 2;simp only[eY,eK,dW];simp;omega
  have J : -(m:Int)<0:=E;simp(disch:=first|omega|assumption)only[W0,J,e1,e2];refine R0 (R81 (n:=m) (by omega) H nx) ?_;rintro r H1 O ⟨hr,hE⟩;rw[show(-(m:Int)).natAbs=m by omega];exact⟨hr,hE⟩
 .obtain⟨m,rfl⟩:∃ m:Nat,n=(m:Int):=⟨n.natAbs,by omega⟩
  simp(disch:=first|omega|assumption)only[W0,E,U22 _ (show m<18446744073709551616 by omega)];refine R0 (R81 (n:=m) (by omega) H nx) ?_;rintro r H1 O ⟨hr,hE⟩;exact⟨hr,hE⟩
end Go.Proofs.YtoiioigihocgbaaGreatDoor
namespace Go.Clo
theorem B72{a b la lb:Nat}(ha:(D11 a).length<=la)(hb:(D11 b).length<=lb):(D11 (a*b)).length<=la+lb:=by
 have h1:a<4294967296^la:=aO (Q68 a) (aK (by omega) ha);have h2:b<4294967296^lb:=aO (Q68 b) (aK (by omega) hb);refine E29 ?_;rw[Nat.pow_add];exact Nat.mul_lt_mul_of_lt_of_lt h1 h2
theorem D109(x y:Rat):sg (!(decide (x.num<0)==decide (y.num<0))) (x.num.natAbs*y.num.natAbs)=x.num*y.num:=by
 unfold sg;have ex:(x.num.natAbs:Int)=if x.num<0 then -x.num else x.num:=by split<;>omega
 have ey:(y.num.natAbs:Int)=if y.num<0 then -y.num else y.num:=by split<;>omega
 rw[Int.natCast_mul,ex,ey]
 by_cases hx:x.num<0
 .by_cases hy:y.num<0
  .simp[hx,hy,Int.neg_mul,Int.mul_neg]
  .simp[hx,hy,Int.neg_mul]
 .by_cases hy:y.num<0
  .simp[hx,hy,Int.mul_neg]
  .simp[hx,hy]
theorem N101(x y:Rat):mkRat (x.num*y.num) (x.den*y.den)=x*y:=by
 rw[<- Rat.mkRat_mul_mkRat,Rat.mkRat_self,Rat.mkRat_self]
theorem N86(neg a b:Bool)(k:VP):D9 (.eqb neg) [.bool a,.bool b] k=k (.bool (cond neg (!(a==b)) (a==b))):=by
 unfold D9;rw[J8];rfl
theorem RR.form{H:Y0}{nx:Nat}{v:Value}{x:Rat}(h:RR H nx v x):∃ A l1 c1 C l2 c2,v = .agg ⟨[.bool (decide (x.num<0)),.slice A l1 c1,.slice C l2 c2]⟩/\NN H nx (.slice A l1 c1) x.num.natAbs/\NN H nx (.slice C l2 c2) x.den:=by
 obtain⟨a,b,rfl,h1,h2⟩:=h;obtain⟨A,c1,rfl,_⟩:=id h1;obtain⟨C,c2,rfl,_⟩:=id h2;exact⟨A,_,c1,C,_,c2,rfl,h1,h2⟩
end Go.Clo
namespace Go.Proofs.YtoiioigihocgbaaGreatDoor
open Go.Clo
theorem N100{v w:Value}{x y:Rat}{H:Y0}{nx:Nat}(hv:RR H nx v x)(hw:RR H nx w y)(hx:U15 x 100000)(hy:U15 y 100000):
  Q2 Tryz.prog 143 [v,w] H nx fun r H' nx'=>RR H' nx' r (x*y)/\D0 H nx H' nx':=by
 obtain⟨A0,l0,c0,C0,m0,d0,rfl,bu,c8⟩:=hv.form;obtain⟨A1,l1,c1,C1,m1,d1,rfl,bx,c9⟩:=hw.form;refine spec143 ?_;unfold F143;generalize ai:decide (x.num<0)=sx at *
 generalize av:decide (y.num<0)=sy at *
 simp(disch:=first|omega|assumption)only[W0,Z0,Q0.val];obtain⟨K,hK⟩:∃ K,K=hs (hs (hs H nx (some (.cells [.bool sx,.slice A0 l0 c0,.slice C0 m0 d0] 0))) (nx+1) (some (.cells [.bool sy,.slice A1 l1 c1,.slice C1 m1 d1] 0))) (nx+1+1) (some (.cells [.bool false,.slice none 0 0,.slice none 0 0] 0)):=⟨_,rfl⟩
 have a9:J0 K nx=some (.cells [.bool sx,.slice A0 l0 c0,.slice C0 m0 d0] 0):=by rw[hK,Z1 _ (by omega),Z1 _ (by omega),Z11]
 have aw:J0 K (nx+1)=some (.cells [.bool sy,.slice A1 l1 c1,.slice C1 m1 d1] 0):=by rw[hK,Z1 _ (by omega),Z11]
 have bc:J0 K (nx+1+1)=some (.cells [.bool false,.slice none 0 0,.slice none 0 0] 0):=by rw[hK,Z11]
 have a1:D0 H nx K (nx+1+1+1+6):=⟨by omega,fun i hi=>by rw[hK,Z1 _ (by omega),Z1 _ (by omega),Z1 _ (by omega)]⟩
 rw[<- hK];simp(disch:=first|omega|assumption)only[W0,Y12];have b8:RR K (nx+1+1+1+6) (.agg ⟨[.bool sx,.slice A0 l0 c0,.slice C0 m0 d0]⟩) x:=hv.ext a1;refine R0 (E71 b8 ⟨by have:=hx.1;omega,by have:=hx.2;omega⟩) ?_;rintro r1 H5 c7 ⟨ag,J⟩;have a8:=(J.get nx (by omega)).trans a9;have Z:=(J.get (nx+1) (by omega)).trans aw;have aj:=(J.get (nx+1+1) (by omega)).trans bc;obtain⟨A2,l2,c2,C2,m2,d2,rfl,aq,an⟩:=ag.form;simp only[ai] at ag ⊢;simp(disch:=first|omega|assumption)only[W0,Z0,Nat.reduceAdd,Z,Y12];refine R0 (E71 (hw.ext (a1.trans J)) ⟨by have:=hy.1;omega,by have:=hy.2;omega⟩) ?_;rintro r2 H6 a0 ⟨ax,Q⟩;have a5:=(Q.get nx (by have:=J.le;omega)).trans a8;have a3:=(Q.get (nx+1) (by have:=J.le;omega)).trans Z;have ay:=(Q.get (nx+1+1) (by have:=J.le;omega)).trans aj;obtain⟨A3,l3,c3,C3,m3,d3,rfl,ak,ap⟩:=ax.form;simp only[av] at ax ⊢;obtain⟨M,hM⟩:∃ M,M=hs (hs H6 nx (some (.cells [.bool sx,.slice A2 l2 c2,.slice C2 m2 d2] 0))) (nx+1) (some (.cells [.bool sy,.slice A3 l3 c3,.slice C3 m3 d3] 0)):=⟨_,rfl⟩
 have a7:J0 (hs H6 nx (some (.cells [.bool sx,.slice A2 l2 c2,.slice C2 m2 d2] 0))) (nx+1)=some (.cells [.bool sy,.slice A1 l1 c1,.slice C1 m1 d1] 0):=by rw[Z1 _ (by omega)];exact a3
 have au:J0 M nx=some (.cells [.bool sx,.slice A2 l2 c2,.slice C2 m2 d2] 0):=by rw[hM,Z1 _ (by omega),Z11]
 have ah:J0 M (nx+1)=some (.cells [.bool sy,.slice A3 l3 c3,.slice C3 m3 d3] 0):=by rw[hM,Z11]
 have b4:J0 M (nx+1+1)=some (.cells [.bool false,.slice none 0 0,.slice none 0 0] 0):=by rw[hM,Z1 _ (by omega),Z1 _ (by omega)];exact ay
 have ba:D0 H nx M (a0+18):=⟨by have:=a1.le;have:=J.le;have:=Q.le;omega,fun i hi=>by rw[hM,Z1 _ (by omega),Z1 _ (by omega)];exact((a1.trans J).trans Q).get i hi⟩
 have W:∀ {u:Value} {q:Nat},NN H6 a0 u q->NN M (a0+18) u q:=fun h=>by
  rw[hM];exact NN.ext (NN.box (NN.box h a5 (E46 _ _ _ _ _ _ _)) a7 (E46 _ _ _ _ _ _ _)) (D0.self (by omega))
 simp(disch:=first|omega|assumption)only[W0,Z0,Nat.reduceAdd,a5,a3,D7,N86,cond_true];rw[<- hM];have bg:(D11 x.num.natAbs).length<100000:=hx.1;have bf:(D11 x.den).length<100000:=hx.2;have az:(D11 y.num.natAbs).length<100000:=hy.1;have bd:(D11 y.den).length<100000:=hy.2;refine R0 (Z79 (W (aq.ext Q)) (W ak) (by omega) (by omega)) ?_;rintro p1 ca a6 ⟨ae,E⟩;have bt:nx+1+1<a0:=by have:=a1.le;have:=J.le;have:=Q.le;omega
 have U:=(E.get nx (by omega)).trans au;have V:=(E.get (nx+1) (by omega)).trans ah;have ab:=(E.get (nx+1+1) (by omega)).trans b4;simp(disch:=first|omega|assumption)only[W0,U,V];refine R0 (Z79 ((W (an.ext Q)).ext E) ((W ap).ext E) (by omega) (by omega)) ?_;rintro p2 bz al ⟨ao,O⟩;have b3:a0+18<=a6:=E.le;have aa:=(O.get nx (by omega)).trans U;have ad:=(O.get (nx+1) (by omega)).trans V;have ac:=(O.get (nx+1+1) (by omega)).trans ab;obtain⟨X,cX,rfl,hX⟩:=id ae;obtain⟨Y,cY,rfl,hY⟩:=id ao;rw[W65];have bw:=B72 (la:=100000) (lb:=100000) (eG bg) (eG az);have c6:=B72 (la:=100000) (lb:=100000) (eG bf) (eG bd);refine R0 (V85 (s := !(sx==sy)) ⟨_,_,rfl,ae.ext O,ao⟩ (Nat.mul_ne_zero x.den_nz y.den_nz) (by omega) (by omega)) ?_;rintro r bv bh ⟨hr,a4⟩;have e3:=D109 x y;rw[ai,av] at e3;rw[e3,N101] at hr;have b5:a6<=al:=O.le;have a2:=(a4.get (nx+1+1) (by omega)).trans ac;obtain⟨A4,l4,c4,C4,m4,d4,rfl,bk,bo⟩:=id hr.form;simp(disch:=first|omega|assumption)only[W0,Z0,Nat.reduceAdd,a2,D7,Y12,aa,ad];exact⟨RR.box hr a2 (E46 _ _ _ _ _ _ _),(((ba.trans E).trans O).trans a4).hs (by omega)⟩
end Go.Proofs.YtoiioigihocgbaaGreatDoor
namespace Go.Clo
theorem Q83(y:Rat)(h:y.num≠0):(y⁻¹).num=sg (decide (y.num<0)) y.den/\(y⁻¹).den=y.num.natAbs:=by
 show(Rat.inv y).num=_/\(Rat.inv y).den=_;unfold Rat.inv
 by_cases h1:y.num<0
 .rw[dif_pos h1]
  refine⟨?_,rfl⟩;unfold sg;simp[h1]
 .rw[dif_neg h1,dif_pos (show y.num > 0 by omega)]
  refine⟨?_,rfl⟩;unfold sg;simp[h1]
theorem R108(y:Rat)(h:y.num≠0):decide ((y⁻¹).num<0)=decide (y.num<0):=by
 rw[(Q83 y h).1];have:=y.den_pos;unfold sg
 by_cases h1:y.num<0
 .simp[h1];omega
 .simp[h1]
end Go.Clo
namespace Go.Proofs.YtoiioigihocgbaaGreatDoor
open Go.Clo
theorem M101{v w:Value}{x y:Rat}{H:Y0}{nx:Nat}(hv:RR H nx v x)(hw:RR H nx w y)(hx:U15 x 100000)(hy:U15 y 100000)(O:y.num≠0):
  Q2 Tryz.prog 141 [v,w] H nx fun r H' nx'=>(∃ u,r = .tuple ⟨[u,.int .i64 0]⟩/\RR H' nx' u (x/y))/\D0 H nx H' nx':=by
 obtain⟨A0,l0,c0,C0,m0,d0,rfl,ak,ap⟩:=hv.form;obtain⟨A1,l1,c1,C1,m1,d1,rfl,al,aq⟩:=hw.form;refine spec141 ?_;unfold F141;generalize aj:decide (x.num<0)=sx at *
 generalize a7:decide (y.num<0)=sy at *
 simp(disch:=first|omega|assumption)only[W0,Z0,Q0.val];obtain⟨K,hK⟩:∃ K,K=hs (hs (hs H nx (some (.cells [.bool sx,.slice A0 l0 c0,.slice C0 m0 d0] 0))) (nx+1) (some (.cells [.bool sy,.slice A1 l1 c1,.slice C1 m1 d1] 0))) (nx+1+1) (some (.cells [.bool false,.slice none 0 0,.slice none 0 0] 0)):=⟨_,rfl⟩
 have a9:J0 K nx=some (.cells [.bool sx,.slice A0 l0 c0,.slice C0 m0 d0] 0):=by rw[hK,Z1 _ (by omega),Z1 _ (by omega),Z11]
 have a8:J0 K (nx+1)=some (.cells [.bool sy,.slice A1 l1 c1,.slice C1 m1 d1] 0):=by rw[hK,Z1 _ (by omega),Z11]
 have ab:J0 K (nx+1+1)=some (.cells [.bool false,.slice none 0 0,.slice none 0 0] 0):=by rw[hK,Z11]
 have a0:D0 H nx K (nx+1+1+1):=⟨by omega,fun i hi=>by rw[hK,Z1 _ (by omega),Z1 _ (by omega),Z1 _ (by omega)]⟩
 rw[<- hK];simp(disch:=first|omega|assumption)only[Y12];have ad:RR K (nx+1+1+1) (.agg ⟨[.bool sy,.slice A1 l1 c1,.slice C1 m1 d1]⟩) y:=hw.ext a0;refine R0 (E71 ad ⟨by have:=hy.1;omega,by have:=hy.2;omega⟩) ?_;rintro r1 H5 Z ⟨a1,E⟩;have V:=(E.get nx (by omega)).trans a9;have J:=(E.get (nx+1) (by omega)).trans a8;have a3:=(E.get (nx+1+1) (by omega)).trans ab;obtain⟨A2,l2,c2,C2,m2,d2,rfl,U,a5⟩:=a1.form;simp only[a7] at a1 ⊢;have hL:l2=(D11 y.num.natAbs).length:=by
  obtain⟨A,c,e,_⟩:=U
  cases e;rfl
 have ac:decide (l2=0)=false:=decide_eq_false (fun e=>O (by
  have:=M65.1 (hL.symm.trans e);omega))
 obtain⟨M,hM⟩:∃ M,M=hs H5 (nx+1) (some (.cells [.bool sy,.slice A2 l2 c2,.slice C2 m2 d2] 0)):=⟨_,rfl⟩
 have ao:J0 M nx=some (.cells [.bool sx,.slice A0 l0 c0,.slice C0 m0 d0] 0):=by rw[hM,Z1 _ (by omega)];exact V
 have ag:J0 M (nx+1)=some (.cells [.bool sy,.slice A2 l2 c2,.slice C2 m2 d2] 0):=by rw[hM,Z11]
 have aa:J0 M (nx+1+1)=some (.cells [.bool false,.slice none 0 0,.slice none 0 0] 0):=by rw[hM,Z1 _ (by omega)];exact a3
 have a4:D0 H nx M Z:=⟨by have:=a0.le;have:=E.le;omega,fun i hi=>by rw[hM,Z1 _ (by omega)];exact(a0.trans E).get i hi⟩
 have an:nx+1+1<Z:=by have:=E.le;omega
 simp(disch:=first|omega|assumption)only[W0,Z0,Nat.reduceAdd,J,D7,Y12,V,ac];rw[<- hM];rw[W65];have a6:RR M Z (.agg ⟨[.bool sy,.slice C2 m2 d2,.slice A2 l2 c2]⟩) (y⁻¹):=by
  obtain⟨e1,e2⟩:=Q83 y O;unfold RR;rw[R108 y O,a7,e1,e2,J84,hM];exact⟨_,_,rfl,NN.box a5 J (E46 _ _ _ _ _ _ _),NN.box U J (E46 _ _ _ _ _ _ _)⟩
 have W:U15 (y⁻¹) 100000:=by
  obtain⟨e1,e2⟩:=Q83 y O;unfold U15;rw[e1,e2,J84];exact⟨hy.2,hy.1⟩
 refine R0 (N100 (hv.ext a4) a6 hx W) ?_;rintro r H7 ae ⟨hr,a2⟩;have Q:=(a2.get (nx+1+1) (by omega)).trans aa;obtain⟨A4,l4,c4,C4,m4,d4,rfl,ah,ai⟩:=id hr.form;simp(disch:=first|omega|assumption)only[W0,Z0,Nat.reduceAdd,Q,D7,Y12];refine⟨⟨_,rfl,?_⟩,(a4.trans a2).hs (by omega)⟩;rw[Rat.div_def];exact RR.box hr Q (E46 _ _ _ _ _ _ _)
end Go.Proofs.YtoiioigihocgbaaGreatDoor
namespace Go.Clo
theorem W98(x:Rat)(d:Nat):sg (decide (x.num<0)) (x.num.natAbs*d)=x.num*(d:Int):=by
 have e:=B101 x;unfold sg at *
 by_cases h:decide (x.num<0)=true
 .rw[if_pos h] at *
  rw[Int.natCast_mul,<- Int.neg_mul,e]
 .rw[if_neg h] at *
  rw[Int.natCast_mul,e]
theorem R102(x y:Rat):mkRat (x.num*(y.den:Int)+y.num*(x.den:Int)) (x.den*y.den)=x+y:=by
 have:=Rat.mkRat_add_mkRat x.num y.num x.den_nz y.den_nz;rw[Rat.mkRat_self,Rat.mkRat_self] at this;exact this.symm
theorem E109(s:Bool)(a b:Nat):sg s (a+b)=sg s a+sg s b:=by unfold sg;cases s<;>simp<;>omega
theorem G108(s:Bool){a b:Nat}(h:b<=a):sg s (a-b)=sg s a+sg (!s) b:=by unfold sg;cases s<;>simp<;>omega
theorem B108(s:Bool){a b:Nat}(h:a<=b):sg (!s) (b-a)=sg s a+sg (!s) b:=by unfold sg;cases s<;>simp<;>omega
theorem N98{a b L:Nat}(ha:(D11 a).length<=L)(hb:(D11 b).length<=L):(D11 (a+b)).length<=L+1:=by
 have h1:a<4294967296^L:=aO (Q68 a) (aK (by omega) ha);have h2:b<4294967296^L:=aO (Q68 b) (aK (by omega) hb);refine E29 ?_;rw[dR];omega
end Go.Clo
namespace Go.Proofs.YtoiioigihocgbaaGreatDoor
open Go.Clo
theorem Q109{v w:Value}{x y:Rat}{H:Y0}{nx:Nat}(hv:RR H nx v x)(hw:RR H nx w y)(hx:U15 x 100000)(hy:U15 y 100000):
  Q2 Tryz.prog 144 [v,w] H nx fun r H' nx'=>RR H' nx' r (x+y)/\D0 H nx H' nx':=by
 obtain⟨A0,l0,c0,C0,m0,d0,rfl,dw,dp⟩:=hv.form;obtain⟨A1,l1,c1,C1,m1,d1,rfl,dx,dq⟩:=hw.form;refine spec144 ?_;unfold F144;generalize ci:decide (x.num<0)=sx at *
 generalize c8:decide (y.num<0)=sy at *
 simp(disch:=first|omega|assumption)only[W0,Z0,Q0.val];obtain⟨K,hK⟩:∃ K,K=hs (hs (hs H nx (some (.cells [.bool sx,.slice A0 l0 c0,.slice C0 m0 d0] 0))) (nx+1) (some (.cells [.bool sy,.slice A1 l1 c1,.slice C1 m1 d1] 0))) (nx+1+1) (some (.cells [.bool false,.slice none 0 0,.slice none 0 0] 0)):=⟨_,rfl⟩
 have b8:J0 K nx=some (.cells [.bool sx,.slice A0 l0 c0,.slice C0 m0 d0] 0):=by rw[hK,Z1 _ (by omega),Z1 _ (by omega),Z11]
 have ct:J0 K (nx+1)=some (.cells [.bool sy,.slice A1 l1 c1,.slice C1 m1 d1] 0):=by rw[hK,Z1 _ (by omega),Z11]
 have de:J0 K (nx+1+1)=some (.cells [.bool false,.slice none 0 0,.slice none 0 0] 0):=by rw[hK,Z11]
 have ai:D0 H nx K (nx+1+1+1+6):=⟨by omega,fun i hi=>by rw[hK,Z1 _ (by omega),Z1 _ (by omega),Z1 _ (by omega)]⟩
 rw[<- hK];simp(disch:=first|omega|assumption)only[W0,Y12];have cx:RR K (nx+1+1+1+6) (.agg ⟨[.bool sx,.slice A0 l0 c0,.slice C0 m0 d0]⟩) x:=hv.ext ai;refine R0 (E71 cx ⟨by have:=hx.1;omega,by have:=hx.2;omega⟩) ?_;rintro r1 H5 dy ⟨ce,V⟩;have b4:=(V.get nx (by omega)).trans b8;have ae:=(V.get (nx+1) (by omega)).trans ct;have bv:=(V.get (nx+1+1) (by omega)).trans de;obtain⟨A2,l2,c2,C2,m2,d2,rfl,c7,az⟩:=ce.form;simp only[ci] at ce ⊢;simp(disch:=first|omega|assumption)only[W0,Z0,Nat.reduceAdd,ae,Y12];refine R0 (E71 (hw.ext (ai.trans V)) ⟨by have:=hy.1;omega,by have:=hy.2;omega⟩) ?_;rintro r2 H6 ag ⟨c9,a3⟩;have ao:=(a3.get nx (by have:=V.le;omega)).trans b4;have aw:=(a3.get (nx+1) (by have:=V.le;omega)).trans ae;have cc:=(a3.get (nx+1+1) (by have:=V.le;omega)).trans bv;obtain⟨A3,l3,c3,C3,m3,d3,rfl,ck,b3⟩:=c9.form;simp only[c8] at c9 ⊢;obtain⟨M,hM⟩:∃ M,M=hs (hs H6 nx (some (.cells [.bool sx,.slice A2 l2 c2,.slice C2 m2 d2] 0))) (nx+1) (some (.cells [.bool sy,.slice A3 l3 c3,.slice C3 m3 d3] 0)):=⟨_,rfl⟩
 have au:J0 (hs H6 nx (some (.cells [.bool sx,.slice A2 l2 c2,.slice C2 m2 d2] 0))) (nx+1)=some (.cells [.bool sy,.slice A1 l1 c1,.slice C1 m1 d1] 0):=by rw[Z1 _ (by omega)];exact aw
 have cq:J0 M nx=some (.cells [.bool sx,.slice A2 l2 c2,.slice C2 m2 d2] 0):=by rw[hM,Z1 _ (by omega),Z11]
 have bu:J0 M (nx+1)=some (.cells [.bool sy,.slice A3 l3 c3,.slice C3 m3 d3] 0):=by rw[hM,Z11]
 have d7:J0 M (nx+1+1)=some (.cells [.bool false,.slice none 0 0,.slice none 0 0] 0):=by rw[hM,Z1 _ (by omega),Z1 _ (by omega)];exact cc
 have cy:D0 H nx M (ag+12):=⟨by have:=ai.le;have:=V.le;have:=a3.le;omega,fun i hi=>by rw[hM,Z1 _ (by omega),Z1 _ (by omega)];exact((ai.trans V).trans a3).get i hi⟩
 have W:∀ {u:Value} {q:Nat},NN H6 ag u q->NN M (ag+12) u q:=fun h=>by
  rw[hM];exact NN.ext (NN.box (NN.box h ao (E46 _ _ _ _ _ _ _)) au (E46 _ _ _ _ _ _ _)) (D0.self (by omega))
 simp(disch:=first|omega|assumption)only[W0,Z0,Nat.reduceAdd,ao,aw,D7];rw[<- hM];have di:(D11 x.num.natAbs).length<100000:=hx.1;have bz:(D11 x.den).length<100000:=hx.2;have cu:(D11 y.num.natAbs).length<100000:=hy.1;have cn:(D11 y.den).length<100000:=hy.2;refine R0 (Z79 (W (c7.ext a3)) (W b3) (by omega) (by omega)) ?_;rintro p1 dr ay ⟨cv,E⟩;have dl:nx+1+1<ag:=by have:=ai.le;have:=V.le;have:=a3.le;omega
 have a4:=(E.get nx (by omega)).trans cq;have a5:=(E.get (nx+1) (by omega)).trans bu;have bc:=(E.get (nx+1+1) (by omega)).trans d7;simp(disch:=first|omega|assumption)only[W0,a4,a5];refine R0 (Z79 ((W ck).ext E) ((W (az.ext a3)).ext E) (by omega) (by omega)) ?_;rintro p2 dm ax ⟨dg,O⟩;have d6:ag+12<=ay:=E.le;have ad:=(O.get nx (by omega)).trans a4;have a9:=(O.get (nx+1) (by omega)).trans a5;have bh:=(O.get (nx+1+1) (by omega)).trans bc;have d9:ay<=ax:=O.le;simp(disch:=first|omega|assumption)only[W0,ad,a9];refine R0 (Z79 (((W (az.ext a3)).ext E).ext O) (((W b3).ext E).ext O) (by omega) (by omega)) ?_;rintro p3 bd a1 ⟨cg,Q⟩;have dk:ax<=a1:=Q.le;have J:=(Q.get nx (by omega)).trans ad;have a2:=(Q.get (nx+1) (by omega)).trans a9;have bk:=(Q.get (nx+1+1) (by omega)).trans bh;have a7:=(cv.ext O).ext Q;have ak:=dg.ext Q;have da:=B72 (la:=100000) (lb:=100000) (eG di) (eG cn);have db:=B72 (la:=100000) (lb:=100000) (eG cu) (eG bz);have dd:=B72 (la:=100000) (lb:=100000) (eG bz) (eG cn);have e1:=W98 x y.den;have e2:=W98 y x.den;rw[ci] at e1;rw[c8] at e2;generalize dz:x.num.natAbs*y.den=na at *
 generalize dt:y.num.natAbs*x.den=nb at *
 have bw:x.den*y.den≠0:=Nat.mul_ne_zero x.den_nz y.den_nz;obtain⟨Z,cZ,a6,hZ⟩:=id cg;have b5:∀(s:Bool) (n:Nat) (u:Value) (H7:Y0) (al:Nat),D0 bd a1 H7 al->NN H7 al u n->sg s n=x.num*(y.den:Int)+y.num*(x.den:Int)->(D11 n).length<400000 ->
   Q2 Tryz.prog 80 [.agg ⟨[.bool s,u,p3]⟩] H7 al fun r H' nx'=>(∃ A l c C m d b,r = .agg ⟨[.bool b,.slice A l c,.slice C m d]⟩/\RR (hs H' (nx+1+1) (some (.cells [.bool b,.slice A l c,.slice C m d] 0))) nx' r (x+y)/\D0 H nx (hs H' (nx+1+1) (some (.cells [.bool b,.slice A l c,.slice C m d] 0))) nx') /\
    J0 H' (nx+1+1)=some (.cells [.bool false,.slice none 0 0,.slice none 0 0] 0)/\D0 bd a1 H' nx':=by
  intro s n u H7 al ac hu cz hl;refine(V85 ⟨u,p3,rfl,hu,cg.ext ac⟩ bw hl (by omega)).mono ?_;rintro r H' nx' ⟨hr,bo⟩;have g':=(bo.get (nx+1+1) (by have:=ac.le;omega)).trans ((ac.get (nx+1+1) (by omega)).trans bk);rw[cz,R102] at hr;obtain⟨A4,l4,c4,C4,m4,d4,rfl,du,dv⟩:=id hr.form;exact⟨⟨A4,l4,c4,C4,m4,d4,_,rfl,RR.box hr g' (E46 _ _ _ _ _ _ _),(((((cy.trans E).trans O).trans Q).trans ac).trans bo).hs (by omega)⟩,g',ac.trans bo⟩
 by_cases an:sx=sy
 .have bg:(sx==sy)=true:=by rw[an];exact beq_self_eq_true sy
  simp(disch:=first|omega|assumption)only[W0,J,a2,N86,cond_false,bg];refine R0 (K110 (a7.ext (D0.self (by omega:a1<=a1+9))) (ak.ext (D0.self (by omega))) (by omega) (by omega)) ?_;rintro u cd ap ⟨hu,cj⟩;have ab:D0 bd a1 cd ap:=(D0.self (by omega)).trans cj;have bf:=(ab.get nx (by omega)).trans J;obtain⟨U,cU,rfl,hU⟩:=id hu;have dn:=N98 (L:=200000) da db;rw[a6,W65,<- a6];refine R0 (b5 sx (na+nb) _ cd ap ab hu (by rw[E109,e1];rw[an,e2]) (by omega)) ?_;rintro r cp av ⟨⟨A,l,c,C,m,d,b,rfl,hr,ah⟩,aj,aa⟩;have dc:=(aa.get nx (by omega)).trans J;simp(disch:=first|omega|assumption)only[W0,Z0,Nat.reduceAdd,aj,D7,Y12,bf];exact⟨hr,ah⟩
 .have bg:(sx==sy)=false:=beq_false_of_ne an
  have aq:sy = !sx:=by revert an;cases sx<;>cases sy<;>simp
  simp(disch:=first|omega|assumption)only[W0,J,a2,N86,cond_false,bg];refine R0 (C101 a7 ak (by omega) (by omega)) ?_;rintro t dj ca ⟨ht,a0⟩;have bt:=(a0.get nx (by omega)).trans J;have df:=(a0.get (nx+1) (by omega)).trans a2
  by_cases cf:na<nb
  .rw[if_pos cf] at ht
   subst ht;have dh:decide ((19:Int)=0)=false:=rfl;simp(disch:=first|omega|assumption)only[W0,dh];refine R0 (C101 (ak.ext a0) (a7.ext a0) (by omega) (by omega)) ?_;rintro t2 d5 bx ⟨c6,co⟩;rw[if_neg (by omega)] at c6;obtain⟨u,rfl,hu⟩:=c6;have a8:=a0.trans co;have ba:=(a8.get (nx+1) (by omega)).trans a2;obtain⟨U,cU,rfl,hU⟩:=id hu;simp(disch:=first|omega|assumption)only[W0,ba];rw[a6,W65,<- a6];refine R0 (b5 sy (nb-na) _ d5 bx a8 hu (by rw[aq] at e2 ⊢;rw[B108 sx (by omega),e1,e2]) (cE (N73 (Nat.sub_le nb na)) (by omega))) ?_;rintro r cp av ⟨⟨A,l,c,C,m,d,b,rfl,hr,ah⟩,aj,aa⟩;simp(disch:=first|omega|assumption)only[W0,Z0,Nat.reduceAdd,aj,D7,Y12];exact⟨hr,ah⟩
  .rw[if_neg cf] at ht
   obtain⟨u,rfl,hu⟩:=ht;obtain⟨U,cU,rfl,hU⟩:=id hu;have d8:decide ((0:Int)=0)=true:=rfl;simp(disch:=first|omega|assumption)only[W0,bt];rw[a6,W65,<- a6];refine R0 (b5 sx (na-nb) _ dj ca a0 hu (by rw[G108 sx (by omega),e1];rw[aq] at e2;rw[e2]) (cE (N73 (Nat.sub_le na nb)) (by omega))) ?_;rintro r cp av ⟨⟨A,l,c,C,m,d,b,rfl,hr,ah⟩,aj,aa⟩;simp(disch:=first|omega|assumption)only[W0,Z0,Nat.reduceAdd,aj,D7,Y12];exact⟨hr,ah⟩
theorem Z110{v w:Value}{x y:Rat}{H:Y0}{nx:Nat}(hv:RR H nx v x)(hw:RR H nx w y)(hx:U15 x 100000)(hy:U15 y 100000):
  Q2 Tryz.prog 142 [v,w] H nx fun r H' nx'=>RR H' nx' r (x-y)/\D0 H nx H' nx':=by
 obtain⟨A0,l0,c0,C0,m0,d0,rfl,ad,aa⟩:=hv.form;obtain⟨A1,l1,c1,C1,m1,d1,rfl,a4,ac⟩:=hw.form;refine spec142 ?_;unfold F142;generalize a8:decide (x.num<0)=sx at *
 generalize ab:decide (y.num<0)=sy at *
 simp(disch:=first|omega|assumption)only[W0,Z0,Q0.val];obtain⟨K,hK⟩:∃ K,K=hs (hs (hs H nx (some (.cells [.bool sx,.slice A0 l0 c0,.slice C0 m0 d0] 0))) (nx+1) (some (.cells [.bool sy,.slice A1 l1 c1,.slice C1 m1 d1] 0))) (nx+1+1) (some (.cells [.bool false,.slice none 0 0,.slice none 0 0] 0)):=⟨_,rfl⟩
 have O:J0 K nx=some (.cells [.bool sx,.slice A0 l0 c0,.slice C0 m0 d0] 0):=by rw[hK,Z1 _ (by omega),Z1 _ (by omega),Z11]
 have a1:J0 K (nx+1)=some (.cells [.bool sy,.slice A1 l1 c1,.slice C1 m1 d1] 0):=by rw[hK,Z1 _ (by omega),Z11]
 have a2:J0 K (nx+1+1)=some (.cells [.bool false,.slice none 0 0,.slice none 0 0] 0):=by rw[hK,Z11]
 have Q:D0 H nx K (nx+1+1+1+5):=⟨by omega,fun i hi=>by rw[hK,Z1 _ (by omega),Z1 _ (by omega),Z1 _ (by omega)]⟩
 rw[<- hK];simp(disch:=first|omega|assumption)only[W0,Y12];have a3:RR K (nx+1+1+1+5) (.agg ⟨[.bool sy,.slice A1 l1 c1,.slice C1 m1 d1]⟩) y:=hw.ext Q;refine R0 (G102 a3 ⟨by have:=hy.1;omega,by have:=hy.2;omega⟩) ?_;rintro r1 H5 a6 ⟨a0,E⟩;have U:=(E.get nx (by omega)).trans O;have V:=(E.get (nx+1+1) (by omega)).trans a2;have Z:U15 (-y) 100000:=by
  unfold U15;rw[Rat.neg_num,Rat.neg_den,Int.natAbs_neg];exact hy
 refine R0 (Q109 ((hv.ext Q).ext E) a0 hx Z) ?_;rintro r H6 a9 ⟨hr,W⟩;have J:=(W.get (nx+1+1) (by have:=E.le;omega)).trans V;obtain⟨A4,l4,c4,C4,m4,d4,rfl,a5,a7⟩:=id hr.form;simp(disch:=first|omega|assumption)only[W0,Z0,Nat.reduceAdd,J,D7,Y12,U];rw[Rat.sub_eq_add_neg];exact⟨RR.box hr J (E46 _ _ _ _ _ _ _),((Q.trans E).trans W).hs (by omega)⟩
end Go.Proofs.YtoiioigihocgbaaGreatDoor
namespace Go.Clo
def N70(x y:Rat):Int:=if x<y then -1 else if y<x then 1 else 0
theorem K94(x y:Rat):N70 x y=if x.num*(y.den:Int)<y.num*(x.den:Int) then -1 else if y.num*(x.den:Int)<x.num*(y.den:Int) then 1 else 0:=by
 unfold N70;simp only[Rat.lt_iff]
theorem G100(x y:Rat)(h:x.num.sign≠y.num.sign):(if x.num.sign<y.num.sign then(-1:Int) else if y.num.sign<x.num.sign then 1 else 0)=N70 x y:=by
 rw[K94];have hx:=Int.natCast_pos.2 x.den_pos;have hy:=Int.natCast_pos.2 y.den_pos;have sx:x.num.sign=1/\0<x.num\/x.num.sign=0/\x.num=0\/x.num.sign = -1/\x.num<0:=by
  rcases Int.lt_trichotomy x.num 0 with h | h | h
  .exact .inr (.inr ⟨Int.sign_eq_neg_one_of_neg h,h⟩)
  .exact .inr (.inl ⟨by rw[h];rfl,h⟩)
  .exact .inl ⟨Int.sign_eq_one_of_pos h,h⟩
 have sy:y.num.sign=1/\0<y.num\/y.num.sign=0/\y.num=0\/y.num.sign = -1/\y.num<0:=by
  rcases Int.lt_trichotomy y.num 0 with h | h | h
  .exact .inr (.inr ⟨Int.sign_eq_neg_one_of_neg h,h⟩)
  .exact .inr (.inl ⟨by rw[h];rfl,h⟩)
  .exact .inl ⟨Int.sign_eq_one_of_pos h,h⟩
 have px:∀(n:Int) (d:Int),0<d->(0<n->0<n*d)/\(n=0->n*d=0)/\(n<0->n*d<0):=fun n d hd=>
  ⟨fun h=>Int.mul_pos h hd,fun h=>by rw[h,Int.zero_mul],fun h=>Int.mul_neg_of_neg_of_pos h hd⟩
 obtain⟨p1,p2,p3⟩:=px x.num y.den hy;obtain⟨q1,q2,q3⟩:=px y.num x.den hx;generalize x.num*(y.den:Int)=a at *
 generalize y.num*(x.den:Int)=b at *
 rcases sx with ⟨e,hs⟩ | ⟨e,hs⟩ | ⟨e,hs⟩<;>rcases sy with ⟨e',hs'⟩ | ⟨e',hs'⟩ | ⟨e',hs'⟩<;>rw[e,e'] at h ⊢ <;> first | exact absurd rfl h | skip
 all_goals (first | (have:=p1 hs) | (have:=p2 hs) | (have:=p3 hs))
 all_goals (first | (have:=q1 hs') | (have:=q2 hs') | (have:=q3 hs'))
 all_goals (split<;>split<;>first | rfl | omega | (split<;>first | rfl | omega) | skip)
theorem W103(x y:Rat)(h:x.num.sign=y.num.sign):x.num.sign*X72 (x.num.natAbs*y.den) (y.num.natAbs*x.den)=N70 x y:=by
 rw[K94];unfold X72;have e1:((x.num.natAbs*y.den:Nat):Int)=(x.num.natAbs:Int)*(y.den:Int):=Int.natCast_mul _ _;have e2:((y.num.natAbs*x.den:Nat):Int)=(y.num.natAbs:Int)*(x.den:Int):=Int.natCast_mul _ _;generalize x.num.natAbs*y.den=m at *
 generalize y.num.natAbs*x.den=n at *
 rcases Int.lt_trichotomy x.num 0 with hx | hx | hx
 .have sx:=Int.sign_eq_neg_one_of_neg hx
  have hy:y.num<0:=Int.sign_eq_neg_one_iff_neg.1 (h ▸ sx);rw[show(x.num.natAbs:Int) = -x.num by omega,Int.neg_mul] at e1;rw[show(y.num.natAbs:Int) = -y.num by omega,Int.neg_mul] at e2;rw[sx];generalize x.num*(y.den:Int)=a at *
  generalize y.num*(x.den:Int)=b at *
  split<;>split<;>first | rfl | omega | (split<;>first | rfl | omega | (split<;>first | rfl | omega))
 .have hy:y.num=0:=by
   rw[hx] at h;exact Int.sign_eq_zero_iff_zero.1 h.symm
  rw[hx,hy];simp
 .have sx:=Int.sign_eq_one_of_pos hx
  have hy:0<y.num:=Int.sign_eq_one_iff_pos.1 (h ▸ sx);rw[show(x.num.natAbs:Int)=x.num by omega] at e1;rw[show(y.num.natAbs:Int)=y.num by omega] at e2;rw[sx];generalize x.num*(y.den:Int)=a at *
  generalize y.num*(x.den:Int)=b at *
  split<;>split<;>first | rfl | omega | (split<;>first | rfl | omega | (split<;>first | rfl | omega))
end Go.Clo
namespace Go.Proofs.YtoiioigihocgbaaGreatDoor
open Go.Clo
theorem R73{n:Int}(h1 : -1000000<=n)(h2:n<=1000000)(H:Y0)(nx:Nat):Q2 Tryz.prog 75 [.int .i64 n] H nx fun r H' nx'=>RR H' nx' r (n:Rat)/\D0 H nx H' nx':=by
 refine spec75 ?_;unfold F75;simp(disch:=first|omega|assumption)only[W0,Q0.val];obtain⟨K,hK⟩:∃ K,K=hs H nx (some (.cells [.bool false,.slice none 0 0,.slice none 0 0] 0)):=⟨_,rfl⟩
 have gK:J0 K nx=some (.cells [.bool false,.slice none 0 0,.slice none 0 0] 0):=by rw[hK,Z11]
 have V:D0 H nx K (nx+1):=⟨by omega,fun i hi=>by rw[hK,Z1 _ (by omega)]⟩
 rw[<- hK];refine R0 (E95 h1 h2 K (nx+1)) ?_;rintro u H2 nx2 ⟨hu,E⟩;obtain⟨U,cU,rfl,hU⟩:=id hu;rw[K96];have Q:(D11 n.natAbs).length<400000:=by
  have:=E29 (n:=n.natAbs) (k:=1) (by omega);omega
 refine R0 (B97 (s:=decide (n<0)) (d:=0) ⟨_,_,rfl,hu,Y90 _ _⟩ Q (by rw[D20];simp)) ?_;rintro r H3 W ⟨hr,J⟩;have g3:=(J.get nx (by have:=E.le;omega)).trans ((E.get nx (by omega)).trans gK);have O:RR H3 W r (n:Rat):=by
  have e1:G86 n.natAbs 0=n.natAbs:=if_pos (.inr rfl);have e2:K87 n.natAbs 0=1:=if_pos (.inr rfl);have e3:B85 (decide (n<0)) n.natAbs 0=decide (n<0):=by
   rw[Q78]
   by_cases h:n<0
   .rw[decide_eq_true h,decide_eq_true (show 0<n.natAbs by omega)];rfl
   .rw[decide_eq_false h];rfl
  rw[e1,e2,e3] at hr;exact hr
 obtain⟨A4,l4,c4,C4,m4,d4,rfl,Z,a0⟩:=id O.form;simp(disch:=first|omega|assumption)only[W0,Z0,Nat.reduceAdd,g3,D7,Y12];exact⟨RR.box O g3 (E46 _ _ _ _ _ _ _),((V.trans E).trans J).hs (by omega)⟩
section
variable {H:Y0} {nx:Nat} {v:Value} {x:Rat}
theorem B89(h:RR H nx v x)(hx:U15 x 100000):Q2 Tryz.prog 99 [v] H nx fun r H' nx'=>NN H' nx' r x.den/\D0 H nx H' nx':=by
 obtain⟨A0,l0,c0,C0,m0,d0,rfl,hn,hd⟩:=h.form;refine spec99 ?_;unfold F99;simp(disch:=first|omega|assumption)only[W0,Z0,Q0.val];obtain⟨K,hK⟩:∃ K,K=hs H nx (some (.cells [.bool (decide (x.num<0)),.slice A0 l0 c0,.slice C0 m0 d0] 0)):=⟨_,rfl⟩
 have gK:J0 K nx=some (.cells [.bool (decide (x.num<0)),.slice A0 l0 c0,.slice C0 m0 d0] 0):=by rw[hK,Z11]
 have E:D0 H nx K (nx+1):=⟨by omega,fun i hi=>by rw[hK,Z1 _ (by omega)]⟩
 rw[<- hK];refine R0 (M77 (hd.ext E) (by have:=hx.2;omega)) ?_;rintro _ _ _ ⟨rfl,rfl,rfl⟩;have hb:=C65 x.den_pos;have e:decide ((C14 x.den:Int)=0)=false:=decide_eq_false (by omega);simp(disch:=first|omega|assumption)only[W0,e,gK];exact⟨hd.ext E,E⟩
theorem X81{w:Value}{y:Rat}(hv:RR H nx v x)(hw:RR H nx w y)(hx:U15 x 100000)(hy:U15 y 100000):
  Q2 Tryz.prog 79 [v,w] H nx fun r H' nx' => .int .i64 (N70 x y)=r/\D0 H nx H' nx':=by
 obtain⟨A0,l0,c0,C0,m0,d0,rfl,an,bt⟩:=hv.form;obtain⟨A1,l1,c1,C1,m1,d1,rfl,aq,bu⟩:=hw.form;refine spec79 ?_;unfold F79;generalize bd:decide (x.num<0)=sx at *
 generalize bo:decide (y.num<0)=sy at *
 simp(disch:=first|omega|assumption)only[W0,Z0,Q0.val];obtain⟨K,hK⟩:∃ K,K=hs (hs H nx (some (.cells [.bool sx,.slice A0 l0 c0,.slice C0 m0 d0] 0))) (nx+1) (some (.cells [.bool sy,.slice A1 l1 c1,.slice C1 m1 d1] 0)):=⟨_,rfl⟩
 have a5:J0 K nx=some (.cells [.bool sx,.slice A0 l0 c0,.slice C0 m0 d0] 0):=by rw[hK,Z1 _ (by omega),Z11]
 have ad:J0 K (nx+1)=some (.cells [.bool sy,.slice A1 l1 c1,.slice C1 m1 d1] 0):=by rw[hK,Z11]
 have a7:D0 H nx K (nx+1+1):=⟨by omega,fun i hi=>by rw[hK,Z1 _ (by omega),Z1 _ (by omega)]⟩
 rw[<- hK];simp(disch:=first|omega|assumption)only[Y12];have ak:RR K (nx+1+1) (.agg ⟨[.bool sx,.slice A0 l0 c0,.slice C0 m0 d0]⟩) x:=hv.ext a7;have aj:U15 x 400000:=⟨by have:=hx.1;omega,by have:=hx.2;omega⟩
 have ao:U15 y 400000:=⟨by have:=hy.1;omega,by have:=hy.2;omega⟩
 refine R0 (E74 ak aj) ?_;rintro _ H3 bv ⟨rfl,W⟩;have az:=(W.get nx (by omega)).trans a5;have ab:=(W.get (nx+1) (by omega)).trans ad;simp(disch:=first|omega|assumption)only[W0,ab,Y12];have aw:=hw.ext (a7.trans W);refine R0 (E74 aw ao) ?_;rintro _ H4 a6 ⟨rfl,av⟩;have O:=W.trans av;have a3:=a7.trans O;have ba:nx+1+1<=a6:=O.le;have U:=(O.get nx (by omega)).trans a5;have Q:=(O.get (nx+1) (by omega)).trans ad
 by_cases a0:x.num.sign=y.num.sign
 case neg=>
  simp(disch:=first|omega|assumption)only[W0,decide_eq_true a0];refine R0 (Y81 _ _ _ _) ?_;rintro _ _ _ ⟨rfl,rfl,rfl⟩;exact⟨by rw[G100 x y a0],a3⟩
 have ag:decide (x.num.sign≠y.num.sign)=false:=by simp[a0]
 simp(disch:=first|omega|assumption)only[W0,ag,U,Q,Y12];have E:D0 H nx H4 (a6+14):=a3.more (by omega);refine R0 (B89 (hw.ext E) hy) ?_;rintro q1 H7 bc ⟨al,Z⟩;have a9:=(Z.get nx (by omega)).trans U;have ac:=(Z.get (nx+1) (by omega)).trans Q;have b1:=hx.1;have b2:=hx.2;have b3:=hy.1;have b4:=hy.2;refine R0 (Z79 (an.ext (E.trans Z)) al (by omega) (by omega)) ?_;rintro p1 H8 ae ⟨ai,ah⟩;have J:=Z.trans ah;have ay:a6+14<=ae:=J.le;have a4:=(J.get nx (by omega)).trans U;have V:=(J.get (nx+1) (by omega)).trans Q;simp(disch:=first|omega|assumption)only[W0,a4,V,Y12];refine R0 (B89 (hv.ext (E.trans J)) hx) ?_;rintro q2 H9 bg ⟨ax,a1⟩;have aa:=(a1.get (nx+1) (by omega)).trans V;refine R0 (Z79 (aq.ext ((E.trans J).trans a1)) ax (by omega) (by omega)) ?_;rintro p2 bw b8 ⟨au,a2⟩;have da:=B72 (la:=100000) (lb:=100000) (eG b1) (eG b4);have db:=B72 (la:=100000) (lb:=100000) (eG b3) (eG b2);refine R0 (M95 ((ai.ext a1).ext a2) au (by omega) (by omega)) ?_;rintro _ bf b5 ⟨rfl,a8⟩;have bh : -1<=x.num.sign/\x.num.sign<=1:=by
  rcases Int.lt_trichotomy x.num 0 with h | h | h
  .rw[Int.sign_eq_neg_one_of_neg h];omega
  .rw[h];decide
  .rw[Int.sign_eq_one_of_pos h];omega
 have ap:=W103 x y a0;have bk : -1<=N70 x y/\N70 x y<=1:=by
  unfold N70
  split
  .omega
  .split<;>omega
 have em:∀ k:VP,D10 .mul (.int .i64 x.num.sign) (.int .i64 (X72 (x.num.natAbs*y.den) (y.num.natAbs*x.den))) k=k (.int .i64 (N70 x y)):=fun k=>by
  rw[B82,ap,Y23 (by omega) (by omega)]
 simp(disch:=first|omega|assumption)only[W0,em,a9,ac,aa,Y12];exact(((E.trans J).trans a1).trans a2).trans a8
end
section
variable (a0 a1 a2:Value) (H:Y0) (nx:Nat) (k:EP)
def F127:Prop:=
 M2 (nx+11) fun b=>
 C70 a0 fun c=>
 wFl c 0 H fun c d=>
 C70 a0 fun e=>
 wFl e 1 H fun e f=>
 D10 .add d f fun g=>
 D10 .add g i1 fun g=>
 wK ((tB (cE e none H f))/\(tB (tB (cE c none H d)))) (
 Rt g H b k)
def F135:Prop:=
 G29 a0 a0 zR H nx fun b c d=>
 R4 b 0 c fun e=>
 G3 (fun c d f g=>
 D10 .lss d.a e fun e=>
 K2 e (
 Y2 Tryz.prog 75 [i0] f g fun e f g=>
 M3 b d.a none 3 fun b=>
 D5 b e 3 f fun b=>
 D10 .add d.a i1 fun d=>
 c [d] b g) (
 Rt b f g k)) [i0] c d
def F136:Prop:=
 M2 (nx+10) fun b=>
 C70 a0 fun c=>
 wFl c 0 H fun c d=>
 C70 a0 fun e=>
 wFl e 1 H fun e f=>
 D10 .add d f fun g=>
 wK ((tB (cE e none H f))/\(tB (tB (cE c none H d)))) (
 Rt g H b k)
def F119:Prop:=
 M12 a0 H nx fun b c d=>
 wFl b 1 c fun _ e=>
 R4 e 0 c fun e=>
 wFl b 2 c fun _ f=>
 R4 f 0 c fun f=>
 D10 .neq e f fun e=>
 K2 e (
 Rt bF c d k) (
 wFl b 1 c fun _ e=>
 R4 e 0 c fun f=>
 G3 (fun c d g h=>
 D10 .lss d.a f fun f=>
 K2 f (
 U6 e d.a g fun _ e=>
 R4 e 0 g fun e=>
 wFl b 0 g fun _ b=>
 R4 b 0 g fun b=>
 D10 .neq e b fun b=>
 K2 b (
 Rt bF g h k) (
 D10 .add d.a i1 fun b=>
 c [b] g h)) (
 Rt bT g h k)) [i0] c d)
def F139:Prop:=
 M12 a2 H nx fun b c d=>
 R4 a0 0 c fun e=>
 G29 e e zR c d fun c d e=>
 M82 c a0 3 d e fun _ d e=>
 J1 b (some 3) d fun f=>
 Y2 Tryz.prog 96 [f] d e fun d e f=>
 D10 .eql d i0 fun d=>
 K2 d (
 Rt c e f k) (
 R4 c 0 e fun d=>
 G3 (fun e f g h=>
 D10 .lss f.a d fun d=>
 K2 d (
 V4 (fun d=>
 B15 a1 f.a 3 g fun _ e=>
 Y2 Tryz.prog 96 [e] g h fun e g h=>
 D10 .neq e i0 fun e=>
 K2 e (
 M2 (h+15) fun e=>
 B15 c f.a 3 g fun h i=>
 J1 b (some 3) g fun j=>
 B15 a1 f.a 3 g fun l m=>
 Y2 Tryz.prog 143 [j,m] g e fun e n o=>
 Y2 Tryz.prog 142 [i,e] n o fun e o p=>
 M3 c f.a none 3 fun c=>
 D5 c e 3 o fun c=>
 wK ((tA (tA (tA (tB (cE l (some 3) g m)))))/\((tA (tA (tA (tB (cE b (some 3) g j)))))/\(tB (tA (tA ((cE h (some 3) n i)/\(tB (cE h (some 3) g i)))))))) (
 d [] c p)) (
 d [] g h)) (fun _ b c=>
 D10 .add f.a i1 fun d=>
 e [d] b c)) (
 Rt c g h k)) [i0] e f)
def F137:Prop:=
 C70 a0 fun b=>
 wFl b 2 H fun _ b=>
 U6 b a1 H fun _ b=>
 R4 b 0 H fun b=>
 G29 b b zR H nx fun b c d=>
 C70 a0 fun e=>
 wFl e 2 c fun _ e=>
 U6 e a1 c fun _ e=>
 M82 b e 3 c d fun _ c d=>
 B15 b a2 3 c fun _ e=>
 wAl zR c d fun c d f=>
 D5 c e 3 d fun d=>
 R4 b 0 d fun e=>
 G3 (fun d f g h=>
 D10 .lss f.a e fun e=>
 K2 e (
 V4 (fun d=>
 B15 b f.a 3 g fun _ e=>
 Y2 Tryz.prog 96 [e] g h fun e g h=>
 D10 .neq e i0 fun e=>
 K2 e (
 M2 (h+13) fun e=>
 B15 b f.a 3 g fun h i=>
 J1 c (some 3) g fun j=>
 Y2 Tryz.prog 141 [i,j] g e fun e l m=>
 G9 e 0 fun n=>
 G9 e 1 fun _=>
 M3 b f.a none 3 fun b=>
 D5 b n 3 l fun b=>
 wK ((tA (tA (tB (cE c (some 3) g j))))/\(tB (tA (tA (tB (cE h (some 3) g i)))))) (
 d [] b m)) (
 d [] g h)) (fun _ b c=>
 D10 .add f.a i1 fun e=>
 d [e] b c)) (
 C70 a0 fun c=>
 wFl c 2 g fun _ c=>
 R4 c 0 g fun c=>
 G3 (fun d e f g=>
 D10 .lss e.a c fun c=>
 K2 c (
 V4 (fun c=>
 D10 .neq e.a a1 fun d=>
 K2 d (
 M2 (g+26) fun d=>
 C70 a0 fun g=>
 wFl g 2 f fun g h=>
 C70 a0 fun i=>
 wFl i 2 f fun i j=>
 U6 j e.a f fun l m=>
 C70 a0 fun n=>
 wFl n 2 f fun n o=>
 U6 o e.a f fun p q=>
 B15 q a2 3 f fun r s=>
 Y2 Tryz.prog 139 [m,b,s] f d fun b d t=>
 M3 h e.a none 1 fun e=>
 D5 e b 1 d fun b=>
 wK ((tA (tA (tB (cE r (some 3) f s))))/\((tA (tA (tB (cE p none f q))))/\((tA (tA (tB (cE n none f o))))/\((tA (tA (tB (cE l none f m))))/\((tA (tA (tB (cE i none f j))))/\(tB (tA ((cE g none d h)/\(tB (cE g none f h)))))))))) (
 c [] b t)) (
 c [] f g)) (fun _ b c=>
 D10 .add e.a i1 fun e=>
 d [e] b c)) (
 M2 (g+17) fun c=>
 C70 a0 fun d=>
 wFl d 3 f fun d e=>
 C70 a0 fun g=>
 wFl g 3 f fun g h=>
 B15 h a2 3 f fun i j=>
 Y2 Tryz.prog 139 [e,b,j] f c fun c l m=>
 C70 a0 fun n=>
 B4 n 3 fun n=>
 D5 n c 1 l fun c=>
 wK ((tA (tA (tB (cE i (some 3) f j))))/\((tA (tA (tB (cE g none f h))))/\(tB (tA (tA (tB (cE d none f e))))))) (
 C70 a0 fun d=>
 wFl d 2 c fun _ d=>
 M3 d a1 none 1 fun d=>
 D5 d b 1 c fun b=>
 C70 a0 fun c=>
 wFl c 4 b fun _ c=>
 M3 c a1 none 1 fun c=>
 D5 c a2 1 b fun b=>
 Rt (.tuple ⟨[]⟩) b m k))) [i0] g h)) [i0] d f
def F140:Prop:=
 wAl zR H nx fun b c d=>
 C70 a0 fun e=>
 wFl e 2 c fun _ e=>
 R4 e 0 c fun f=>
 G3 (fun c d g h=>
 D10 .lss d.b f fun f=>
 K2 f (
 V4 (fun c=>
 U6 e d.b g fun _ e=>
 B15 e a1 3 g fun _ f=>
 Y2 Tryz.prog 96 [f] g h fun f g h=>
 D10 .leq f i0 fun f=>
 K2 f (
 c [d.a] g h) (
 M2 (h+16) fun f=>
 Y2 Tryz.prog 127 [a0] g f fun f i j=>
 B15 e f 3 i fun f l=>
 B15 e a1 3 i fun e m=>
 Y2 Tryz.prog 141 [l,m] i j fun j n o=>
 G9 j 0 fun p=>
 G9 j 1 fun _=>
 wNm h 13 .ptr fun j=>
 E6 n (h+13) (some (.cells zR 0)) fun h=>D5 j p 3 h fun h=>
 wK ((tA (tA ((cE e (some 3) i m)/\(tB (cE e (some 3) g m)))))/\(tB (tA (tA (tB (cE f (some 3) i l)))))) (
 V4 (fun c=>
 D10 .geq d.a i0 fun d=>
 K2 d (
 J1 j (some 3) h fun d=>
 J1 b (some 3) h fun b=>
 Y2 Tryz.prog 79 [d,b] h o fun b d e=>
 c [b] d e) (
 c [(.int .i64 (-1))] h o)) (fun e f g=>
 V4 (fun b=>
 M2 (g+23) fun c=>
 D10 .lss e.a i0 fun g=>
 K3 false g (
 D10 .eql e.a i0 fun e=>
 K3 true e (
 C70 a0 fun e=>
 wFl e 4 f fun e g=>
 U6 g d.b f fun h i=>
 C70 a0 fun j=>
 wFl j 4 f fun j l=>
 U6 l d.a f fun d m=>
 D10 .lss i m fun n=>
 wK ((tB (cE d none f m))/\((tB (cE j none f l))/\((tB (cE h none f i))/\(tB (tB (cE e none f g)))))) (
 b [n] f c)) (
 wK True (
 b [bF] f c))) (
 wK True (
 b [bT] f c))) (fun e f g=>
 K2 e.a (
 M2 (g+4) fun e=>
 J1 j (some 3) f fun g=>
 D5 b g 3 f fun b=>
 wK (tB (tA (tB (cE j (some 3) f g)))) (
 c [d.b] b e)) (
 c [d.a] f g)))))) (fun b e f=>
 D10 .add d.b i1 fun d=>
 c [b.a,d] e f)) (
 Rt d.a g h k)) [(.int .i64 (-1)),i0] c d
def F120:Prop:=
 M12 a0 H nx fun b c d=>
 wFl b 0 c fun _ e=>
 R4 e 0 c fun e=>
 wFl b 2 c fun _ f=>
 R4 f 0 c fun f=>
 U11 [.int .i64 0,.int .i64 0,.slice none 0 0,.slice none 0 0,.slice none 0 0] [(0,1),(1,1),(2,1),(3,1),(4,1)] [(0,e),(1,f)] fun e=>
 M12 e c d fun c d e=>
 wFl b 1 d fun _ f=>
 R4 f 0 d fun g=>
 G3 (fun d e h i=>
 D10 .lss e.a g fun g=>
 K2 g (
 U6 f e.a h fun _ f=>
 Y2 Tryz.prog 127 [c] h i fun g h i=>
 D10 .add g i1 fun g=>
 Y2 Tryz.prog 135 [g] h i fun g h i=>
 R4 f 0 h fun j=>
 G3 (fun h i l m=>
 D10 .lss i.a j fun j=>
 K2 j (
 B15 f i.a 3 l fun _ b=>
 wAl zR l m fun c d e=>
 D5 c b 3 d fun b=>
 J1 c (some 3) b fun c=>
 Y2 Tryz.prog 80 [c] b e fun b c d=>
 M3 g i.a none 3 fun e=>
 D5 e b 3 c fun b=>
 D10 .add i.a i1 fun c=>
 h [c] b d) (
 M2 (m+10) fun f=>
 C70 c fun h=>
 wFl h 0 l fun h i=>
 D10 .add i e.a fun j=>
 Y2 Tryz.prog 75 [i1] l f fun f m n=>
 M3 g j none 3 fun j=>
 D5 j f 3 m fun f=>
 wK (tB (tA ((cE h none m i)/\(tB (cE h none l i))))) (
 Y2 Tryz.prog 136 [c] f n fun f h i=>
 Y2 Tryz.prog 75 [(.int .i64 (-1))] h i fun h i j=>
 M3 g f none 3 fun f=>
 D5 f h 3 i fun f=>
 M2 (j+11) fun h=>
 Y2 Tryz.prog 127 [c] f h fun h i j=>
 wFl b 2 i fun b l=>
 B15 l e.a 3 i fun m n=>
 Y2 Tryz.prog 80 [n] i j fun j o p=>
 M3 g h none 3 fun h=>
 D5 h j 3 o fun h=>
 wK ((tA (tA ((cE m (some 3) i n)/\(tB (cE m (some 3) f n)))))/\(tB (tA (tA ((cE b none i l)/\(tB (cE b none f l))))))) (
 C70 c fun b=>
 wFl b 2 h fun _ b=>
 D24 1 1 [.slice none 0 0] [(0,g)] h p fun f g h=>
 B5 b f 1 24 g h fun b f g=>
 C70 c fun h=>
 B4 h 2 fun h=>
 D5 h b 1 f fun b=>
 M2 (g+16) fun f=>
 C70 c fun h=>
 wFl h 4 b fun h i=>
 C70 c fun j=>
 wFl j 0 b fun j l=>
 D10 .add l e.a fun m=>
 K6 1 1 [.int .i64 0] [(0,m)] fun m=>wNm g 11 (.slice 1 1) fun n=>
 E6 b (g+11) (some (.cells m 0)) fun g=>B5 i n 1 8 g f fun f g m=>
 C70 c fun c=>
 B4 c 4 fun c=>
 D5 c f 1 g fun c=>
 wK ((tA (tA (tB (cE j none b l))))/\(tB (tA (tA (tB (cE h none b i)))))) (
 D10 .add e.a i1 fun b=>
 d [b] c m))))) [i0] h i) (
 Rt c h i k)) [i0] d e
def F121:Prop:=
 C70 a0 fun b=>
 wFl b 2 H fun _ b=>
 R4 b 0 H fun c=>
 G3 (fun d e f g=>
 D10 .lss e.b c fun c=>
 K2 c (
 V4 (fun c=>
 U6 b e.b f fun _ b=>
 Y2 Tryz.prog 127 [a0] f g fun d f g=>
 B15 b d 3 f fun _ b=>
 wAl zR f g fun d f g=>
 D5 d b 3 f fun b=>
 V4 (fun c=>
 M2 (g+23) fun f=>
 J1 d (some 3) b fun g=>
 Y2 Tryz.prog 96 [g] b f fun f h i=>
 D10 .lss f i0 fun f=>
 K3 true f (
 D10 .lss e.a i0 fun f=>
 K3 false f (
 J1 d (some 3) h fun f=>
 C70 a0 fun j=>
 wFl j 2 h fun j l=>
 U6 l e.a h fun e m=>
 Y2 Tryz.prog 127 [a0] h i fun i n o=>
 B15 m i 3 n fun i p=>
 Y2 Tryz.prog 79 [f,p] n o fun o q r=>
 D10 .lss o i0 fun o=>
 wK ((tA (tB (cE i (some 3) n p)))/\((tA ((cE e none n m)/\(tB (cE e none h m))))/\((tA ((cE j none n l)/\(tB (cE j none h l))))/\((tA ((cE d (some 3) n f)/\(tB (cE d (some 3) h f))))/\(tB (tA (tA (tA (tB (cE d (some 3) b g)))))))))) (
 c [o] q r)) (
 wK (tB (tA (tB (cE d (some 3) b g)))) (
 c [bT] h i))) (
 wK (tB (tA (tB (cE d (some 3) b g)))) (
 c [bF] h i))) (fun b d f=>
 K2 b.a (
 c [e.b] d f) (
 c [e.a] d f))) (fun b c f=>
 D10 .add e.b i1 fun e=>
 d [b.a,e] c f)) (
 D10 .lss e.a i0 fun b=>
 K2 b (
 Rt bT f g k) (
 Y2 Tryz.prog 127 [a0] f g fun b c d=>
 D10 .add b i1 fun b=>
 Y2 Tryz.prog 135 [b] c d fun b c d=>
 C70 a0 fun f=>
 B4 f 3 fun f=>
 D5 f b 1 c fun b=>
 M2 (d+9) fun c=>
 C70 a0 fun d=>
 wFl d 3 b fun d f=>
 Y2 Tryz.prog 136 [a0] b c fun c g h=>
 Y2 Tryz.prog 75 [i1] g h fun h i j=>
 M3 f c none 3 fun c=>
 D5 c h 3 i fun c=>
 wK (tB (tA ((cE d none i f)/\((cE d none g f)/\(tB (cE d none b f)))))) (
 Y2 Tryz.prog 136 [a0] c j fun b c d=>
 Y2 Tryz.prog 137 [a0,e.a,b] c d fun _ b c=>
 Y2 Tryz.prog 127 [a0] b c fun b c d=>
 Y2 Tryz.prog 124 [a0,b] c d fun _ b c=>
 M2 (c+10) fun c=>
 C70 a0 fun d=>
 wFl d 3 b fun d e=>
 Y2 Tryz.prog 127 [a0] b c fun c f g=>
 B15 e c 3 f fun c h=>
 Y2 Tryz.prog 96 [h] f g fun g i j=>
 D10 .lss g i0 fun g=>
 wK ((tA (tB (cE c (some 3) f h)))/\(tB (tA ((cE d none f e)/\(tB (cE d none b e)))))) (
 K2 g (
 Rt bF i j k) (
 C70 a0 fun b=>
 wFl b 4 i fun _ b=>
 R4 b 0 i fun c=>
 G3 (fun d e f g=>
 D10 .lss e.a c fun c=>
 K2 c (
 V4 (fun c=>
 U6 b e.a f fun _ b=>
 Y2 Tryz.prog 136 [a0] f g fun d f g=>
 G3 (fun f g h i=>
 D10 .lss g.a d fun d=>
 K2 d (
 V4 (fun c=>
 Y2 Tryz.prog 136 [a0] h i fun d f h=>
 D10 .eql b d fun b=>
 K3 true b (
 C70 a0 fun b=>
 wFl b 2 f fun _ b=>
 U6 b e.a f fun _ b=>
 B15 b g.a 3 f fun _ b=>
 Y2 Tryz.prog 96 [b] f h fun b d e=>
 D10 .neq b i0 fun b=>
 c [b] d e) (
 c [bF] f h)) (fun b d h=>
 K2 b.a (
 Y2 Tryz.prog 137 [a0,e.a,g.a] d h fun _ b d=>
 c [] b d) (
 D10 .add g.a i1 fun b=>
 f [b] d h))) (
 c [] h i)) [i0] f g) (fun _ b c=>
 D10 .add e.a i1 fun e=>
 d [e] b c)) (
 Rt bT f g k)) [i0] i j)))))) [(.int .i64 (-1)),i0] H nx
def F122:Prop:=
 C70 a0 fun b=>
 wFl b 1 H fun _ b=>
 Y2 Tryz.prog 135 [b] H nx fun b c d=>
 M2 (d+20) fun d=>
 C70 a0 fun e=>
 wFl e 3 c fun e f=>
 C70 a0 fun g=>
 wFl g 0 c fun g h=>
 C70 a0 fun i=>
 wFl i 0 c fun i j=>
 C70 a0 fun l=>
 wFl l 1 c fun l m=>
 D10 .add j m fun n=>
 wSl f 3 (some h) (some n) none c fun o=>
 M82 b o 3 c d fun _ d p=>
 wK ((tA (tB (wSl f 3 (some h) (some n) none c fun b=>b=o)))/\((tA (tB (cE l none c m)))/\((tA (tB (cE i none c j)))/\((tA (tB (cE g none c h)))/\(tB (tA (tB (cE e none c f)))))))) (
 Rt b d p k)
def F123:Prop:=
 Y2 Tryz.prog 127 [a0] H nx fun b c d=>
 D10 .add b i1 fun b=>
 Y2 Tryz.prog 135 [b] c d fun b c d=>
 C70 a0 fun e=>
 B4 e 3 fun e=>
 D5 e b 1 c fun b=>
 R4 a1 0 b fun c=>
 G3 (fun b d e f=>
 D10 .lss d.a c fun c=>
 K2 c (
 M2 (f+12) fun c=>
 C70 a0 fun f=>
 wFl f 3 e fun f g=>
 B15 a1 d.a 3 e fun h i=>
 Y2 Tryz.prog 138 [i] e c fun c j l=>
 M3 g d.a none 3 fun m=>
 D5 m c 3 j fun c=>
 wK ((tA (tA (tB (cE h (some 3) e i))))/\(tB (tA ((cE f none j g)/\(tB (cE f none e g)))))) (
 D10 .add d.a i1 fun d=>
 b [d] c l)) (
 C70 a0 fun b=>
 wFl b 4 e fun _ b=>
 R4 b 0 e fun c=>
 G3 (fun d e f g=>
 D10 .lss e.a c fun c=>
 K2 c (
 V4 (fun c=>
 U6 b e.a f fun _ b=>
 C70 a0 fun d=>
 wFl d 0 f fun _ d=>
 D10 .lss b d fun d=>
 K2 d (
 M2 (g+21) fun d=>
 C70 a0 fun g=>
 wFl g 3 f fun g h=>
 C70 a0 fun i=>
 wFl i 2 f fun i j=>
 U6 j e.a f fun e l=>
 B15 a1 b 3 f fun b m=>
 Y2 Tryz.prog 138 [m] f d fun d n o=>
 Y2 Tryz.prog 139 [h,l,d] n o fun d o p=>
 C70 a0 fun q=>
 B4 q 3 fun q=>
 D5 q d 1 o fun d=>
 wK ((tA (tA (tA (tB (cE b (some 3) f m)))))/\((tA (tA ((cE e none n l)/\(tB (cE e none f l)))))/\((tA (tA ((cE i none n j)/\(tB (cE i none f j)))))/\(tB (tA (tA ((cE g none n h)/\(tB (cE g none f h))))))))) (
 c [] d p)) (
 c [] f g)) (fun _ b c=>
 D10 .add e.a i1 fun e=>
 d [e] b c)) (
 Rt (.tuple ⟨[]⟩) f g k)) [i0] e f)) [i0] b d
def F124:Prop:=
 G3 (fun b _ c d=>
 G3 (fun c d e f=>
 D10 .lss d.a a1 fun g=>
 K2 g (
 C70 a0 fun g=>
 wFl g 3 e fun _ g=>
 B15 g d.a 3 e fun _ g=>
 Y2 Tryz.prog 96 [g] e f fun e f g=>
 D10 .geq e i0 fun e=>
 K2 e (
 D10 .add d.a i1 fun b=>
 c [b] f g) (
 Y2 Tryz.prog 140 [a0,d.a] f g fun c e f=>
 D10 .lss c i0 fun g=>
 K2 g (
 Rt (.tuple ⟨[d.a,bF]⟩) e f k) (
 Y2 Tryz.prog 137 [a0,c,d.a] e f fun _ c d=>
 b [] c d))) (
 Rt (.tuple ⟨[i0,bT]⟩) e f k)) [i0] c d) [] H nx
def F125:Prop:=
 C70 a0 fun b=>
 wFl b 0 H fun _ b=>
 Y2 Tryz.prog 135 [b] H nx fun b c d=>
 C70 a0 fun e=>
 wFl e 4 c fun _ e=>
 R4 e 0 c fun f=>
 G3 (fun c d g h=>
 D10 .lss d.a f fun f=>
 K2 f (
 V4 (fun c=>
 U6 e d.a g fun _ e=>
 C70 a0 fun f=>
 wFl f 0 g fun _ f=>
 D10 .lss e f fun f=>
 K2 f (
 M2 (h+15) fun f=>
 C70 a0 fun h=>
 wFl h 2 g fun h i=>
 U6 i d.a g fun d j=>
 Y2 Tryz.prog 127 [a0] g f fun f l m=>
 B15 j f 3 l fun f n=>
 M3 b e none 3 fun b=>
 D5 b n 3 l fun b=>
 wK ((tA (tB (cE f (some 3) l n)))/\((tA ((cE d none l j)/\(tB (cE d none g j))))/\(tB (tA ((cE h none l i)/\(tB (cE h none g i))))))) (
 c [] b m)) (
 c [] g h)) (fun _ b e=>
 D10 .add d.a i1 fun d=>
 c [d] b e)) (
 Rt b g h k)) [i0] c d
def F109:Prop:=
 M12 a0 H nx fun b c d=>
 wAl [.int .i64 0,.slice none 0 0,.slice none 0 0,.slice none 0 0,.bool false,.slice none 0 0,.slice none 0 0] c d fun c d e=>
 J1 b (some 3) d fun f=>
 Y2 Tryz.prog 119 [f] d e fun d e f=>
 wUn .not d fun d=>
 K2 d (
 U11 [.int .i64 0,.slice none 0 0,.slice none 0 0,.slice none 0 0,.bool false,.slice none 0 0,.slice none 0 0] [(0,1),(1,1),(2,1),(3,1),(4,3)] [] fun b=>
 D5 c b 7 e fun b=>
 J1 c (some 7) b fun c=>
 Rt (.tuple ⟨[c,i1]⟩) b f k) (
 V4 (fun c=>
 wFl b 0 e fun _ d=>
 R4 d 0 e fun d=>
 D10 .gtr d (.int .i64 64) fun d=>
 K3 false d (
 wFl b 2 e fun _ b=>
 R4 b 0 e fun b=>
 D10 .gtr b (.int .i64 64) fun b=>
 c [b] e f) (
 c [bT] e f)) (fun d e f=>
 K2 d.a (
 U11 [.int .i64 0,.slice none 0 0,.slice none 0 0,.slice none 0 0,.bool false,.slice none 0 0,.slice none 0 0] [(0,1),(1,1),(2,1),(3,1),(4,3)] [] fun b=>
 D5 c b 7 e fun b=>
 J1 c (some 7) b fun c=>
 Rt (.tuple ⟨[c,(.int .i64 12)]⟩) b f k) (
 J1 b (some 3) e fun d=>
 Y2 Tryz.prog 120 [d] e f fun d e f=>
 Y2 Tryz.prog 121 [d] e f fun e f g=>
 wUn .not e fun e=>
 K2 e (
 Y2 Tryz.prog 122 [d] f g fun b d e=>
 Y2 Tryz.prog 75 [i0] d e fun d e f=>
 U11 [.int .i64 0,.slice none 0 0,.slice none 0 0,.slice none 0 0,.bool false,.slice none 0 0,.slice none 0 0] [(0,1),(1,1),(2,1),(3,1),(4,3)] [(0,i1),(2,b),(4,d)] fun b=>
 D5 c b 7 e fun b=>
 J1 c (some 7) b fun c=>
 Rt (.tuple ⟨[c,i0]⟩) b f k) (
 wFl b 0 f fun _ b=>
 Y2 Tryz.prog 123 [d,b] f g fun _ b e=>
 M2 (e+16) fun e=>
 C70 d fun f=>
 wFl f 0 b fun f g=>
 C70 d fun h=>
 wFl h 1 b fun h i=>
 D10 .add g i fun j=>
 Y2 Tryz.prog 124 [d,j] b e fun e j l=>
 G9 e 0 fun m=>
 G9 e 1 fun e=>
 wK ((tA (tB (cE h none b i)))/\(tB (tA (tB (cE f none b g))))) (
 wUn .not e fun b=>
 K2 b (
 Y2 Tryz.prog 125 [d] j l fun b e f=>
 Y2 Tryz.prog 126 [d,m] e f fun d e f=>
 Y2 Tryz.prog 75 [i0] e f fun e f g=>
 U11 [.int .i64 0,.slice none 0 0,.slice none 0 0,.slice none 0 0,.bool false,.slice none 0 0,.slice none 0 0] [(0,1),(1,1),(2,1),(3,1),(4,3)] [(0,(.int .i64 2)),(1,b),(3,d),(4,e)] fun b=>
 D5 c b 7 f fun b=>
 J1 c (some 7) b fun c=>
 Rt (.tuple ⟨[c,i0]⟩) b g k) (
 M2 (l+15) fun b=>
 Y2 Tryz.prog 125 [d] j b fun b e f=>
 Y2 Tryz.prog 122 [d] e f fun f g h=>
 C70 d fun i=>
 wFl i 3 g fun i l=>
 Y2 Tryz.prog 127 [d] g h fun d h m=>
 B15 l d 3 h fun d n=>
 U11 [.int .i64 0,.slice none 0 0,.slice none 0 0,.slice none 0 0,.bool false,.slice none 0 0,.slice none 0 0] [(0,1),(1,1),(2,1),(3,1),(4,3)] [(0,i0),(1,b),(2,f),(4,n)] fun b=>
 D5 c b 7 h fun b=>
 wK ((tA (tB (cE d (some 3) h n)))/\(tB (tA ((cE i none h l)/\((cE i none g l)/\((cE i none e l)/\(tB (cE i none j l)))))))) (
 J1 c (some 7) b fun c=>
 Rt (.tuple ⟨[c,i0]⟩) b m k)))))))
def F107:Prop:=
 M12 a0 H nx fun b c d=>
 wFl b 0 c fun _ b=>
 D10 .shl (.int .u64 1) b fun b=>
 D10 .sub b (.int .u64 1) fun b=>
 W8 .u32 b fun b=>
 Rt b c d k
def F110:Prop:=
 G29 a0 a0 zR H nx fun b c d=>
 R4 b 0 c fun e=>
 G3 (fun c d f g=>
 D10 .lss d.a e fun e=>
 K2 e (
 Y2 Tryz.prog 75 [i0] f g fun e f g=>
 M3 b d.a none 3 fun b=>
 D5 b e 3 f fun b=>
 D10 .add d.a i1 fun d=>
 c [d] b g) (
 Rt b f g k)) [i0] c d
def F108:Prop:=
 M12 a0 H nx fun b c d=>
 wAl [.slice none 0 0,.slice none 0 0,.slice none 0 0] c d fun c d e=>
 wAl [.slice none 0 0,.slice none 0 0,.slice none 0 0] d e fun d e f=>
 wFl b 0 e fun _ g=>
 G3 (fun e f h i=>
 D10 .lss f.b g fun g=>
 K2 g (
 V4 (fun b=>
 D10 .shr a1 f.b fun c=>
 D10 .and c u1 fun c=>
 D10 .eql c u1 fun c=>
 K2 c (
 D24 1 1 [.int .i64 0] [(0,f.b)] h i fun c e g=>
 B5 f.a c 1 8 e g fun c e f=>
 M2 (f+7) fun g=>
 wFl d 0 e fun h i=>
 Y2 Tryz.prog 75 [i1] e g fun g j l=>
 K6 1 3 zR [(0,g)] fun g=>wNm f 3 (.slice 1 1) fun m=>
 E6 j (f+3) (some (.cells g 0)) fun f=>B5 i m 3 56 f l fun f g l=>
 B4 d 0 fun d=>
 D5 d f 1 g fun d=>
 wK (tB (tA (tA ((cE h none j i)/\(tB (cE h none e i)))))) (
 b [c] d l)) (
 b [f.a] h i)) (fun b c d=>
 D10 .add f.b i1 fun f=>
 e [b.a,f] c d)) (
 M64 none <| J3 (.map [] 0) .map h i fun e g h=>
 wFl b 1 g fun _ b=>
 R4 b 0 g fun i=>
 G3 (fun g h j l=>
 D10 .lss h.b i fun i=>
 K2 i (
 V4 (fun c=>
 U6 b h.b j fun _ b=>
 D10 .and b a1 fun b=>
 V4 (fun c=>
 D10 .eql b u0 fun d=>
 K3 false d (
 wLk (.int .u32) bF e b false j fun b=>
 c [b] j l) (
 c [bT] j l)) (fun g i j=>
 K2 g.a (
 c [h.a] i j) (
 W56 (.int .u32) e b bT i j fun _ e g=>
 D24 1 1 [.int .i64 0] [(0,h.b)] e g fun e g i=>
 B5 h.a e 1 8 g i fun e g h=>
 R4 f.a 0 g fun i=>
 G3 (fun g h j l=>
 D10 .lss h.b i fun i=>
 K2 i (
 U6 f.a h.b j fun _ c=>
 D10 .shr b c fun b=>
 D10 .and b u1 fun b=>
 W8 .i64 b fun b=>
 Y2 Tryz.prog 75 [b] j l fun b c d=>
 D24 1 3 zR [(0,b)] c d fun b c d=>
 B5 h.a b 3 56 c d fun b c d=>
 D10 .add h.b i1 fun e=>
 g [b,e] c d) (
 wFl d 1 j fun _ b=>
 D24 1 1 [.slice none 0 0] [(0,h.a)] j l fun f g h=>
 B5 b f 1 24 g h fun b f g=>
 B4 d 1 fun h=>
 D5 h b 1 f fun b=>
 M2 (g+7) fun f=>
 wFl d 2 b fun h i=>
 Y2 Tryz.prog 75 [i1] b f fun f j l=>
 K6 1 3 zR [(0,f)] fun f=>wNm g 3 (.slice 1 1) fun m=>
 E6 j (g+3) (some (.cells f 0)) fun f=>B5 i m 3 56 f l fun f g l=>
 B4 d 2 fun d=>
 D5 d f 1 g fun d=>
 wK (tB (tA (tA ((cE h none j i)/\(tB (cE h none b i)))))) (
 c [e] d l))) [(.slice none 0 0),i0] g h))) (fun b c d=>
 D10 .add h.b i1 fun e=>
 g [b.a,e] c d)) (
 J1 d (some 3) j fun b=>
 D5 c b 3 j fun b=>
 J1 c (some 3) b fun c=>
 Rt (.tuple ⟨[c,f.a,h.a]⟩) b l k)) [(.slice none 0 0),i0] g h)) [(.slice none 0 0),i0] e f
def F95:Prop:=
 M12 a0 H nx fun b c d=>
 wAl [.slice none 0 0,.slice none 0 0,.bool false,.slice none 0 0,.slice none 0 0] c d fun c d e=>
 J1 b (some 2) d fun f=>
 Y2 Tryz.prog 27 [f] d e fun d e f=>
 D10 .neq d i0 fun g=>
 K2 g (
 U11 [.slice none 0 0,.slice none 0 0,.bool false,.slice none 0 0,.slice none 0 0] [(0,1),(1,1),(2,3)] [] fun b=>
 D5 c b 5 e fun b=>
 J1 c (some 5) b fun c=>
 Rt (.tuple ⟨[c,d]⟩) b f k) (
 J1 b (some 2) e fun d=>
 Y2 Tryz.prog 107 [d] e f fun d e f=>
 D10 .andNot a1 d fun d=>
 D10 .neq d u0 fun d=>
 K2 d (
 U11 [.slice none 0 0,.slice none 0 0,.bool false,.slice none 0 0,.slice none 0 0] [(0,1),(1,1),(2,3)] [] fun b=>
 D5 c b 5 e fun b=>
 J1 c (some 5) b fun c=>
 Rt (.tuple ⟨[c,(.int .i64 3)]⟩) b f k) (
 wFl b 1 e fun _ d=>
 R4 d 0 e fun g=>
 G3 (fun e f h i=>
 D10 .lss f.b g fun g=>
 K2 g (
 U6 d f.b h fun _ b=>
 D10 .or f.a b fun b=>
 D10 .add f.b i1 fun c=>
 e [b,c] h i) (
 D10 .andNot a1 f.a fun d=>
 D10 .neq d u0 fun d=>
 K2 d (
 U11 [.slice none 0 0,.slice none 0 0,.bool false,.slice none 0 0,.slice none 0 0] [(0,1),(1,1),(2,3)] [] fun b=>
 D5 c b 5 h fun b=>
 J1 c (some 5) b fun c=>
 Rt (.tuple ⟨[c,(.int .i64 9)]⟩) b i k) (
 J1 b (some 2) h fun d=>
 Y2 Tryz.prog 108 [d,a1] h i fun d e f=>
 G9 d 0 fun g=>
 G9 d 1 fun h=>
 G9 d 2 fun d=>
 wAl [.slice none 0 0,.slice none 0 0,.slice none 0 0] e f fun e f i=>
 D5 e g 3 f fun f=>
 J1 e (some 3) f fun e=>
 Y2 Tryz.prog 109 [e] f i fun e f g=>
 G9 e 0 fun i=>
 G9 e 1 fun e=>
 wAl [.int .i64 0,.slice none 0 0,.slice none 0 0,.slice none 0 0,.bool false,.slice none 0 0,.slice none 0 0] f g fun f g j=>
 D5 f i 7 g fun g=>
 D10 .neq e i0 fun i=>
 K2 i (
 U11 [.slice none 0 0,.slice none 0 0,.bool false,.slice none 0 0,.slice none 0 0] [(0,1),(1,1),(2,3)] [] fun b=>
 D5 c b 5 g fun b=>
 J1 c (some 5) b fun c=>
 Rt (.tuple ⟨[c,e]⟩) b j k) (
 M2 (j+12) fun e=>
 wFl b 1 g fun i l=>
 R4 l 0 g fun m=>
 Y2 Tryz.prog 110 [m] g e fun e n o=>
 wFl b 0 n fun b p=>
 Y2 Tryz.prog 110 [p] n o fun o q r=>
 C81 f 4 3 q fun s t=>
 U11 [.slice none 0 0,.slice none 0 0,.bool false,.slice none 0 0,.slice none 0 0] [(0,1),(1,1),(2,3)] [(0,e),(1,o),(2,t)] fun e=>
 wNm j 10 .ptr fun o=>
 E6 q (j+10) (some (.cells [.slice none 0 0,.slice none 0 0,.bool false,.slice none 0 0,.slice none 0 0] 0)) fun j=>D5 o e 5 j fun e=>
 wK ((tA ((cE s (some 3) q t)/\((cE s (some 3) n t)/\(tB (cE s (some 3) g t)))))/\((tA (tA ((cE b none n p)/\(tB (cE b none g p)))))/\((tA (tA (tA (tB (R4 l 0 g fun b=>b=m)))))/\(tB (tA (tA (tA (tB (cE i none g l))))))))) (
 R4 h 0 e fun b=>
 G3 (fun e g i j=>
 D10 .lss g.a b fun b=>
 K2 b (
 U6 h g.a i fun _ b=>
 M2 (j+10) fun c=>
 wFl o 1 i fun d h=>
 wFl f 1 i fun f j=>
 B15 j g.a 3 i fun l m=>
 M3 h b none 3 fun b=>
 D5 b m 3 i fun b=>
 wK ((tA (tB (cE l (some 3) i m)))/\((tA (tB (cE f none i j)))/\(tB (tA (tB (cE d none i h)))))) (
 D10 .add g.a i1 fun d=>
 e [d] b c)) (
 R4 d 0 i fun b=>
 G3 (fun e g h i=>
 D10 .lss g.a b fun b=>
 K2 b (
 U6 d g.a h fun _ b=>
 M2 (i+10) fun c=>
 wFl o 0 h fun d i=>
 wFl f 2 h fun f j=>
 B15 j g.a 3 h fun l m=>
 M3 i b none 3 fun b=>
 D5 b m 3 h fun b=>
 wK ((tA (tB (cE l (some 3) h m)))/\((tA (tB (cE f none h j)))/\(tB (tA (tB (cE d none h i)))))) (
 D10 .add g.a i1 fun d=>
 e [d] b c)) (
 J1 o (some 5) h fun b=>
 D5 c b 5 h fun b=>
 J1 c (some 5) b fun c=>
 Rt (.tuple ⟨[c,i0]⟩) b i k)) [i0] i j)) [i0] e r))))) [u0,i0] e f))
variable {a0 a1 a2 H nx k}
theorem spec127:F127 a0 H nx k->Q2 Tryz.prog 127 [a0] H nx k:=Q12 [] [] []
theorem spec135:F135 a0 H nx k->Q2 Tryz.prog 135 [a0] H nx k:=Q12 [] [[9]] []
theorem spec136:F136 a0 H nx k->Q2 Tryz.prog 136 [a0] H nx k:=Q12 [] [] []
theorem spec119:F119 a0 H nx k->Q2 Tryz.prog 119 [a0] H nx k:=Q12 [] [[15]] []
theorem spec139:F139 a0 a1 a2 H nx k->Q2 Tryz.prog 139 [a0,a1,a2] H nx k:=Q12 [(10,[])] [[21]] []
theorem spec137:F137 a0 a1 a2 H nx k->Q2 Tryz.prog 137 [a0,a1,a2] H nx k:=Q12 [(7,[]),(14,[])] [[34],[61]] []
theorem spec140:F140 a0 a1 H nx k->Q2 Tryz.prog 140 [a0,a1] H nx k:=Q12 [(7,[5]),(13,[11]),(15,[68])] [[5,17]] [.one (.tst (.tst (.one (.one .nil)) (.one (.one .nil))) (.one (.one (.one .nil))))]
theorem spec120:F120 a0 H nx k->Q2 Tryz.prog 120 [a0] H nx k:=Q12 [] [[20],[31]] []
theorem spec121:F121 a0 H nx k->Q2 Tryz.prog 121 [a0] H nx k:=Q12 [(6,[3]),(9,[47]),(24,[]),(31,[118])] [[3,15],[91],[98]] [.one (.tst (.tst (.one (.one .nil)) (.one (.one .nil))) (.one (.one (.one .nil)))),.one (.tst (.one .nil) (.one .nil))]
theorem spec122:F122 a0 H nx k->Q2 Tryz.prog 122 [a0] H nx k:=Q12 [] [] []
theorem spec123:F123 a0 a1 H nx k->Q2 Tryz.prog 123 [a0,a1] H nx k:=Q12 [(10,[])] [[16],[36]] []
theorem spec124:F124 a0 a1 H nx k->Q2 Tryz.prog 124 [a0,a1] H nx k:=Q12 [] [[],[9]] []
theorem spec125:F125 a0 H nx k->Q2 Tryz.prog 125 [a0] H nx k:=Q12 [(6,[])] [[16]] []
theorem spec109:F109 a0 H nx k->Q2 Tryz.prog 109 [a0] H nx k:=Q12 [(5,[20])] [] [.one (.tst (.one .nil) (.one .nil))]
theorem spec107:F107 a0 H nx k->Q2 Tryz.prog 107 [a0] H nx k:=Q12 [] [] []
theorem spec110:F110 a0 H nx k->Q2 Tryz.prog 110 [a0] H nx k:=Q12 [] [[9]] []
theorem spec108:F108 a0 a1 H nx k->Q2 Tryz.prog 108 [a0,a1] H nx k:=Q12 [(7,[8]),(16,[9]),(20,[57])] [[8,20],[9,43],[15,66]] [.one (.tst (.one .nil) (.one .nil))]
theorem spec95:F95 a0 a1 H nx k->Q2 Tryz.prog 95 [a0,a1] H nx k:=Q12 [] [[7,35],[76],[93]] []
end
end Go.Proofs.YtoiioigihocgbaaGreatDoor
namespace Go.Clo
def RC(H:Y0)(nx:Nat)(css:List (List Value))(xs:List Rat):Prop:=css.length=xs.length/\∀(i:Nat) (c:List Value) (x:Rat),css[i]? = some c->xs[i]? = some x->c.length=3/\RR H nx (.agg ⟨c⟩) x
theorem W26:∀{css:List (List Value)},(∀ c ∈ css,c.length=3)->css.flatten.length=3*css.length
 | [],_=>rfl
 | c :: css,h=>by
  rw[List.flatten_cons,bH,h c (by simp),W26 fun d hd=>h d (by simp[hd]),cV];omega
theorem G72:∀{css:List (List Value)}{i j:Nat}{c:List Value},(∀ c ∈ css,c.length=3)->css[i]? = some c->j<3->css.flatten[3*i+j]? = c[j]?
 | [],i,j,c,_,h,_=>by simp at h
 | d :: css,0,j,c,h3,h,hj=>by
  simp at h;subst h;rw[List.flatten_cons,Nat.mul_zero,cF,bQ (by rw[h3 d (by simp)];exact hj)]
 | d :: css,i+1,j,c,h3,h,hj=>by
  rw[List.flatten_cons,bS (by rw[h3 d (by simp)];omega),h3 d (by simp),show 3*(i+1)+j-3=3*i+j by omega];exact G72 (fun e he=>h3 e (by simp[he])) (by simpa using h) hj
def RB(H:Y0)(nx:Nat)(b:Nat)(xs:List Rat):Prop:=∃ css,J0 H b=some (.cells css.flatten 0)/\b<nx/\RC H nx css xs
def V7(c:List Value):Prop:=∃ s A l k C l' k',c=[.bool s,.slice A l k,.slice C l' k']
theorem V7.three{c:List Value}(h:V7 c):c.length=3:=by obtain⟨s,A,l,k,C,l',k',rfl⟩:=h;rfl
theorem RR.tri{H:Y0}{nx:Nat}{c:List Value}{x:Rat}(h:RR H nx (.agg ⟨c⟩) x):V7 c:=by
 obtain⟨A,l,k,C,l',k',e,_⟩:=h.form
 cases e
 exact⟨_,_,_,_,_,_,_,rfl⟩
theorem N77{css:List (List Value)}(h:∀ c ∈ css,V7 c):∀(q:Nat) (z:Int),css.flatten[q]? ≠ some (cD .u32 z):=by
 intro q z hq;obtain⟨c,hc,hv⟩:=List.mem_flatten.1 (aH hq);obtain⟨s,A,l,k,C,l',k',rfl⟩:=h c hc;simp at hv
theorem M78:∀{css:List (List Value)}{i:Nat}{c:List Value},(∀ d ∈ css,d.length=3)->c.length=3->i<css.length->B12 css.flatten (3*i) c=(css.set i c).flatten:=by
 intro css i c h3 hc hi;apply dH;intro q;have hl:=W26 h3;have E:∀ d ∈ css.set i c,d.length=3:=fun d hd=>by
  rcases List.mem_or_eq_of_mem_set hd with e | e
  .exact h3 d e
  .rw[e];exact hc
 have J:=W26 E;rw[dO] at J;unfold B12
 by_cases h1:q<3*i
 .rw[List.append_assoc,bQ (by simp only[cK,hl];omega),aX,if_pos h1]
  have hq:q/3<css.length:=by omega
  have e:=G72 (i:=q/3) (j:=q%3) h3 (aE hq) (eZ _ (by omega));have e':=G72 (i:=q/3) (j:=q%3) (c:=css[q/3]) E (by rw[bL (by omega),aE hq]) (eZ _ (by omega));rw[show 3*(q/3)+q%3=q by omega] at e e';rw[e,e']
 .by_cases h2:q<3*i+3
  .rw[List.append_assoc,bS (by simp only[cK,hl];omega),bQ (by simp only[cK,hl,hc];omega)]
   have e':=G72 (i:=i) (j:=q-3*i) (c:=c) E (by rw[dG hi]) (by omega);rw[show 3*i+(q-3*i)=q by omega] at e';rw[e'];congr 1;simp only[cK,hl];omega
  .rw[bS (by simp only[bH,cK,hl,hc];omega),dB]
   have e0:3*i+c.length+(q-(List.take (3*i) css.flatten++c).length)=q:=by simp only[bH,cK,hl,hc];omega
   rw[e0]
   by_cases h4:q<3*css.length
   .have hq:q/3<css.length:=by omega
    have e:=G72 (i:=q/3) (j:=q%3) h3 (aE hq) (eZ _ (by omega));have e':=G72 (i:=q/3) (j:=q%3) (c:=css[q/3]) E (by rw[bL (by omega),aE hq]) (eZ _ (by omega));rw[show 3*(q/3)+q%3=q by omega] at e e';rw[e,e']
   .rw[aT (by omega),aT (by omega)]
def Z29:List Value:=[.bool false,.slice none 0 0,.slice none 0 0]
theorem Z83(n:Nat):Q19 Z29 n=(aF n Z29).flatten:=by
 induction n with
 | zero=>rfl
 | succ n ih=>rw[Q19,ih,List.replicate_succ,List.flatten_cons]
theorem D106:V7 Z29:=⟨false,none,0,0,none,0,0,rfl⟩
theorem J85{css:List (List Value)}{i:Nat}{c:List Value}(h:∀ d ∈ css,V7 d)(hc:V7 c):∀ d ∈ css.set i c,V7 d:=fun d hd=>by
 rcases List.mem_or_eq_of_mem_set hd with e | e
 .exact h d e
 .rw[e];exact hc
theorem R74{H:Y0}{b i:Nat}{css:List (List Value)}{c:List Value}(hg:J0 H b=some (.cells css.flatten 0))(h3:∀ d ∈ css,V7 d)(hc:V7 c)(hi:i<css.length)(k:Y0->Prop):
  D5 (.pointer (some ⟨b,3*i,none⟩)) (.agg ⟨c⟩) 3 H k=k (hs H b (some (.cells (css.set i c).flatten 0))):=by
 have E:∀ d ∈ css,d.length=3:=fun d hd=>(h3 d hd).three
 have ho:Z0 c=true:=by obtain⟨s,A,l,q,C,l',q',rfl⟩:=hc;rfl
 rw[C49,if_pos ⟨hc.three,ho⟩,hg,U20,hc.three,W26 E,M78 E hc.three hi];simp;omega
end Go.Clo
namespace Go.Proofs.YtoiioigihocgbaaGreatDoor
open Go.Clo
theorem W82{n:Nat}(hn:n<=1000)(H:Y0)(nx:Nat):Q2 Tryz.prog 135 [.int .i64 (n:Int)] H nx fun v H' nx'=>v = .slice (some ⟨nx,0,none⟩) n n/\RB H' nx' nx (aF n 0)/\D0 H nx H' nx':=by
 refine spec135 ?_;unfold F135;simp only[W1];rw[M27 (by omega),show [dU false,.slice none 0 0,.slice none 0 0]=Z29 from rfl,Z83];simp(disch:=first|omega|assumption)only[W0,Q0.val];have Z:D0 H nx (hs H nx (some (.cells (aF n Z29).flatten 0))) (nx+1):=(D0.refl H nx).new _ (aD _) (by omega);refine B1 (m:=n) (fun m L H' nx'=>∃(i:Nat) (css:List (List Value)),m+i=n/\L=[.int .i64 (i:Int)]/\css.length=n/\(∀ d ∈ css,V7 d)/\(∀(q:Nat) (c:List Value),q<i->css[q]? = some c->RR H' nx' (.agg ⟨c⟩) 0) /\
  J0 H' nx=some (.cells css.flatten 0)/\D0 H nx H' nx'/\nx<nx') ?_ ⟨0,aF n Z29,rfl,rfl,by simp,fun d hd=>by rw[(List.mem_replicate.1 hd).2];exact D106,fun q c hq=>by omega,Z11 _ _ _,Z,by omega⟩
 rintro m ih L H1 a0 ⟨i,css,hm,rfl,O,E,J,hg,hE,W⟩ a1
 by_cases hi:i<n
 case neg=>
  have U:¬ (i:Int)<(n:Int):=by omega
  simp(disch:=first|omega|assumption)only[W0,U];refine⟨⟨css,hg,W,by simp[O],fun q c x hc hx => ?_⟩,hE⟩;have hq:q<n:=by rw[<- O];exact(aJ.1 hc).1
  rw[List.getElem?_replicate,if_pos hq] at hx
  cases hx
  exact⟨(E c (aH hc)).three,J q c (by omega) hc⟩
 have U:(i:Int)<(n:Int):=by omega
 simp(disch:=first|omega|assumption)only[W0,U];refine R0 (R73 (n:=0) (by omega) (by omega) H1 a0) ?_;rintro r H2 nx2 ⟨hr,Q⟩;have V:=(Q.get nx W).trans hg;obtain⟨A,l,c,C,m',d,rfl,_,_⟩:=id hr.form;rw[cG i 3,R74 V E hr.tri (by omega)];have a2:=Q.le;refine a1 (m-1) _ _ _ (by omega) ⟨i+1,css.set i _,by omega,by simp,by simp[O],J85 E hr.tri,fun q c' hq hc => ?_,Z11 _ _ _,(hE.trans Q).hs (aD _),by omega⟩
 by_cases e:q=i
 .subst e
  rw[dG (by omega)] at hc
  cases hc
  exact RR.box hr V (N77 E)
 .rw[bL (by omega)] at hc
  exact RR.box ((J q c' (by omega) hc).ext Q) V (N77 E)
end Go.Proofs.YtoiioigihocgbaaGreatDoor
namespace Go.Clo
theorem J22{css:List (List Value)}{q:Nat}{c:List Value}(h3:∀ d ∈ css,d.length=3)(hc:css[q]? = some c)(k:VP):B10 css.flatten (q*3) (some 3) k=k (.agg ⟨c⟩):=by
 have hq:q<css.length:=(aJ.1 hc).1;have hl:=W26 h3;have E:=h3 c (aH hc);rw[X21];have e:(css.flatten.drop (q*3)).take 3=c:=by
  apply dH;intro j
  by_cases hj:j<3
  .rw[aX,if_pos hj,dB,cG q 3,G72 h3 hc hj]
  .rw[aX,if_neg hj,aT (by omega)]
 rw[e];simp only[eq_iff_iff,and_iff_right_iff_imp];intro _;omega
theorem Y82:∀{css:List (List Value)},(∀ c ∈ css,V7 c)->Z0 css.flatten=true
 | [],_=>rfl
 | c :: css,h=>by
  obtain⟨s,A,l,k,C,l',k',rfl⟩:=h c (by simp);rw[List.flatten_cons];show Z0 css.flatten=true;exact Y82 fun d hd=>h d (by simp[hd])
def RX(H:Y0)(nx:Nat)(css:List (List Value))(X:Nat->Rat):Prop:=∀(q:Nat) (c:List Value),css[q]? = some c->RR H nx (.agg ⟨c⟩) (X q)
theorem RX.tri{H:Y0}{nx:Nat}{css:List (List Value)}{X:Nat->Rat}(h:RX H nx css X):∀ c ∈ css,V7 c:=fun c hc=>by
 obtain⟨i,hi,rfl⟩:=gL hc;exact(h i _ (aE hi)).tri
theorem RX.three{H:Y0}{nx:Nat}{css:List (List Value)}{X:Nat->Rat}(h:RX H nx css X):∀ c ∈ css,c.length=3:=fun c hc=>(h.tri c hc).three
theorem RX.ext{H:Y0}{nx:Nat}{css:List (List Value)}{X:Nat->Rat}{H':Y0}{nx':Nat}(h:RX H nx css X)(e:D0 H nx H' nx'):RX H' nx' css X:=fun q c hc=>(h q c hc).ext e
theorem RX.put{H:Y0}{nx b i sl:Nat}{css:List (List Value)}{c:List Value}{X Y:Nat->Rat}{y:Rat}(h:RX H nx css X)(hg:J0 H b=some (.cells css.flatten sl))(hc:RR H nx (.agg ⟨c⟩) y)(hi:i<css.length)
  (hY:Y i=y)(hX:∀ q,q≠i->Y q=X q):RX (hs H b (some (.cells (css.set i c).flatten 0))) nx (css.set i c) Y:=by
 intro q d hq
 by_cases e:q=i
 .subst e
  rw[dG hi] at hq
  cases hq
  rw[hY];exact RR.box hc hg (N77 h.tri)
 .rw[bL (by omega)] at hq
  rw[hX q e];exact RR.box (h q d hq) hg (N77 h.tri)
def RO(H:Y0)(nx b n:Nat)(X:Nat->Rat):Prop:=∃ css,J0 H b=some (.cells css.flatten 0)/\b<nx/\css.length=n/\RX H nx css X
theorem RO.ext{H:Y0}{nx b n:Nat}{X:Nat->Rat}{H':Y0}{nx':Nat}(h:RO H nx b n X)(e:D0 H nx H' nx'):RO H' nx' b n X:=by
 obtain⟨css,hg,hb,hl,hx⟩:=h;have:=e.le;exact⟨css,(e.get b hb).trans hg,by omega,hl,hx.ext e⟩
theorem RO.congr{H:Y0}{nx b n:Nat}{X Y:Nat->Rat}(h:RO H nx b n X)(e:∀ q,q<n->Y q=X q):RO H nx b n Y:=by
 obtain⟨css,hg,hb,hl,hx⟩:=h;refine⟨css,hg,hb,hl,fun q c hc => ?_⟩;have:=(aJ.1 hc).1;rw[e q (by omega)];exact hx q c hc
theorem RB.ro{H:Y0}{nx b:Nat}{xs:List Rat}(h:RB H nx b xs):RO H nx b xs.length (fun q=>xs.getD q 0):=by
 obtain⟨css,hg,hb,hl,hc⟩:=h;refine⟨css,hg,hb,hl,fun q c hq => ?_⟩;have E:=(aJ.1 hq).1;have e:xs[q]? = some xs[q]:=aE (by omega);have:=(hc q c xs[q] hq e).2;simp only[aP,e,Option.getD_some];exact this
end Go.Clo
namespace Go.Proofs.YtoiioigihocgbaaGreatDoor
open Go.Clo
theorem Y76{H:Y0}{nx p n m:Nat}{r:List Value}(hg:J0 H p=some (.cells (.int .i64 (n:Int) :: .int .i64 (m:Int) :: r) 0))(hn:n<=100)(hm:m<=100):
  Q2 Tryz.prog 127 [.pointer (some ⟨p,0,none⟩)] H nx fun v H' nx' => .int .i64 ((n+m+1:Nat):Int)=v/\H'=H/\nx<=nx':=by
 refine spec127 ?_;unfold F127;simp(disch:=first|omega|assumption)only[W0,hg];refine⟨?_,by omega⟩;simp
theorem R93{H:Y0}{nx p n m:Nat}{r:List Value}(hg:J0 H p=some (.cells (.int .i64 (n:Int) :: .int .i64 (m:Int) :: r) 0))(hn:n<=100)(hm:m<=100):
  Q2 Tryz.prog 136 [.pointer (some ⟨p,0,none⟩)] H nx fun v H' nx' => .int .i64 ((n+m:Nat):Int)=v/\H'=H/\nx<=nx':=by
 refine spec136 ?_;unfold F136;simp(disch:=first|omega|assumption)only[W0,hg];refine⟨?_,by omega⟩;simp
end Go.Proofs.YtoiioigihocgbaaGreatDoor
