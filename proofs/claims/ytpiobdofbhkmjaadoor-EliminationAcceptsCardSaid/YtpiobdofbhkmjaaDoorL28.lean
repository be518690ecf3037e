/-
  Contracts: rat.Add,rat.Sub.
  Contracts: rat.Sub,rat.Int.
  Contracts: rat.Int,rat.divisor,rat.Cmp.
  Contracts: rat.divisor,rat.Cmp.
  Rows of rational numbers in memory.
  Contracts: simplex.zeros,right,artificial.
  Contracts: simplex.right,artificial,combined.
-/
import Derived.Test.YtpiobdofbhkmjaaDoorL27
import Derived.Test.YtpiobdofbhkmjaaDoorL19
set_option linter.unusedSimpArgs false
set_option linter.unusedVariables false
set_option linter.unusedSectionVars false
namespace Go.Clo
theorem C70 (x:Rat) (d:Nat):sg (decide (x.num<0)) (x.num.natAbs*d)=x.num*(d:Int):=by
 have e:=Z79 x
 unfold sg at *
 by_cases h:decide (x.num<0)=true
 .rw[if_pos h] at *
  rw[Int.natCast_mul,<- Int.neg_mul,e]
 .rw[if_neg h] at *
  rw[Int.natCast_mul,e]
theorem C78 (x y:Rat):mkRat (x.num*(y.den:Int)+y.num*(x.den:Int)) (x.den*y.den)=x+y:=by
 have:=Rat.mkRat_add_mkRat x.num y.num x.den_nz y.den_nz
 rw[Rat.mkRat_self,Rat.mkRat_self] at this
 exact this.symm
theorem D95 (s:Bool) (a b:Nat):sg s (a+b)=sg s a+sg s b:=by unfold sg;cases s<;>simp<;>omega
theorem C90 (s:Bool) {a b:Nat} (h:b<=a):sg s (a-b)=sg s a+sg (!s) b:=by unfold sg;cases s<;>simp<;>omega
theorem U91 (s:Bool) {a b:Nat} (h:a<=b):sg (!s) (b-a)=sg s a+sg (!s) b:=by unfold sg;cases s<;>simp<;>omega
theorem B74 {a b L:Nat} (ha:(R0 a).length<=L) (hb:(R0 b).length<=L):(R0 (a+b)).length<=L+1:=by
 have h1:a<4294967296^L:=Nat.lt_of_lt_of_le (U13 a) (Nat.pow_le_pow_right (by omega) ha)
 have h2:b<4294967296^L:=Nat.lt_of_lt_of_le (U13 b) (Nat.pow_le_pow_right (by omega) hb)
 refine X7 ?_
 rw[Nat.pow_succ];omega
end Go.Clo
namespace Go.Proofs.YtpiobdofbhkmjaaDoor
open Go.Clo
set_option maxHeartbeats 4000000 in
theorem G95 {v w:Value} {x y:Rat} {H:Y0} {nx:Nat} (hv:RR H nx v x) (hw:RR H nx w y) (hx:X4 x 100000) (hy:X4 y 100000):
  J2 Tryd.prog 101 [v,w] H nx fun r H' nx'=>RR H' nx' r (x+y)/\D0 H nx H' nx':=by
 obtain⟨A0,l0,c0,C0,m0,d0,rfl,hvn,hvd⟩:=hv.form
 obtain⟨A1,l1,c1,C1,m1,d1,rfl,hwn,hwd⟩:=hw.form
 refine spec101 ?_
 unfold F101
 generalize hsx:decide (x.num<0)=sx at *
 generalize hsy:decide (y.num<0)=sy at *
 simp (disch:=first|omega|assumption) only[W0,Z0,B0.val]
 obtain⟨K,hK⟩:∃ K,K=hs (hs (hs H nx (some (.cells [.bool sx,.slice A0 l0 c0,.slice C0 m0 d0] 0))) (nx+1) (some (.cells [.bool sy,.slice A1 l1 c1,.slice C1 m1 d1] 0))) (nx+1+1) (some (.cells [.bool false,.slice none 0 0,.slice none 0 0] 0)):=⟨_,rfl⟩
 have gK0:X0 K nx=some (.cells [.bool sx,.slice A0 l0 c0,.slice C0 m0 d0] 0):=by rw[hK,M0 _ (by omega),M0 _ (by omega),Q0]
 have gK1:X0 K (nx+1)=some (.cells [.bool sy,.slice A1 l1 c1,.slice C1 m1 d1] 0):=by rw[hK,M0 _ (by omega),Q0]
 have gK2:X0 K (nx+1+1)=some (.cells [.bool false,.slice none 0 0,.slice none 0 0] 0):=by rw[hK,Q0]
 have hEK:D0 H nx K (nx+1+1+1+6):=⟨by omega,fun i hi=>by rw[hK,M0 _ (by omega),M0 _ (by omega),M0 _ (by omega)]⟩
 rw[<- hK]
 simp (disch:=first|omega|assumption) only[W0,D3]
 have hv':RR K (nx+1+1+1+6) (.agg ⟨[.bool sx,.slice A0 l0 c0,.slice C0 m0 d0]⟩) x:=hv.ext hEK
 refine K0 (J13 hv' ⟨by have:=hx.1;omega,by have:=hx.2;omega⟩) ?_
 rintro r1 H5 nx5 ⟨hr1,hE5⟩
 have g5_0:=(hE5.get nx (by omega)).trans gK0
 have g5_1:=(hE5.get (nx+1) (by omega)).trans gK1
 have g5_2:=(hE5.get (nx+1+1) (by omega)).trans gK2
 obtain⟨A2,l2,c2,C2,m2,d2,rfl,hr1n,hr1d⟩:=hr1.form
 simp only[hsx] at hr1 ⊢
 simp (disch:=first|omega|assumption) only[W0,Z0,Nat.reduceAdd,g5_1,D3]
 refine K0 (J13 (hw.ext (hEK.trans hE5)) ⟨by have:=hy.1;omega,by have:=hy.2;omega⟩) ?_
 rintro r2 H6 nx6 ⟨hr2,hE6⟩
 have g6_0:=(hE6.get nx (by have:=hE5.le;omega)).trans g5_0
 have g6_1:=(hE6.get (nx+1) (by have:=hE5.le;omega)).trans g5_1
 have g6_2:=(hE6.get (nx+1+1) (by have:=hE5.le;omega)).trans g5_2
 obtain⟨A3,l3,c3,C3,m3,d3,rfl,hr2n,hr2d⟩:=hr2.form
 simp only[hsy] at hr2 ⊢
 obtain⟨M,hM⟩:∃ M,M=hs (hs H6 nx (some (.cells [.bool sx,.slice A2 l2 c2,.slice C2 m2 d2] 0))) (nx+1) (some (.cells [.bool sy,.slice A3 l3 c3,.slice C3 m3 d3] 0)):=⟨_,rfl⟩
 have g7_1:X0 (hs H6 nx (some (.cells [.bool sx,.slice A2 l2 c2,.slice C2 m2 d2] 0))) (nx+1)=some (.cells [.bool sy,.slice A1 l1 c1,.slice C1 m1 d1] 0):=by rw[M0 _ (by omega)];exact g6_1
 have gM0:X0 M nx=some (.cells [.bool sx,.slice A2 l2 c2,.slice C2 m2 d2] 0):=by rw[hM,M0 _ (by omega),Q0]
 have gM1:X0 M (nx+1)=some (.cells [.bool sy,.slice A3 l3 c3,.slice C3 m3 d3] 0):=by rw[hM,Q0]
 have gM2:X0 M (nx+1+1)=some (.cells [.bool false,.slice none 0 0,.slice none 0 0] 0):=by rw[hM,M0 _ (by omega),M0 _ (by omega)];exact g6_2
 have hEM:D0 H nx M (nx6+12):=⟨by have:=hEK.le;have:=hE5.le;have:=hE6.le;omega,fun i hi=>by rw[hM,M0 _ (by omega),M0 _ (by omega)];exact ((hEK.trans hE5).trans hE6).get i hi⟩
 have boxM:∀ {u:Value} {q:Nat},NN H6 nx6 u q->NN M (nx6+12) u q:=fun h=>by
  rw[hM]
  exact NN.ext (NN.box (NN.box h g6_0 (G10 _ _ _ _ _ _ _)) g7_1 (G10 _ _ _ _ _ _ _)) (D0.self (by omega))
 simp (disch:=first|omega|assumption) only[W0,Z0,Nat.reduceAdd,g6_0,g6_1,G5]
 rw[<- hM]
 have hlx:(R0 x.num.natAbs).length<100000:=hx.1
 have hld:(R0 x.den).length<100000:=hx.2
 have hly:(R0 y.num.natAbs).length<100000:=hy.1
 have hle:(R0 y.den).length<100000:=hy.2
 refine K0 (Z30 (boxM (hr1n.ext hE6)) (boxM hr2d) (by omega) (by omega)) ?_
 rintro p1 H10 nx10 ⟨hp1,hE10⟩
 have hn6:nx+1+1<nx6:=by have:=hEK.le;have:=hE5.le;have:=hE6.le;omega
 have g10_0:=(hE10.get nx (by omega)).trans gM0
 have g10_1:=(hE10.get (nx+1) (by omega)).trans gM1
 have g10_2:=(hE10.get (nx+1+1) (by omega)).trans gM2
 simp (disch:=first|omega|assumption) only[W0,g10_0,g10_1]
 refine K0 (Z30 ((boxM hr2n).ext hE10) ((boxM (hr1d.ext hE6)).ext hE10) (by omega) (by omega)) ?_
 rintro p2 H11 nx11 ⟨hp2,hE11⟩
 have hle11:nx6+12<=nx10:=hE10.le
 have g11_0:=(hE11.get nx (by omega)).trans g10_0
 have g11_1:=(hE11.get (nx+1) (by omega)).trans g10_1
 have g11_2:=(hE11.get (nx+1+1) (by omega)).trans g10_2
 have hle12:nx10<=nx11:=hE11.le
 simp (disch:=first|omega|assumption) only[W0,g11_0,g11_1]
 refine K0 (Z30 (((boxM (hr1d.ext hE6)).ext hE10).ext hE11) (((boxM hr2d).ext hE10).ext hE11) (by omega) (by omega)) ?_
 rintro p3 H12 nx12 ⟨hp3,hE12⟩
 have hle13:nx11<=nx12:=hE12.le
 have g12_0:=(hE12.get nx (by omega)).trans g11_0
 have g12_1:=(hE12.get (nx+1) (by omega)).trans g11_1
 have g12_2:=(hE12.get (nx+1+1) (by omega)).trans g11_2
 have hp1':=(hp1.ext hE11).ext hE12
 have hp2':=hp2.ext hE12
 have da:=M16 (la:=100000) (lb:=100000) (Nat.le_of_lt hlx) (Nat.le_of_lt hle)
 have db:=M16 (la:=100000) (lb:=100000) (Nat.le_of_lt hly) (Nat.le_of_lt hld)
 have dd:=M16 (la:=100000) (lb:=100000) (Nat.le_of_lt hld) (Nat.le_of_lt hle)
 have e1:=C70 x y.den
 have e2:=C70 y x.den
 rw[hsx] at e1
 rw[hsy] at e2
 generalize hna:x.num.natAbs*y.den=na at *
 generalize hnb:y.num.natAbs*x.den=nb at *
 have hden:x.den*y.den≠0:=Nat.mul_ne_zero x.den_nz y.den_nz
 obtain⟨Z,cZ,hZe,hZ⟩:=id hp3
 have fin:∀ (s:Bool) (n:Nat) (u:Value) (H7:Y0) (nx7:Nat),D0 H12 nx12 H7 nx7->NN H7 nx7 u n->sg s n=x.num*(y.den:Int)+y.num*(x.den:Int)->(R0 n).length<400000 ->
   J2 Tryd.prog 36 [.agg ⟨[.bool s,u,p3]⟩] H7 nx7 fun r H' nx'=>(∃ A l c C m d b,r = .agg ⟨[.bool b,.slice A l c,.slice C m d]⟩/\RR (hs H' (nx+1+1) (some (.cells [.bool b,.slice A l c,.slice C m d] 0))) nx' r (x+y)/\D0 H nx (hs H' (nx+1+1) (some (.cells [.bool b,.slice A l c,.slice C m d] 0))) nx') /\
    X0 H' (nx+1+1)=some (.cells [.bool false,.slice none 0 0,.slice none 0 0] 0)/\D0 H12 nx12 H' nx':=by
  intro s n u H7 nx7 hE7 hu hs1 hl
  refine (X43 ⟨u,p3,rfl,hu,hp3.ext hE7⟩ hden hl (by omega)).mono ?_
  rintro r H' nx' ⟨hr,hE'⟩
  have g':=(hE'.get (nx+1+1) (by have:=hE7.le;omega)).trans ((hE7.get (nx+1+1) (by omega)).trans g12_2)
  rw[hs1,C78] at hr
  obtain⟨A4,l4,c4,C4,m4,d4,rfl,hrn,hrd⟩:=id hr.form
  exact⟨⟨A4,l4,c4,C4,m4,d4,_,rfl,RR.box hr g' (G10 _ _ _ _ _ _ _),(((((hEM.trans hE10).trans hE11).trans hE12).trans hE7).trans hE').hs (by omega)⟩,g',hE7.trans hE'⟩
 by_cases hss:sx=sy
 .have ess:(sx==sy)=true:=by rw[hss];exact beq_self_eq_true sy
  simp (disch:=first|omega|assumption) only[W0,g12_0,g12_1,N49,cond_false,ess]
  refine K0 (W95 (hp1'.ext (D0.self (by omega:nx12<=nx12+9))) (hp2'.ext (D0.self (by omega))) (by omega) (by omega)) ?_
  rintro u H14 nx14 ⟨hu,hE14⟩
  have hE14':D0 H12 nx12 H14 nx14:=(D0.self (by omega)).trans hE14
  have g14_0:=(hE14'.get nx (by omega)).trans g12_0
  obtain⟨U,cU,rfl,hU⟩:=id hu
  have hda:=B74 (L:=200000) da db
  rw[hZe,C12,<- hZe]
  refine K0 (fin sx (na+nb) _ H14 nx14 hE14' hu (by rw[D95,e1];rw[hss,e2]) (by omega)) ?_
  rintro r H15 nx15 ⟨⟨A,l,c,C,m,d,b,rfl,hr,hEr⟩,g15,hE15⟩
  have g15_0:=(hE15.get nx (by omega)).trans g12_0
  simp (disch:=first|omega|assumption) only[W0,Z0,Nat.reduceAdd,g15,G5,D3,g14_0]
  exact⟨hr,hEr⟩
 .have ess:(sx==sy)=false:=beq_false_of_ne hss
  have hsy2:sy = !sx:=by revert hss;cases sx<;>cases sy<;>simp
  simp (disch:=first|omega|assumption) only[W0,g12_0,g12_1,N49,cond_false,ess]
  refine K0 (N77 hp1' hp2' (by omega) (by omega)) ?_
  rintro t H17 nx17 ⟨ht,hE17⟩
  have g17_0:=(hE17.get nx (by omega)).trans g12_0
  have g17_1:=(hE17.get (nx+1) (by omega)).trans g12_1
  by_cases hlt:na<nb
  .rw[if_pos hlt] at ht
   subst ht
   have e19:decide ((19:Int)=0)=false:=rfl
   simp (disch:=first|omega|assumption) only[W0,e19]
   refine K0 (N77 (hp2'.ext hE17) (hp1'.ext hE17) (by omega) (by omega)) ?_
   rintro t2 H20 nx20 ⟨ht2,hE20⟩
   rw[if_neg (by omega)] at ht2
   obtain⟨u,rfl,hu⟩:=ht2
   have hE20':=hE17.trans hE20
   have g20_1:=(hE20'.get (nx+1) (by omega)).trans g12_1
   obtain⟨U,cU,rfl,hU⟩:=id hu
   simp (disch:=first|omega|assumption) only[W0,g20_1]
   rw[hZe,C12,<- hZe]
   refine K0 (fin sy (nb-na) _ H20 nx20 hE20' hu (by rw[hsy2] at e2 ⊢;rw[U91 sx (by omega),e1,e2]) (Nat.lt_of_le_of_lt (D20 (Nat.sub_le nb na)) (by omega))) ?_
   rintro r H15 nx15 ⟨⟨A,l,c,C,m,d,b,rfl,hr,hEr⟩,g15,hE15⟩
   simp (disch:=first|omega|assumption) only[W0,Z0,Nat.reduceAdd,g15,G5,D3]
   exact⟨hr,hEr⟩
  .rw[if_neg hlt] at ht
   obtain⟨u,rfl,hu⟩:=ht
   obtain⟨U,cU,rfl,hU⟩:=id hu
   have e00:decide ((0:Int)=0)=true:=rfl
   simp (disch:=first|omega|assumption) only[W0,g17_0]
   rw[hZe,C12,<- hZe]
   refine K0 (fin sx (na-nb) _ H17 nx17 hE17 hu (by rw[C90 sx (by omega),e1];rw[hsy2] at e2;rw[e2]) (Nat.lt_of_le_of_lt (D20 (Nat.sub_le na nb)) (by omega))) ?_
   rintro r H15 nx15 ⟨⟨A,l,c,C,m,d,b,rfl,hr,hEr⟩,g15,hE15⟩
   simp (disch:=first|omega|assumption) only[W0,Z0,Nat.reduceAdd,g15,G5,D3]
   exact⟨hr,hEr⟩
end Go.Proofs.YtpiobdofbhkmjaaDoor

namespace Go.Proofs.YtpiobdofbhkmjaaDoor
open Go.Clo
set_option maxHeartbeats 2000000 in
theorem Z95 {v w:Value} {x y:Rat} {H:Y0} {nx:Nat} (hv:RR H nx v x) (hw:RR H nx w y) (hx:X4 x 100000) (hy:X4 y 100000):
  J2 Tryd.prog 99 [v,w] H nx fun r H' nx'=>RR H' nx' r (x-y)/\D0 H nx H' nx':=by
 obtain⟨A0,l0,c0,C0,m0,d0,rfl,hvn,hvd⟩:=hv.form
 obtain⟨A1,l1,c1,C1,m1,d1,rfl,hwn,hwd⟩:=hw.form
 refine spec99 ?_
 unfold F99
 generalize hsx:decide (x.num<0)=sx at *
 generalize hsy:decide (y.num<0)=sy at *
 simp (disch:=first|omega|assumption) only[W0,Z0,B0.val]
 obtain⟨K,hK⟩:∃ K,K=hs (hs (hs H nx (some (.cells [.bool sx,.slice A0 l0 c0,.slice C0 m0 d0] 0))) (nx+1) (some (.cells [.bool sy,.slice A1 l1 c1,.slice C1 m1 d1] 0))) (nx+1+1) (some (.cells [.bool false,.slice none 0 0,.slice none 0 0] 0)):=⟨_,rfl⟩
 have gK0:X0 K nx=some (.cells [.bool sx,.slice A0 l0 c0,.slice C0 m0 d0] 0):=by rw[hK,M0 _ (by omega),M0 _ (by omega),Q0]
 have gK1:X0 K (nx+1)=some (.cells [.bool sy,.slice A1 l1 c1,.slice C1 m1 d1] 0):=by rw[hK,M0 _ (by omega),Q0]
 have gK2:X0 K (nx+1+1)=some (.cells [.bool false,.slice none 0 0,.slice none 0 0] 0):=by rw[hK,Q0]
 have hEK:D0 H nx K (nx+1+1+1+5):=⟨by omega,fun i hi=>by rw[hK,M0 _ (by omega),M0 _ (by omega),M0 _ (by omega)]⟩
 rw[<- hK]
 simp (disch:=first|omega|assumption) only[W0,D3]
 have hw':RR K (nx+1+1+1+5) (.agg ⟨[.bool sy,.slice A1 l1 c1,.slice C1 m1 d1]⟩) y:=hw.ext hEK
 refine K0 (C83 hw' ⟨by have:=hy.1;omega,by have:=hy.2;omega⟩) ?_
 rintro r1 H5 nx5 ⟨hr1,hE5⟩
 have g5_0:=(hE5.get nx (by omega)).trans gK0
 have g5_2:=(hE5.get (nx+1+1) (by omega)).trans gK2
 have hsn:X4 (-y) 100000:=by
  unfold X4
  rw[Rat.neg_num,Rat.neg_den,Int.natAbs_neg]
  exact hy
 refine K0 (G95 ((hv.ext hEK).ext hE5) hr1 hx hsn) ?_
 rintro r H6 nx6 ⟨hr,hE6⟩
 have g6_2:=(hE6.get (nx+1+1) (by have:=hE5.le;omega)).trans g5_2
 obtain⟨A4,l4,c4,C4,m4,d4,rfl,hrn,hrd⟩:=id hr.form
 simp (disch:=first|omega|assumption) only[W0,Z0,Nat.reduceAdd,g6_2,G5,D3,g5_0]
 rw[Rat.sub_eq_add_neg]
 exact⟨RR.box hr g6_2 (G10 _ _ _ _ _ _ _),((hEK.trans hE5).trans hE6).hs (by omega)⟩
end Go.Proofs.YtpiobdofbhkmjaaDoor

namespace Go.Clo
def Q11 (x y:Rat):Int:=if x<y then -1 else if y<x then 1 else 0
theorem R63 (x y:Rat):Q11 x y=if x.num*(y.den:Int)<y.num*(x.den:Int) then -1 else if y.num*(x.den:Int)<x.num*(y.den:Int) then 1 else 0:=by
 unfold Q11
 simp only[Rat.lt_iff]
theorem W83 (x y:Rat) (h:x.num.sign≠y.num.sign):(if x.num.sign<y.num.sign then (-1:Int) else if y.num.sign<x.num.sign then 1 else 0)=Q11 x y:=by
 rw[R63]
 have hx:=Int.natCast_pos.2 x.den_pos
 have hy:=Int.natCast_pos.2 y.den_pos
 have sx:x.num.sign=1/\0<x.num\/x.num.sign=0/\x.num=0\/x.num.sign = -1/\x.num<0:=by
  rcases Int.lt_trichotomy x.num 0 with h | h | h
  .exact .inr (.inr ⟨Int.sign_eq_neg_one_of_neg h,h⟩)
  .exact .inr (.inl ⟨by rw[h];rfl,h⟩)
  .exact .inl ⟨Int.sign_eq_one_of_pos h,h⟩
 have sy:y.num.sign=1/\0<y.num\/y.num.sign=0/\y.num=0\/y.num.sign = -1/\y.num<0:=by
  rcases Int.lt_trichotomy y.num 0 with h | h | h
  .exact .inr (.inr ⟨Int.sign_eq_neg_one_of_neg h,h⟩)
  .exact .inr (.inl ⟨by rw[h];rfl,h⟩)
  .exact .inl ⟨Int.sign_eq_one_of_pos h,h⟩
 have px:∀ (n:Int) (d:Int),0<d->(0<n->0<n*d)/\(n=0->n*d=0)/\(n<0->n*d<0):=fun n d hd=>
  ⟨fun h=>Int.mul_pos h hd,fun h=>by rw[h,Int.zero_mul],fun h=>Int.mul_neg_of_neg_of_pos h hd⟩
 obtain⟨p1,p2,p3⟩:=px x.num y.den hy
 obtain⟨q1,q2,q3⟩:=px y.num x.den hx
 generalize x.num*(y.den:Int)=a at *
 generalize y.num*(x.den:Int)=b at *
 rcases sx with ⟨e,hs⟩ | ⟨e,hs⟩ | ⟨e,hs⟩<;>rcases sy with ⟨e',hs'⟩ | ⟨e',hs'⟩ | ⟨e',hs'⟩<;>rw[e,e'] at h ⊢ <;> first | exact absurd rfl h | skip
 all_goals (first | (have:=p1 hs) | (have:=p2 hs) | (have:=p3 hs))
 all_goals (first | (have:=q1 hs') | (have:=q2 hs') | (have:=q3 hs'))
 all_goals (split<;>split<;>first | rfl | omega | (split<;>first | rfl | omega) | skip)
theorem N81 (x y:Rat) (h:x.num.sign=y.num.sign):x.num.sign*W16 (x.num.natAbs*y.den) (y.num.natAbs*x.den)=Q11 x y:=by
 rw[R63]
 unfold W16
 have e1:((x.num.natAbs*y.den:Nat):Int)=(x.num.natAbs:Int)*(y.den:Int):=Int.natCast_mul _ _
 have e2:((y.num.natAbs*x.den:Nat):Int)=(y.num.natAbs:Int)*(x.den:Int):=Int.natCast_mul _ _
 generalize x.num.natAbs*y.den=m at *
 generalize y.num.natAbs*x.den=n at *
 rcases Int.lt_trichotomy x.num 0 with hx | hx | hx
 .have sx:=Int.sign_eq_neg_one_of_neg hx
  have hy:y.num<0:=Int.sign_eq_neg_one_iff_neg.1 (h ▸ sx)
  rw[show (x.num.natAbs:Int) = -x.num by omega,Int.neg_mul] at e1
  rw[show (y.num.natAbs:Int) = -y.num by omega,Int.neg_mul] at e2
  rw[sx]
  generalize x.num*(y.den:Int)=a at *
  generalize y.num*(x.den:Int)=b at *
  split<;>split<;>first | rfl | omega | (split<;>first | rfl | omega | (split<;>first | rfl | omega))
 .have hy:y.num=0:=by
   rw[hx] at h
   exact Int.sign_eq_zero_iff_zero.1 h.symm
  rw[hx,hy];simp
 .have sx:=Int.sign_eq_one_of_pos hx
  have hy:0<y.num:=Int.sign_eq_one_iff_pos.1 (h ▸ sx)
  rw[show (x.num.natAbs:Int)=x.num by omega] at e1
  rw[show (y.num.natAbs:Int)=y.num by omega] at e2
  rw[sx]
  generalize x.num*(y.den:Int)=a at *
  generalize y.num*(x.den:Int)=b at *
  split<;>split<;>first | rfl | omega | (split<;>first | rfl | omega | (split<;>first | rfl | omega))
end Go.Clo
namespace Go.Proofs.YtpiobdofbhkmjaaDoor
open Go.Clo
theorem V16 {n:Int} (h1 : -1000000<=n) (h2:n<=1000000) (H:Y0) (nx:Nat):J2 Tryd.prog 10 [.int .i64 n] H nx fun r H' nx'=>RR H' nx' r (n:Rat)/\D0 H nx H' nx':=by
 refine spec10 ?_
 unfold F10
 simp (disch:=first|omega|assumption) only[W0,B0.val]
 obtain⟨K,hK⟩:∃ K,K=hs H nx (some (.cells [.bool false,.slice none 0 0,.slice none 0 0] 0)):=⟨_,rfl⟩
 have gK:X0 K nx=some (.cells [.bool false,.slice none 0 0,.slice none 0 0] 0):=by rw[hK,Q0]
 have hEK:D0 H nx K (nx+1):=⟨by omega,fun i hi=>by rw[hK,M0 _ (by omega)]⟩
 rw[<- hK]
 refine K0 (Q66 h1 h2 K (nx+1)) ?_
 rintro u H2 nx2 ⟨hu,hE2⟩
 obtain⟨U,cU,rfl,hU⟩:=id hu
 rw[M67]
 have hlen:(R0 n.natAbs).length<400000:=by
  have:=X7 (n:=n.natAbs) (k:=1) (by omega)
  omega
 refine K0 (Z72 (s:=decide (n<0)) (d:=0) ⟨_,_,rfl,hu,R55 _ _⟩ hlen (by rw[Z6];simp)) ?_
 rintro r H3 nx3 ⟨hr,hE3⟩
 have g3:=(hE3.get nx (by have:=hE2.le;omega)).trans ((hE2.get nx (by omega)).trans gK)
 have hr':RR H3 nx3 r (n:Rat):=by
  have e1:M49 n.natAbs 0=n.natAbs:=if_pos (.inr rfl)
  have e2:Z48 n.natAbs 0=1:=if_pos (.inr rfl)
  have e3:R42 (decide (n<0)) n.natAbs 0=decide (n<0):=by
   rw[D31]
   by_cases h:n<0
   .rw[decide_eq_true h,decide_eq_true (show 0<n.natAbs by omega)];rfl
   .rw[decide_eq_false h];rfl
  rw[e1,e2,e3] at hr
  exact hr
 obtain⟨A4,l4,c4,C4,m4,d4,rfl,hrn,hrd⟩:=id hr'.form
 simp (disch:=first|omega|assumption) only[W0,Z0,Nat.reduceAdd,g3,G5,D3]
 exact⟨RR.box hr' g3 (G10 _ _ _ _ _ _ _),((hEK.trans hE2).trans hE3).hs (by omega)⟩
end Go.Proofs.YtpiobdofbhkmjaaDoor

namespace Go.Proofs.YtpiobdofbhkmjaaDoor
open Go.Clo
variable {H:Y0} {nx:Nat} {v:Value} {x:Rat}
theorem X52 (h:RR H nx v x) (hx:X4 x 100000):J2 Tryd.prog 35 [v] H nx fun r H' nx'=>NN H' nx' r x.den/\D0 H nx H' nx':=by
 obtain⟨A0,l0,c0,C0,m0,d0,rfl,hn,hd⟩:=h.form
 refine spec35 ?_
 unfold F35
 simp (disch:=first|omega|assumption) only[W0,Z0,B0.val]
 obtain⟨K,hK⟩:∃ K,K=hs H nx (some (.cells [.bool (decide (x.num<0)),.slice A0 l0 c0,.slice C0 m0 d0] 0)):=⟨_,rfl⟩
 have gK:X0 K nx=some (.cells [.bool (decide (x.num<0)),.slice A0 l0 c0,.slice C0 m0 d0] 0):=by rw[hK,Q0]
 have hEK:D0 H nx K (nx+1):=⟨by omega,fun i hi=>by rw[hK,M0 _ (by omega)]⟩
 rw[<- hK]
 refine K0 (K29 (hd.ext hEK) (by have:=hx.2;omega)) ?_
 rintro _ _ _ ⟨rfl,rfl,rfl⟩
 have hb:=X13 x.den_pos
 have e:decide ((W4 x.den:Int)=0)=false:=decide_eq_false (by omega)
 simp (disch:=first|omega|assumption) only[W0,e,gK]
 exact⟨hd.ext hEK,hEK⟩
set_option maxHeartbeats 2000000 in
theorem N20 {w:Value} {y:Rat} (hv:RR H nx v x) (hw:RR H nx w y) (hx:X4 x 100000) (hy:X4 y 100000):
  J2 Tryd.prog 9 [v,w] H nx fun r H' nx' => .int .i64 (Q11 x y)=r/\D0 H nx H' nx':=by
 obtain⟨A0,l0,c0,C0,m0,d0,rfl,hvn,hvd⟩:=hv.form
 obtain⟨A1,l1,c1,C1,m1,d1,rfl,hwn,hwd⟩:=hw.form
 refine spec9 ?_
 unfold F9
 generalize hsx:decide (x.num<0)=sx at *
 generalize hsy:decide (y.num<0)=sy at *
 simp (disch:=first|omega|assumption) only[W0,Z0,B0.val]
 obtain⟨K,hK⟩:∃ K,K=hs (hs H nx (some (.cells [.bool sx,.slice A0 l0 c0,.slice C0 m0 d0] 0))) (nx+1) (some (.cells [.bool sy,.slice A1 l1 c1,.slice C1 m1 d1] 0)):=⟨_,rfl⟩
 have gK0:X0 K nx=some (.cells [.bool sx,.slice A0 l0 c0,.slice C0 m0 d0] 0):=by rw[hK,M0 _ (by omega),Q0]
 have gK1:X0 K (nx+1)=some (.cells [.bool sy,.slice A1 l1 c1,.slice C1 m1 d1] 0):=by rw[hK,Q0]
 have hEK:D0 H nx K (nx+1+1):=⟨by omega,fun i hi=>by rw[hK,M0 _ (by omega),M0 _ (by omega)]⟩
 rw[<- hK]
 simp (disch:=first|omega|assumption) only[D3]
 have hv':RR K (nx+1+1) (.agg ⟨[.bool sx,.slice A0 l0 c0,.slice C0 m0 d0]⟩) x:=hv.ext hEK
 have hx4:X4 x 400000:=⟨by have:=hx.1;omega,by have:=hx.2;omega⟩
 have hy4:X4 y 400000:=⟨by have:=hy.1;omega,by have:=hy.2;omega⟩
 refine K0 (J22 hv' hx4) ?_
 rintro _ H3 nx3 ⟨rfl,hE3⟩
 have g3_0:=(hE3.get nx (by omega)).trans gK0
 have g3_1:=(hE3.get (nx+1) (by omega)).trans gK1
 simp (disch:=first|omega|assumption) only[W0,g3_1,D3]
 have hw3:=hw.ext (hEK.trans hE3)
 refine K0 (J22 hw3 hy4) ?_
 rintro _ H4 nx4 ⟨rfl,hE4⟩
 have hE34:=hE3.trans hE4
 have hEE4:=hEK.trans hE34
 have hle4:nx+1+1<=nx4:=hE34.le
 have g4_0:=(hE34.get nx (by omega)).trans gK0
 have g4_1:=(hE34.get (nx+1) (by omega)).trans gK1
 by_cases hne:x.num.sign=y.num.sign
 case neg=>
  simp (disch:=first|omega|assumption) only[W0,decide_eq_true hne]
  refine K0 (K44 _ _ _ _) ?_
  rintro _ _ _ ⟨rfl,rfl,rfl⟩
  exact⟨by rw[W83 x y hne],hEE4⟩
 have ene:decide (x.num.sign≠y.num.sign)=false:=by simp[hne]
 simp (disch:=first|omega|assumption) only[W0,ene,g4_0,g4_1,D3]
 have hEE4':D0 H nx H4 (nx4+14):=hEE4.more (by omega)
 refine K0 (X52 (hw.ext hEE4') hy) ?_
 rintro q1 H7 nx7 ⟨hq1,hE7⟩
 have g7_0:=(hE7.get nx (by omega)).trans g4_0
 have g7_1:=(hE7.get (nx+1) (by omega)).trans g4_1
 have b1:=hx.1
 have b2:=hx.2
 have b3:=hy.1
 have b4:=hy.2
 refine K0 (Z30 (hvn.ext (hEE4'.trans hE7)) hq1 (by omega) (by omega)) ?_
 rintro p1 H8 nx8 ⟨hp1,hE8⟩
 have hE78:=hE7.trans hE8
 have hle8:nx4+14<=nx8:=hE78.le
 have g8_0:=(hE78.get nx (by omega)).trans g4_0
 have g8_1:=(hE78.get (nx+1) (by omega)).trans g4_1
 simp (disch:=first|omega|assumption) only[W0,g8_0,g8_1,D3]
 refine K0 (X52 (hv.ext (hEE4'.trans hE78)) hx) ?_
 rintro q2 H9 nx9 ⟨hq2,hE9⟩
 have g9_1:=(hE9.get (nx+1) (by omega)).trans g8_1
 refine K0 (Z30 (hwn.ext ((hEE4'.trans hE78).trans hE9)) hq2 (by omega) (by omega)) ?_
 rintro p2 H10 nx10 ⟨hp2,hE10⟩
 have da:=M16 (la:=100000) (lb:=100000) (Nat.le_of_lt b1) (Nat.le_of_lt b4)
 have db:=M16 (la:=100000) (lb:=100000) (Nat.le_of_lt b3) (Nat.le_of_lt b2)
 refine K0 (M62 ((hp1.ext hE9).ext hE10) hp2 (by omega) (by omega)) ?_
 rintro _ H11 nx11 ⟨rfl,hE11⟩
 have hs1 : -1<=x.num.sign/\x.num.sign<=1:=by
  rcases Int.lt_trichotomy x.num 0 with h | h | h
  .rw[Int.sign_eq_neg_one_of_neg h];omega
  .rw[h];decide
  .rw[Int.sign_eq_one_of_pos h];omega
 have hc1:=N81 x y hne
 have hc2 : -1<=Q11 x y/\Q11 x y<=1:=by
  unfold Q11
  split
  .omega
  .split<;>omega
 have em:∀ k:VP,J0 .mul (.int .i64 x.num.sign) (.int .i64 (W16 (x.num.natAbs*y.den) (y.num.natAbs*x.den))) k=k (.int .i64 (Q11 x y)):=fun k=>by
  rw[D38,hc1,R26 (by omega) (by omega)]
 simp (disch:=first|omega|assumption) only[W0,em,g7_0,g7_1,g9_1,D3]
 exact (((hEE4'.trans hE78).trans hE9).trans hE10).trans hE11
end Go.Proofs.YtpiobdofbhkmjaaDoor

namespace Go.Clo
def RC (H:Y0) (nx:Nat) (css:List (List Value)) (xs:List Rat):Prop:=css.length=xs.length/\∀ (i:Nat) (c:List Value) (x:Rat),css[i]? = some c->xs[i]? = some x->c.length=3/\RR H nx (.agg ⟨c⟩) x
theorem RC.ext {H:Y0} {nx:Nat} {css:List (List Value)} {xs:List Rat} {H':Y0} {nx':Nat} (h:RC H nx css xs) (e:D0 H nx H' nx'):RC H' nx' css xs:=⟨h.1,fun i c x hc hx=>⟨(h.2 i c x hc hx).1,(h.2 i c x hc hx).2.ext e⟩⟩
theorem RC.three {H:Y0} {nx:Nat} {css:List (List Value)} {xs:List Rat} (h:RC H nx css xs):∀ c ∈ css,c.length=3:=fun c hc=>by
 obtain⟨i,hi,rfl⟩:=List.getElem_of_mem hc
 have hx:i<xs.length:=by rw[<- h.1];exact hi
 exact (h.2 i _ xs[i] (List.getElem?_eq_getElem hi) (List.getElem?_eq_getElem hx)).1
theorem Q8:∀ {css:List (List Value)},(∀ c ∈ css,c.length=3)->css.flatten.length=3*css.length
 | [],_=>rfl
 | c :: css,h=>by
  rw[List.flatten_cons,List.length_append,h c (by simp),Q8 fun d hd=>h d (by simp[hd]),List.length_cons];omega
theorem C16:∀ {css:List (List Value)} {i j:Nat} {c:List Value},(∀ c ∈ css,c.length=3)->css[i]? = some c->j<3->css.flatten[3*i+j]? = c[j]?
 | [],i,j,c,_,h,_=>by simp at h
 | d :: css,0,j,c,h3,h,hj=>by
  simp at h;subst h
  rw[List.flatten_cons,Nat.mul_zero,Nat.zero_add,List.getElem?_append_left (by rw[h3 d (by simp)];exact hj)]
 | d :: css,i+1,j,c,h3,h,hj=>by
  rw[List.flatten_cons,List.getElem?_append_right (by rw[h3 d (by simp)];omega),h3 d (by simp),show 3*(i+1)+j-3=3*i+j by omega]
  exact C16 (fun e he=>h3 e (by simp[he])) (by simpa using h) hj
def RS (H:Y0) (nx:Nat) (A:Option Addr) (xs:List Rat):Prop:=∃ css,Sl H nx A css.flatten/\RC H nx css xs
theorem RS.ext {H:Y0} {nx:Nat} {A:Option Addr} {xs:List Rat} {H':Y0} {nx':Nat} (h:RS H nx A xs) (e:D0 H nx H' nx'):RS H' nx' A xs:=let ⟨css,h1,h2⟩:=h;⟨css,h1.ext e,h2.ext e⟩
def RB (H:Y0) (nx:Nat) (b:Nat) (xs:List Rat):Prop:=∃ css,X0 H b=some (.cells css.flatten 0)/\b<nx/\RC H nx css xs
theorem RB.rs {H:Y0} {nx b:Nat} {xs:List Rat} (h:RB H nx b xs):RS H nx (some ⟨b,0,none⟩) xs:=by
 obtain⟨css,hg,hb,hc⟩:=h
 exact⟨css,fun i v hv=>⟨b,0,_,rfl,hb,by rw[V3,hg];rfl,by rw[Nat.zero_add];exact hv⟩,hc⟩
end Go.Clo
namespace Go.Clo
def G9 (c:List Value):Prop:=∃ s A l k C l' k',c=[.bool s,.slice A l k,.slice C l' k']
theorem G9.three {c:List Value} (h:G9 c):c.length=3:=by obtain⟨s,A,l,k,C,l',k',rfl⟩:=h;rfl
theorem RR.tri {H:Y0} {nx:Nat} {c:List Value} {x:Rat} (h:RR H nx (.agg ⟨c⟩) x):G9 c:=by
 obtain⟨A,l,k,C,l',k',e,_⟩:=h.form
 cases e
 exact⟨_,_,_,_,_,_,_,rfl⟩
theorem M28 {css:List (List Value)} (h:∀ c ∈ css,G9 c):∀ (q:Nat) (z:Int),css.flatten[q]? ≠ some (Value.int .u32 z):=by
 intro q z hq
 obtain⟨c,hc,hv⟩:=List.mem_flatten.1 (List.mem_of_getElem? hq)
 obtain⟨s,A,l,k,C,l',k',rfl⟩:=h c hc
 simp at hv
theorem E30:∀ {css:List (List Value)} {i:Nat} {c:List Value},(∀ d ∈ css,d.length=3)->c.length=3->i<css.length->G6 css.flatten (3*i) c=(css.set i c).flatten:=by
 intro css i c h3 hc hi
 apply List.ext_getElem?
 intro q
 have hl:=Q8 h3
 have h3':∀ d ∈ css.set i c,d.length=3:=fun d hd=>by
  rcases List.mem_or_eq_of_mem_set hd with e | e
  .exact h3 d e
  .rw[e];exact hc
 have hl':=Q8 h3'
 rw[List.length_set] at hl'
 unfold G6
 by_cases h1:q<3*i
 .rw[List.append_assoc,List.getElem?_append_left (by simp only[List.length_take,hl];omega),List.getElem?_take,if_pos h1]
  have hq:q/3<css.length:=by omega
  have e:=C16 (i:=q/3) (j:=q%3) h3 (List.getElem?_eq_getElem hq) (Nat.mod_lt _ (by omega))
  have e':=C16 (i:=q/3) (j:=q%3) (c:=css[q/3]) h3' (by rw[List.getElem?_set_ne (by omega),List.getElem?_eq_getElem hq]) (Nat.mod_lt _ (by omega))
  rw[show 3*(q/3)+q%3=q by omega] at e e'
  rw[e,e']
 .by_cases h2:q<3*i+3
  .rw[List.append_assoc,List.getElem?_append_right (by simp only[List.length_take,hl];omega),List.getElem?_append_left (by simp only[List.length_take,hl,hc];omega)]
   have e':=C16 (i:=i) (j:=q-3*i) (c:=c) h3' (by rw[List.getElem?_set_self hi]) (by omega)
   rw[show 3*i+(q-3*i)=q by omega] at e'
   rw[e']
   congr 1
   simp only[List.length_take,hl];omega
  .rw[List.getElem?_append_right (by simp only[List.length_append,List.length_take,hl,hc];omega),List.getElem?_drop]
   have e0:3*i+c.length+(q-(List.take (3*i) css.flatten++c).length)=q:=by simp only[List.length_append,List.length_take,hl,hc];omega
   rw[e0]
   by_cases h4:q<3*css.length
   .have hq:q/3<css.length:=by omega
    have e:=C16 (i:=q/3) (j:=q%3) h3 (List.getElem?_eq_getElem hq) (Nat.mod_lt _ (by omega))
    have e':=C16 (i:=q/3) (j:=q%3) (c:=css[q/3]) h3' (by rw[List.getElem?_set_ne (by omega),List.getElem?_eq_getElem hq]) (Nat.mod_lt _ (by omega))
    rw[show 3*(q/3)+q%3=q by omega] at e e'
    rw[e,e']
   .rw[List.getElem?_eq_none (by omega),List.getElem?_eq_none (by omega)]
end Go.Clo

namespace Go.Clo
def D8:List Value:=[.bool false,.slice none 0 0,.slice none 0 0]
theorem V38 (n:Nat):V5 D8 n=(List.replicate n D8).flatten:=by
 induction n with
 | zero=>rfl
 | succ n ih=>rw[V5,ih,List.replicate_succ,List.flatten_cons]
theorem J89:G9 D8:=⟨false,none,0,0,none,0,0,rfl⟩
theorem M42 {css:List (List Value)} {i:Nat} {c:List Value} (h:∀ d ∈ css,G9 d) (hc:G9 c):∀ d ∈ css.set i c,G9 d:=fun d hd=>by
 rcases List.mem_or_eq_of_mem_set hd with e | e
 .exact h d e
 .rw[e];exact hc
theorem E21 {H:Y0} {b i:Nat} {css:List (List Value)} {c:List Value} (hg:X0 H b=some (.cells css.flatten 0)) (h3:∀ d ∈ css,G9 d) (hc:G9 c) (hi:i<css.length) (k:Y0->Prop):
  W3 (.pointer (some ⟨b,3*i,none⟩)) (.agg ⟨c⟩) 3 H k=k (hs H b (some (.cells (css.set i c).flatten 0))):=by
 have h3':∀ d ∈ css,d.length=3:=fun d hd=>(h3 d hd).three
 have ho:Z0 c=true:=by obtain⟨s,A,l,q,C,l',q',rfl⟩:=hc;rfl
 rw[N55,if_pos ⟨hc.three,ho⟩,hg,Y33,hc.three,Q8 h3',E30 h3' hc.three hi]
 simp;omega
end Go.Clo
namespace Go.Proofs.YtpiobdofbhkmjaaDoor
open Go.Clo
theorem M37 {n:Nat} (hn:n<=1000) (H:Y0) (nx:Nat):J2 Tryd.prog 92 [.int .i64 (n:Int)] H nx fun v H' nx'=>v = .slice (some ⟨nx,0,none⟩) n n/\RB H' nx' nx (List.replicate n 0)/\D0 H nx H' nx':=by
 refine spec92 ?_
 unfold F92
 rw[V12 (by omega),show [Value.bool false,.slice none 0 0,.slice none 0 0]=D8 from rfl,V38]
 simp (disch:=first|omega|assumption) only[W0,B0.val]
 have hE0:D0 H nx (hs H nx (some (.cells (List.replicate n D8).flatten 0))) (nx+1):=(D0.refl H nx).new _ (Nat.le_refl _) (by omega)
 refine E1 (m:=n) (fun m L H' nx'=>∃ (i:Nat) (css:List (List Value)),m+i=n/\L=[.int .i64 (i:Int)]/\css.length=n/\(∀ d ∈ css,G9 d)/\(∀ (q:Nat) (c:List Value),q<i->css[q]? = some c->RR H' nx' (.agg ⟨c⟩) 0) /\
  X0 H' nx=some (.cells css.flatten 0)/\D0 H nx H' nx'/\nx<nx') ?_ ⟨0,List.replicate n D8,rfl,rfl,by simp,fun d hd=>by rw[(List.mem_replicate.1 hd).2];exact J89,fun q c hq=>by omega,Q0 _ _ _,hE0,by omega⟩
 rintro m ih L H1 nx1 ⟨i,css,hm,rfl,hlen,htri,hdone,hg,hE,hnx⟩ hih
 by_cases hi:i<n
 case neg=>
  have hi':¬ (i:Int)<(n:Int):=by omega
  simp (disch:=first|omega|assumption) only[W0,hi']
  refine⟨⟨css,hg,hnx,by simp[hlen],fun q c x hc hx => ?_⟩,hE⟩
  have hq:q<n:=by rw[<- hlen];exact (List.getElem?_eq_some_iff.1 hc).1
  rw[List.getElem?_replicate,if_pos hq] at hx
  cases hx
  exact⟨(htri c (List.mem_of_getElem? hc)).three,hdone q c (by omega) hc⟩
 have hi':(i:Int)<(n:Int):=by omega
 simp (disch:=first|omega|assumption) only[W0,hi']
 refine K0 (V16 (n:=0) (by omega) (by omega) H1 nx1) ?_
 rintro r H2 nx2 ⟨hr,hE2⟩
 have hg2:=(hE2.get nx hnx).trans hg
 obtain⟨A,l,c,C,m',d,rfl,_,_⟩:=id hr.form
 rw[Nat.mul_comm i 3,E21 hg2 htri hr.tri (by omega)]
 have hle:=hE2.le
 refine hih (m-1) _ _ _ (by omega) ⟨i+1,css.set i _,by omega,by simp,by simp[hlen],M42 htri hr.tri,fun q c' hq hc => ?_,Q0 _ _ _,(hE.trans hE2).hs (Nat.le_refl _),by omega⟩
 by_cases e:q=i
 .subst e
  rw[List.getElem?_set_self (by omega)] at hc
  cases hc
  exact RR.box hr hg2 (M28 htri)
 .rw[List.getElem?_set_ne (by omega)] at hc
  exact RR.box ((hdone q c' (by omega) hc).ext hE2) hg2 (M28 htri)
end Go.Proofs.YtpiobdofbhkmjaaDoor

namespace Go.Clo
theorem U6 {css:List (List Value)} {q:Nat} {c:List Value} (h3:∀ d ∈ css,d.length=3) (hc:css[q]? = some c) (k:VP):N9 css.flatten (q*3) (some 3) k=k (.agg ⟨c⟩):=by
 have hq:q<css.length:=(List.getElem?_eq_some_iff.1 hc).1
 have hl:=Q8 h3
 have h3c:=h3 c (List.mem_of_getElem? hc)
 rw[D16]
 have e:(css.flatten.drop (q*3)).take 3=c:=by
  apply List.ext_getElem?
  intro j
  by_cases hj:j<3
  .rw[List.getElem?_take,if_pos hj,List.getElem?_drop,Nat.mul_comm q 3,C16 h3 hc hj]
  .rw[List.getElem?_take,if_neg hj,List.getElem?_eq_none (by omega)]
 rw[e]
 simp only[eq_iff_iff,and_iff_right_iff_imp]
 intro _;omega
theorem K37:∀ {css:List (List Value)},(∀ c ∈ css,G9 c)->Z0 css.flatten=true
 | [],_=>rfl
 | c :: css,h=>by
  obtain⟨s,A,l,k,C,l',k',rfl⟩:=h c (by simp)
  rw[List.flatten_cons]
  show Z0 css.flatten=true
  exact K37 fun d hd=>h d (by simp[hd])
def RX (H:Y0) (nx:Nat) (css:List (List Value)) (X:Nat->Rat):Prop:=∀ (q:Nat) (c:List Value),css[q]? = some c->RR H nx (.agg ⟨c⟩) (X q)
theorem RX.tri {H:Y0} {nx:Nat} {css:List (List Value)} {X:Nat->Rat} (h:RX H nx css X):∀ c ∈ css,G9 c:=fun c hc=>by
 obtain⟨i,hi,rfl⟩:=List.getElem_of_mem hc
 exact (h i _ (List.getElem?_eq_getElem hi)).tri
theorem RX.three {H:Y0} {nx:Nat} {css:List (List Value)} {X:Nat->Rat} (h:RX H nx css X):∀ c ∈ css,c.length=3:=fun c hc=>(h.tri c hc).three
theorem RX.ext {H:Y0} {nx:Nat} {css:List (List Value)} {X:Nat->Rat} {H':Y0} {nx':Nat} (h:RX H nx css X) (e:D0 H nx H' nx'):RX H' nx' css X:=fun q c hc=>(h q c hc).ext e
theorem RX.put {H:Y0} {nx b i sl:Nat} {css:List (List Value)} {c:List Value} {X Y:Nat->Rat} {y:Rat} (h:RX H nx css X) (hg:X0 H b=some (.cells css.flatten sl)) (hc:RR H nx (.agg ⟨c⟩) y) (hi:i<css.length)
  (hY:Y i=y) (hX:∀ q,q≠i->Y q=X q):RX (hs H b (some (.cells (css.set i c).flatten 0))) nx (css.set i c) Y:=by
 intro q d hq
 by_cases e:q=i
 .subst e
  rw[List.getElem?_set_self hi] at hq
  cases hq
  rw[hY]
  exact RR.box hc hg (M28 h.tri)
 .rw[List.getElem?_set_ne (by omega)] at hq
  rw[hX q e]
  exact RR.box (h q d hq) hg (M28 h.tri)
def RO (H:Y0) (nx b n:Nat) (X:Nat->Rat):Prop:=∃ css,X0 H b=some (.cells css.flatten 0)/\b<nx/\css.length=n/\RX H nx css X
theorem RO.ext {H:Y0} {nx b n:Nat} {X:Nat->Rat} {H':Y0} {nx':Nat} (h:RO H nx b n X) (e:D0 H nx H' nx'):RO H' nx' b n X:=by
 obtain⟨css,hg,hb,hl,hx⟩:=h
 have:=e.le
 exact⟨css,(e.get b hb).trans hg,by omega,hl,hx.ext e⟩
theorem RO.congr {H:Y0} {nx b n:Nat} {X Y:Nat->Rat} (h:RO H nx b n X) (e:∀ q,q<n->Y q=X q):RO H nx b n Y:=by
 obtain⟨css,hg,hb,hl,hx⟩:=h
 refine⟨css,hg,hb,hl,fun q c hc => ?_⟩
 have:=(List.getElem?_eq_some_iff.1 hc).1
 rw[e q (by omega)]
 exact hx q c hc
theorem RB.ro {H:Y0} {nx b:Nat} {xs:List Rat} (h:RB H nx b xs):RO H nx b xs.length (fun q=>xs.getD q 0):=by
 obtain⟨css,hg,hb,hl,hc⟩:=h
 refine⟨css,hg,hb,hl,fun q c hq => ?_⟩
 have hlt:=(List.getElem?_eq_some_iff.1 hq).1
 have e:xs[q]? = some xs[q]:=List.getElem?_eq_getElem (by omega)
 have:=(hc q c xs[q] hq e).2
 simp only[List.getD_eq_getElem?_getD,e,Option.getD_some]
 exact this
end Go.Clo
namespace Go.Proofs.YtpiobdofbhkmjaaDoor
open Go.Clo
theorem C24 {H:Y0} {nx p n m:Nat} {r:List Value} (hg:X0 H p=some (.cells (.int .i64 (n:Int) :: .int .i64 (m:Int) :: r) 0)) (hn:n<=100) (hm:m<=100):
  J2 Tryd.prog 83 [.pointer (some ⟨p,0,none⟩)] H nx fun v H' nx' => .int .i64 ((n+m+1:Nat):Int)=v/\H'=H/\nx<=nx':=by
 refine spec83 ?_
 unfold F83
 simp (disch:=first|omega|assumption) only[W0,hg]
 refine⟨?_,by omega⟩
 simp
theorem M65 {H:Y0} {nx p n m:Nat} {r:List Value} (hg:X0 H p=some (.cells (.int .i64 (n:Int) :: .int .i64 (m:Int) :: r) 0)) (hn:n<=100) (hm:m<=100):
  J2 Tryd.prog 93 [.pointer (some ⟨p,0,none⟩)] H nx fun v H' nx' => .int .i64 ((n+m:Nat):Int)=v/\H'=H/\nx<=nx':=by
 refine spec93 ?_
 unfold F93
 simp (disch:=first|omega|assumption) only[W0,hg]
 refine⟨?_,by omega⟩
 simp
end Go.Proofs.YtpiobdofbhkmjaaDoor
