/-
  Numbers beside lists that are being appended to.
  Contract: simplex.newTableau.
  Contracts: simplex.feasible,objective,point,dual.
-/
import Derived.Test.YtpiobdofbhkmjaaDoorL30
import Derived.Test.YtpiobdofbhkmjaaDoorL31
set_option linter.unusedSimpArgs false
set_option linter.unusedVariables false
set_option linter.unusedSectionVars false
namespace Go.Clo
variable {H H':Y0} {nx p q:Nat}
theorem NN.sub {n:Nat} {v:Value} (h:NN H nx v n) (e:Sub H nx H'):NN H' nx v n:=by
 obtain⟨A,c,rfl,hD⟩:=h
 refine⟨A,c,rfl,fun j x hx => ?_,?_,hD.small,hD.le⟩
 .obtain⟨b,o,rw1,e1,e2,e3,e4⟩:=hD.sl j x hx
  refine⟨b,o,rw1,e1,e2,?_,e4⟩
  unfold V3 at e3 ⊢
  cases hg:X0 H b with
  | none=>rw[hg] at e3;cases e3
  | some k=>rw[hg] at e3;rw[e b k e2 hg];exact e3
 .rcases hD.sk with e0 | ⟨b,o,row,e1,e2,e3⟩
  .exact .inl e0
  .refine .inr ⟨b,o,row,e1,e2,e3.imp (e b _ e2) ?_⟩
   rintro⟨sl,h1,h2⟩
   exact⟨sl,h1,e b _ e2 h2⟩
theorem RR.sub {H:Y0} {nx:Nat} {v:Value} {x:Rat} {H':Y0} (h:RR H nx v x) (e:Sub H nx H'):RR H' nx v x:=
 let ⟨a,b,h1,h2,h3⟩:=h;⟨a,b,h1,h2.sub e,h3.sub e⟩
theorem RX.sub {H:Y0} {nx:Nat} {css:List (List Value)} {X:Nat->Rat} {H':Y0} (h:RX H nx css X) (e:Sub H nx H'):RX H' nx css X:=fun q c hc=>(h q c hc).sub e
theorem RO.sub {H:Y0} {nx b n:Nat} {X:Nat->Rat} {H':Y0} (h:RO H nx b n X) (e:Sub H nx H'):RO H' nx b n X:=by
 obtain⟨css,hg,hb,hl,hx⟩:=h
 exact⟨css,e b _ hb hg,hb,hl,hx.sub e⟩
theorem Sub.of (h:∀ i,X0 H' i=X0 H i):Sub H nx H':=fun i b _ hb=>by rw[h];exact hb
theorem E80 {nx':Nat} (e:D0 H nx H' nx') (hp:nx<=p) (hq:nx<=q):D0 H nx (er2 H' p q) nx':=
 ⟨e.le,fun i hi=>by rw[U11 (by omega) (by omega)];exact e.get i hi⟩
theorem K64 {b p q:Nat} {x:Option V4} (hp:b≠p) (hq:b≠q) (i:Nat):X0 (er2 (hs H b x) p q) i=X0 (hs (er2 H p q) b x) i:=by
 rw[W7]
 by_cases h1:i=p
 .subst h1;rw[N31,if_neg (Ne.symm hp),N31]
 .by_cases h2:i=q
  .subst h2;rw[X33,if_neg (Ne.symm hq),X33]
  .rw[U11 h1 h2,U11 h1 h2,W7]
def RSl (H:Y0) (nx:Nat) (A:Option Addr) (n:Nat) (X:Nat->Rat):Prop:=∃ css,Sl H nx A css.flatten/\css.length=n/\RX H nx css X
theorem RSl.ext {H:Y0} {nx:Nat} {A:Option Addr} {n:Nat} {X:Nat->Rat} {H':Y0} {nx':Nat} (h:RSl H nx A n X) (e:D0 H nx H' nx'):RSl H' nx' A n X:=let ⟨css,h1,h2,h3⟩:=h;⟨css,h1.ext e,h2,h3.ext e⟩
theorem RSl.open {H:Y0} {nx:Nat} {A:Option Addr} {n:Nat} {X:Nat->Rat} (h:RSl H nx A n X) (hn:0<n):∃ b o row,A=some ⟨b,o,none⟩/\b<nx/\V3 H b=some row /\
  ∀ j,j<n->∃ c,G9 c/\RR H nx (.agg ⟨c⟩) (X j)/\∀ k:VP,N9 row (o+j*3) (some 3) k=k (.agg ⟨c⟩):=by
 obtain⟨css,hS,hl,hx⟩:=h
 have hfl:=Q8 hx.three
 obtain⟨b,o,row,rfl,hb,hrow,hget⟩:=hS.open (i:=0) (by omega)
 refine⟨b,o,row,rfl,hb,hrow,fun j hj => ?_⟩
 have hc:css[j]? = some css[j]:=List.getElem?_eq_getElem (by omega)
 refine⟨css[j],hx.tri _ (List.mem_of_getElem? hc),hx j _ hc,fun k => ?_⟩
 refine N37 (hx.three _ (List.mem_of_getElem? hc)) (fun i v hv => ?_) k (by omega)
 have hi:i<3:=by
  have:=(List.getElem?_eq_some_iff.1 hv).1
  rw[hx.three _ (List.mem_of_getElem? hc)] at this;exact this
 have:=hget (3*j+i) v (by rw[C16 hx.three hc hi];exact hv)
 rw[show o+j*3+i=o+(3*j+i) by omega];exact this
structure RW (H:Y0) (nx b p q N:Nat) (css:List (List Value)) (X:Nat->Rat):Prop where
 get:X0 H b=some (.cells css.flatten 0)
 lt:b<nx
 len:css.length=N
 rx:RX (er2 H p q) nx css X
 bp:b≠p
 bq:b≠q
theorem RW.ext {H:Y0} {nx b p q N:Nat} {css:List (List Value)} {X:Nat->Rat} {H':Y0} {nx':Nat} (h:RW H nx b p q N css X) (e:D0 H nx H' nx'):RW H' nx' b p q N css X:=
 ⟨(e.get b h.lt).trans h.get,Nat.lt_of_lt_of_le h.lt e.le,h.len,h.rx.ext (N42 e),h.bp,h.bq⟩
theorem RW.put {H:Y0} {nx b p q N i:Nat} {css:List (List Value)} {X Y:Nat->Rat} {c:List Value} {y:Rat} (h:RW H nx b p q N css X) (hc:RR (er2 H p q) nx (.agg ⟨c⟩) y) (hi:i<N) (hY:Y i=y) (hX:∀ k,k<N->k≠i->Y k=X k):
  RW (hs H b (some (.cells (css.set i c).flatten 0))) nx b p q N (css.set i c) Y:=by
 refine⟨Q0 _ _ _,h.lt,by rw[List.length_set];exact h.len,?_,h.bp,h.bq⟩
 have:=RX.put (Y:=fun k=>if k=i then y else X k) h.rx (b:=b) (sl:=0) (i:=i) (by rw[U11 h.bp h.bq];exact h.get) hc (by rw[h.len];exact hi) (by simp) (fun k hk=>by simp[hk])
 have h2:=this.sub (Sub.of (K64 (x:=some (.cells (css.set i c).flatten 0)) h.bp h.bq))
 intro k d hd
 have:=h2 k d hd
 have hk:k<N:=by have:=(List.getElem?_eq_some_iff.1 hd).1;rw[List.length_set,h.len] at this;exact this
 by_cases e:k=i
 .subst e;rw[hY];simpa using this
 .rw[hX k hk e];simpa [e] using this
theorem RW.ro {b N:Nat} {css:List (List Value)} {X:Nat->Rat} (h:RW H nx b p q N css X):RO (er2 H p q) nx b N X:=⟨css,by rw[U11 h.bp h.bq];exact h.get,h.lt,h.len,h.rx⟩
def G17 (n m:Nat) (X:Nat->Nat->Rat) (r j:Nat):Rat:=if j<n then X r j else if j<n+m then (if j=n+r then 1 else 0) else if j=n+m then -1 else 1
structure TQ (H:Y0) (nx lo p n m br cr bb cb sr sb:Nat) (bs:List Nat) (a:Nat->Nat->Rat) (B:Nat->Nat):Prop where
 hp:X0 H p=some (.cells [.int .i64 (n:Int),.int .i64 (m:Int),.slice (some ⟨br,0,none⟩) m cr,.slice none 0 0,.slice (some ⟨bb,0,none⟩) m cb] 0)
 hr:X0 H br=some (.cells (slR (n+m+2) bs) sr)
 hb:X0 H bb=some (.cells (D11 m B) sb)
 len:bs.length=m
 rows:∀ i b,bs[i]? = some b->RO H nx b (n+m+2) (a i)
 lop:lo<=p
 lor:lo<=br
 lob:lo<=bb
 pn:p<nx
 rn:br<nx
 bn:bb<nx
 sr1:sr=0\/sr=1
 sb1:sb=0\/sb=1
theorem TQ.ext {H:Y0} {nx lo p n m br cr bb cb sr sb:Nat} {bs:List Nat} {a:Nat->Nat->Rat} {B:Nat->Nat} {H':Y0} {nx':Nat} (h:TQ H nx lo p n m br cr bb cb sr sb bs a B) (e:D0 H nx H' nx'):TQ H' nx' lo p n m br cr bb cb sr sb bs a B:=by
 have:=e.le
 have:=h.pn;have:=h.rn;have:=h.bn
 exact⟨(e.get p h.pn).trans h.hp,(e.get br h.rn).trans h.hr,(e.get bb h.bn).trans h.hb,h.len,fun i b hb=>(h.rows i b hb).ext e,h.lop,h.lor,h.lob,by omega,by omega,by omega,h.sr1,h.sb1⟩
theorem Q61 (x y:Int) (A C D:Option Addr) (l1 c1 l2 c2 l3 c3:Nat):∀ (q:Nat) (z:Int),[Value.int .i64 x,.int .i64 y,.slice A l1 c1,.slice C l2 c2,.slice D l3 c3][q]? ≠ some (Value.int .u32 z):=by
 intro q z h
 match q,h with
 | 0,h=>simp at h
 | 1,h=>simp at h
 | 2,h=>simp at h
 | 3,h=>simp at h
 | 4,h=>simp at h
end Go.Clo

namespace Go.Clo
theorem W8 {lo:Nat} {H:Y0} {nx size:Nat} {v:Value} {n:Nat} {c:List Value} (h:Q6 lo H nx size v n c) {d:Nat}:(v = .slice none 0 0/\n=0/\R4 d v=d)\/(∃ b,v = .slice (some ⟨b,0,none⟩) n n/\R4 d v=b/\lo<=b/\b<nx/\X0 H b=some (.cells c size)):=by
 rcases h.2 with ⟨h1,h2⟩ | ⟨b,h1,h2,h3,h4⟩
 .subst h2;exact .inl ⟨rfl,h1,rfl⟩
 .subst h3;exact .inr ⟨b,rfl,rfl,h1,h2,h4⟩
theorem Q6.same {lo:Nat} {H:Y0} {nx size:Nat} {v:Value} {n:Nat} {c:List Value} (h:Q6 lo H nx size v n c) {H':Y0} {nx':Nat} (hle:nx<=nx') (e:∀ b,lo<=b->b<nx->(∀ d,R4 d v=b)->X0 H' b=X0 H b):Q6 lo H' nx' size v n c:=by
 refine⟨h.1,h.2.imp id ?_⟩
 rintro⟨b,h1,h2,h3,h4⟩
 exact⟨b,h1,by omega,h3,by rw[e b h1 h2 fun d=>by rw[h3];rfl];exact h4⟩
theorem N71 (N:Nat) (bs:List Nat) (b:Nat):slR N (bs++[b])=slR N bs++[.slice (some ⟨b,0,none⟩) N N]:=by simp[slR]
theorem W88 (i:Nat) (B:Nat->Nat):D11 (i+1) B=D11 i B++[.int .i64 (B i:Int)]:=by simp[D11,List.range_succ]
theorem R34 (z:Int) (h:z=0\/z=1\/z = -1):X4 (z:Rat) 400000:=by
 have h1:(R0 1).length<=1:=X7 (by omega)
 have h0:(R0 0).length<=1:=X7 (by omega)
 rcases h with rfl | rfl | rfl
 .exact⟨by show (R0 0).length<_;omega,by show (R0 1).length<_;omega⟩
 .exact⟨by show (R0 1).length<_;omega,by show (R0 1).length<_;omega⟩
 .exact⟨by show (R0 1).length<_;omega,by show (R0 1).length<_;omega⟩
end Go.Clo
namespace Go.Proofs.YtpiobdofbhkmjaaDoor
open Go.Clo
theorem D60 {H:Y0} {nx n m cC cA cB:Nat} {AC AA AB:Option Addr} {X:Nat->Nat->Rat} {ac:List Value} (hn:1<=n) (hn20:n<=20) (hm0:1<=m) (hm:m<=20)
  (hA:Sl H nx AA ac) (hac:ac.length=m) (hrow:∀ i,i<m->∃ Ai ci,ac[i]? = some (.slice Ai n ci)/\RSl H nx Ai n (X i)) (hB:RSl H nx AB m (fun _=>1)) (sX:∀ i q,i<m->q<n->X4 (X i q) 400000):
  J2 Tryd.prog 76 [.agg ⟨[.slice AC n cC,.slice AA m cA,.slice AB m cB]⟩] H nx fun v H' nx'=>v = .pointer (some ⟨nx+1,0,none⟩)/\D0 H nx H' nx' /\
   ∃ br cr bb cb sr sb bs,TQ H' nx' nx (nx+1) n m br cr bb cb sr sb bs (G17 n m X) (fun r=>n+r):=by
 obtain⟨bA,oA,rwA,rfl,hbA,hrwA,hgetA⟩:=hA.open (i:=0) (by omega)
 obtain⟨bB,oB,rwB,rfl,hbB,hrwB,hgetB⟩:=hB.open (by omega)
 refine spec76 ?_
 unfold F76
 have hbd:∀ (x y:Int) (k:VP),M4 [.int .i64 0,.int .i64 0,.slice none 0 0,.slice none 0 0,.slice none 0 0] [(0,1),(1,1),(2,1),(3,1),(4,1)] [(0,.int .i64 x),(1,.int .i64 y)] k=k (.agg ⟨[.int .i64 x,.int .i64 y,.slice none 0 0,.slice none 0 0,.slice none 0 0]⟩):=fun x y k=>E3 _ _
 simp (disch:=first|omega|assumption) only[W0,Z0,B0.val,hbd]
 have hE2:D0 H nx (hs (hs H nx (some (.cells [.slice AC n cC,.slice (some ⟨bA,oA,none⟩) m cA,.slice (some ⟨bB,oB,none⟩) m cB] 0))) (nx+1) (some (.cells [.int .i64 (n:Int),.int .i64 (m:Int),.slice none 0 0,.slice none 0 0,.slice none 0 0] 0))) (nx+1+1):=
  ((D0.refl H nx).new _ (Nat.le_refl _) (m:=nx+1) (by omega)).new _ (by omega) (by omega)
 refine E1 (m:=m) (fun k L H' nx'=>∃ (i:Nat) (vr vb:Value) (bs:List Nat),k+i=m/\L=[.int .i64 (i:Int)]/\D0 H nx H' nx'/\nx+2<=nx' /\
   X0 H' nx=some (.cells [.slice AC n cC,.slice (some ⟨bA,oA,none⟩) m cA,.slice (some ⟨bB,oB,none⟩) m cB] 0)/\X0 H' (nx+1)=some (.cells [.int .i64 (n:Int),.int .i64 (m:Int),vr,.slice none 0 0,vb] 0) /\
   Q6 (nx+2) H' nx' 1 vr i (slR (n+m+2) bs)/\bs.length=i/\Q6 (nx+2) H' nx' 1 vb i (D11 i fun r=>n+r) /\
   (∀ k b,bs[k]? = some b->RO (er2 H' (R4 nx vr) (R4 nx vb)) nx' b (n+m+2) (G17 n m X k))/\((vr = .slice none 0 0/\vb = .slice none 0 0)\/R4 nx vr≠R4 nx vb)) ?_
  ⟨0,.slice none 0 0,.slice none 0 0,[],by omega,rfl,hE2,by omega,by rw[M0 _ (by omega),Q0],Q0 _ _ _,Q6.nil _ _ _ _,rfl,Q6.nil _ _ _ _,fun k b hb=>by simp at hb,.inl ⟨rfl,rfl⟩⟩
 rintro k ih L H1 nx1 ⟨i,vr,vb,bs,hk,rfl,hE1,hnx1,g0,g1,hAr,hlen,hAb,hrows,hne⟩ hih
 by_cases hi:i<m
 case neg=>
  have hi':¬ (i:Int)<(m:Int):=by omega
  obtain rfl:i=m:=by omega
  simp (disch:=first|omega|assumption) only[W0,hi']
  refine⟨hE1,?_⟩
  rcases W8 hAr (d:=nx) with ⟨_,h0,_⟩ | ⟨br,rfl,_,h3,h4,h5⟩
  .omega
  rcases W8 hAb (d:=nx) with ⟨_,h0,_⟩ | ⟨bb,rfl,_,h3',h4',h5'⟩
  .omega
  exact⟨br,i,bb,i,1,1,bs,g1,h5,h5',hlen,fun q b hb=>(hrows q b hb).sub (fun j v _ hv=>B70 j v hv),by omega,by omega,by omega,by omega,h4,h4',.inr rfl,.inr rfl⟩
 have hi':(i:Int)<(m:Int):=by omega
 obtain⟨Ai,ci,hai,hXi⟩:=hrow i hi
 obtain⟨bX,oX,rwX,rfl,hbX,hrwX,hgetX⟩:=hXi.open (by omega)
 have haw:=hgetA i _ hai
 have hrA1:V3 H1 bA=some rwA:=(hE1.row hbA).trans hrwA
 obtain⟨Ar,lr,cr,hvr⟩:∃ A l c,vr = .slice A l c:=by
  rcases W8 hAr (d:=nx) with ⟨hv,_⟩ | ⟨b,hv,_⟩<;>exact⟨_,_,_,hv⟩
 obtain⟨Ab,lb,cb,hvb⟩:∃ A l c,vb = .slice A l c:=by
  rcases W8 hAb (d:=nx) with ⟨hv,_⟩ | ⟨b,hv,_⟩<;>exact⟨_,_,_,hv⟩
 generalize hp:R4 nx vr=p at *
 generalize hq:R4 nx vb=q at *
 have hpb:nx<=p/\p<nx1/\p≠nx+1:=by
  rcases W8 hAr (d:=nx) with ⟨_,h0,h1⟩ | ⟨br,_,h1,h3,h4,h5⟩
  .omega
  .omega
 have hqb:nx<=q/\q<nx1/\q≠nx+1:=by
  rcases W8 hAb (d:=nx) with ⟨_,h0,h1⟩ | ⟨br,_,h1,h3,h4,h5⟩
  .omega
  .omega
 simp (disch:=first|omega|assumption) only[W0,hi',Y3 hrA1,haw]
 refine K0 (C24 (r:=[vr,.slice none 0 0,vb]) g1 (by omega) (by omega)) ?_
 rintro _ H1 nx4 ⟨rfl,rfl,hle4⟩
 simp (disch:=first|omega|assumption) only[W0]
 rw[show ((n+m+1:Nat):Int)+1=((n+m+2:Nat):Int) by omega]
 refine X26 (p:=p) (q:=q) (by omega) (by omega) (M37 (n:=n+m+2) (by omega) _ _) (fun _ _ _ h=>h.2.2) ?_
 rintro _ H5 nx5 H0 ⟨rfl,hrb,hE0⟩ hE5 hS5 _
 have hb4:nx4≠p:=by omega
 have hb4':nx4≠q:=by omega
 obtain⟨css0,hW0⟩:∃ css,RW H5 nx5 nx4 p q (n+m+2) css (fun _=>0):=by
  obtain⟨css,a1,a2,a3,a4⟩:=hrb.ro.sub hS5
  rw[List.length_replicate] at a3
  refine⟨css,by rw[<- U11 hb4 hb4'];exact a1,a2,a3,fun j c hc => ?_,hb4,hb4'⟩
  have:=a4 j c hc
  simp only[List.getD_eq_getElem?_getD,List.getElem?_replicate] at this
  have hj:=(List.getElem?_eq_some_iff.1 hc).1
  rw[if_pos (by omega)] at this
  exact this
 have hle5:=hE5.le
 have hn45:nx4<nx5:=hW0.lt
 refine E1 (m:=n) (fun k2 L H' nx'=>∃ (j:Nat) (css:List (List Value)),k2+j=n/\L=[.int .i64 (j:Int)]/\D0 H1 nx4 H' nx'/\nx5<=nx'/\RW H' nx' nx4 p q (n+m+2) css (fun t=>if t<j then X i t else 0)) ?_ ⟨0,css0,by omega,rfl,hE5,Nat.le_refl _,by simpa using hW0⟩
 rintro k2 ih2 L2 H6 nx6 ⟨j,css,hk2,rfl,hE6,hnx6,hW⟩ hih2
 have hE16:=hE1.trans (hE6.less hle4)
 have hrX6:V3 H6 bX=some rwX:=(hE16.row hbX).trans hrwX
 by_cases hj:j<n
 .have hj':(j:Int)<(n:Int):=by omega
  obtain⟨cc,hccT,hccR,hld⟩:=hgetX j hj
  simp (disch:=first|omega|assumption) only[W0,Nat.reduceAdd,hj',Y3 hrX6,hld,hccT.three,hccT.one,Z5 (show cc.length=[Value.bool false,.slice none 0 0,.slice none 0 0].length from hccT.three),Q3 hccT]
  have hE8:D0 H6 nx6 (hs (hs H6 nx6 (some (.cells [.bool false,.slice none 0 0,.slice none 0 0] 0))) nx6 (some (.cells cc 0))) (nx6+1):=((D0.refl _ _).new _ (Nat.le_refl _) (m:=nx6+1) (by omega)).new _ (by omega) (by omega)
  refine X26 (p:=p) (q:=q) (by omega) (by omega) (J13 (hccR.ext (E80 (hE16.trans hE8) hpb.1 hqb.1)) (sX i j hi hj)) (fun _ _ _ h=>h.2) ?_
  rintro r H9 nx9 H0 ⟨hr,hE0⟩ hE9 hS9 _
  obtain⟨rc,rfl,hrc⟩:=hr.num
  have hr':=hr.sub hS9
  have hW9:=(hW.ext hE8).ext hE9
  have hle9:=hE9.le
  rw[Nat.mul_comm j 3,E21 hW9.get hW9.rx.tri hrc (by rw[hW9.len];omega)]
  refine hih2 (k2-1) _ _ _ (by omega) ⟨j+1,css.set j rc,by omega,by simp,((hE6.trans hE8).trans hE9).hs (by omega),by omega,hW9.put (i:=j) hr' (by omega) (by simp) (fun t _ ht => ?_)⟩
  by_cases h1:t<j
  .rw[if_pos h1,if_pos (by omega)]
  .rw[if_neg h1,if_neg (by omega)]
 obtain rfl:j=n:=by omega
 have hj':¬ (j:Int)<(j:Int):=by omega
 have g6:=(hE6.get (nx+1) (by omega)).trans g1
 have g60:=(hE6.get nx (by omega)).trans g0
 simp (disch:=first|omega|assumption) only[W0,hj',g6]
 rw[show ((j:Int)+(i:Int)).toNat=j+i by omega]
 refine X26 (p:=p) (q:=q) (by omega) (by omega) (V16 (n:=1) (by omega) (by omega) _ _) (fun _ _ _ h=>h.2) ?_
 rintro r1 H12 nx12 H0 ⟨hr1,hE0⟩ hE12 hS12 _
 obtain⟨c1,rfl,hc1⟩:=hr1.num
 have hr1':=hr1.sub hS12
 have hE612:D0 H6 nx6 H12 nx12:=(D0.self (by omega)).trans hE12
 have hW12:=hW.ext hE612
 have hle12:=hE612.le
 have g12:=(hE612.get (nx+1) (by omega)).trans g6
 have g120:=(hE612.get nx (by omega)).trans g60
 rw[Nat.mul_comm (j+i) 3,E21 hW12.get hW12.rx.tri hc1 (by rw[hW12.len];omega)]
 have hW13:=hW12.put (i:=j+i) (Y:=fun t=>if t<j then X i t else if t=j+i then 1 else 0) hr1' (by omega) (by rw[if_neg (by omega),if_pos rfl];rfl) (fun t _ ht=>by
  by_cases h1:t<j
  .rw[if_pos h1,if_pos h1]
  .rw[if_neg h1,if_neg h1,if_neg ht])
 have g13:X0 (hs H12 nx4 (some (.cells (css.set (j+i) c1).flatten 0))) (nx+1)=_:=(M0 _ (by omega)).trans g12
 have g130:X0 (hs H12 nx4 (some (.cells (css.set (j+i) c1).flatten 0))) nx=_:=(M0 _ (by omega)).trans g120
 have hE13:D0 H1 nx4 (hs H12 nx4 (some (.cells (css.set (j+i) c1).flatten 0))) nx12:=(hE6.trans hE612).hs (by omega)
 generalize hs H12 nx4 (some (.cells (css.set (j+i) c1).flatten 0))=H13 at *
 generalize css.set (j+i) c1=cssB at *
 simp (disch:=first|omega|assumption) only[W0,g12]
 refine K0 (M65 (r:=[vr,.slice none 0 0,vb]) g13 (by omega) (by omega)) ?_
 rintro _ H13 nx14 ⟨rfl,rfl,hle14⟩
 simp (disch:=first|omega|assumption) only[W0]
 have hW14:=hW13.ext (D0.self hle14)
 refine X26 (p:=p) (q:=q) (by omega) (by omega) (V16 (n := -1) (by omega) (by omega) _ _) (fun _ _ _ h=>h.2) ?_
 rintro r2 H15 nx15 H0' ⟨hr2,hE0'⟩ hE15 hS15 _
 obtain⟨c2,rfl,hc2⟩:=hr2.num
 have hr2':=hr2.sub hS15
 have hW15:=hW14.ext hE15
 have hle15:=hE15.le
 have g15:=(hE15.get (nx+1) (by omega)).trans g13
 have g150:=(hE15.get nx (by omega)).trans g130
 rw[Nat.mul_comm (j+m) 3,E21 hW15.get hW15.rx.tri hc2 (by rw[hW15.len];omega)]
 have hW16:=hW15.put (i:=j+m) (Y:=fun t=>if t<j then X i t else if t=j+i then 1 else if t=j+m then -1 else 0) hr2' (by omega) (by rw[if_neg (by omega),if_neg (by omega),if_pos rfl];rfl) (fun t _ ht=>by
  by_cases h1:t<j
  .rw[if_pos h1,if_pos h1]
  .rw[if_neg h1,if_neg h1]
   by_cases h2:t=j+i
   .rw[if_pos h2,if_pos h2]
   .rw[if_neg h2,if_neg h2,if_neg ht])
 have g16:X0 (hs H15 nx4 (some (.cells (cssB.set (j+m) c2).flatten 0))) (nx+1)=_:=(M0 _ (by omega)).trans g15
 have g160:X0 (hs H15 nx4 (some (.cells (cssB.set (j+m) c2).flatten 0))) nx=_:=(M0 _ (by omega)).trans g150
 have hE16':D0 H1 nx4 (hs H15 nx4 (some (.cells (cssB.set (j+m) c2).flatten 0))) nx15:=((hE13.more hle14).trans hE15).hs (by omega)
 generalize hs H15 nx4 (some (.cells (cssB.set (j+m) c2).flatten 0))=H16 at *
 generalize cssB.set (j+m) c2=cssC at *
 refine K0 (C24 (r:=[vr,.slice none 0 0,vb]) g16 (by omega) (by omega)) ?_
 rintro _ H16 nx18 ⟨rfl,rfl,hle18⟩
 have hE116:=hE1.trans (hE16'.less hle4)
 have hrB6:V3 H16 bB=some rwB:=(hE116.row hbB).trans hrwB
 obtain⟨cB',hcBT,hcBR,hldB⟩:=hgetB i hi
 simp (disch:=first|omega|assumption) only[W0,g160,Y3 hrB6,hldB]
 have hE1618:D0 H16 nx15 H16 nx18:=D0.self (by omega)
 have hW18:=hW16.ext hE1618
 refine X26 (p:=p) (q:=q) (by omega) (by omega) (J13 (hcBR.ext (E80 (hE116.trans hE1618) hpb.1 hqb.1)) (R34 1 (by simp))) (fun _ _ _ h=>h.2) ?_
 rintro r3 H19 nx19 H0'' ⟨hr3,hE0''⟩ hE19 hS19 _
 obtain⟨c3,rfl,hc3⟩:=hr3.num
 have hr3':=hr3.sub hS19
 have hW19:=hW18.ext hE19
 have hle19:=hE19.le
 have g19:=(hE19.get (nx+1) (by omega)).trans g16
 have g190:=(hE19.get nx (by omega)).trans g160
 have hrB19:V3 H19 bB=some rwB:=((hE116.trans (hE1618.trans hE19)).row hbB).trans hrwB
 rw[Nat.mul_comm (j+m+1) 3,E21 hW19.get hW19.rx.tri hc3 (by rw[hW19.len];omega)]
 have hW20:=hW19.put (i:=j+m+1) (Y:=G17 j m X i) hr3' (show j+m+1<j+m+2 by omega) (by unfold G17;rw[if_neg (by omega),if_neg (by omega),if_neg (by omega)]) (fun t ht ht2=>by
  unfold G17
  by_cases h1:t<j
  .rw[if_pos h1,if_pos h1]
  .rw[if_neg h1,if_neg h1]
   by_cases h2:t<j+m
   .rw[if_pos h2]
    by_cases h3:t=j+i
    .rw[if_pos h3,if_pos h3]
    .rw[if_neg h3,if_neg h3,if_neg (by omega)]
   .by_cases h3:t=j+m
    .rw[if_neg h2,if_pos h3,if_neg (show ¬ t=j+i by omega),if_pos h3]
    .omega)
 have g20:X0 (hs H19 nx4 (some (.cells (cssC.set (j+m+1) c3).flatten 0))) (nx+1)=_:=(M0 _ (by omega)).trans g19
 have g200:X0 (hs H19 nx4 (some (.cells (cssC.set (j+m+1) c3).flatten 0))) nx=_:=(M0 _ (by omega)).trans g190
 have hE20:D0 H1 nx4 (hs H19 nx4 (some (.cells (cssC.set (j+m+1) c3).flatten 0))) nx19:=((hE16'.trans hE1618).trans hE19).hs (by omega)
 generalize hs H19 nx4 (some (.cells (cssC.set (j+m+1) c3).flatten 0))=H20 at *
 generalize cssC.set (j+m+1) c3=cssD at *
 have hbs:∀ (A:Option Addr) (l c:Nat) (k:List Value->Prop),G7 1 1 [.slice none 0 0] [(0,.slice A l c)] k=k [.slice A l c]:=fun A l c k=>rfl
 simp (disch:=first|omega|assumption) only[W0,g20,hbs]
 have hbs2:∀ (x:Int) (k:List Value->Prop),G7 1 1 [.int .i64 0] [(0,.int .i64 x)] k=k [.int .i64 x]:=fun x k=>rfl
 have hP:nx+2<=R4 (nx19+1) vr/\(R4 (nx19+1) vr=p\/R4 (nx19+1) vr=nx19+1):=by
  rcases W8 hAr (d:=nx19+1) with ⟨hv,_,h1⟩ | ⟨b,hv,h1,h3,h4,h5⟩
  .exact⟨by omega,.inr h1⟩
  .refine⟨by omega,.inl ?_⟩
   rw[<- hp,hv];rfl
 have hQ:nx+2<=R4 (nx19+1+1+16) vb/\(R4 (nx19+1+1+16) vb=q\/R4 (nx19+1+1+16) vb=nx19+1+1+16):=by
  rcases W8 hAb (d:=nx19+1+1+16) with ⟨hv,_,h1⟩ | ⟨b,hv,h1,h3,h4,h5⟩
  .exact⟨by omega,.inr h1⟩
  .refine⟨by omega,.inl ?_⟩
   rw[<- hq,hv];rfl
 have hE21:D0 H1 nx1 (hs H20 nx19 (some (.cells [.slice (some ⟨nx4,0,none⟩) (j+m+2) (j+m+2)] 0))) (nx19+1):=(hE20.less hle4).new _ (by omega) (by omega)
 have hE2021:D0 H20 nx19 (hs H20 nx19 (some (.cells [.slice (some ⟨nx4,0,none⟩) (j+m+2) (j+m+2)] 0))) (nx19+1):=(D0.refl _ _).new _ (Nat.le_refl _) (by omega)
 have g21:X0 (hs H20 nx19 (some (.cells [.slice (some ⟨nx4,0,none⟩) (j+m+2) (j+m+2)] 0))) nx19=some (.cells [.slice (some ⟨nx4,0,none⟩) (j+m+2) (j+m+2)] 0):=Q0 _ _ _
 generalize hs H20 nx19 (some (.cells [.slice (some ⟨nx4,0,none⟩) (j+m+2) (j+m+2)] 0))=H21 at *
 have hsrc:Src H21 1 (.slice (some ⟨nx19,0,none⟩) 1 1) 1 [.slice (some ⟨nx4,0,none⟩) (j+m+2) (j+m+2)]:=Z8 g21 rfl (by omega)
 have hone:Z0 [Value.slice (some ⟨nx4,0,none⟩) (j+m+2) (j+m+2)]=true:=rfl
 have hAr21:=hAr.ext hE21
 refine V15 (d:=nx19+1) (by omega) hAr21 hsrc (by omega) hone (by omega) (by omega) ?_
 intro H22 g22 hk22
 have g22x:=(hk22 (nx+1) (by omega) (by omega)).trans ((hE2021.get (nx+1) (by omega)).trans g20)
 have g22n:=(hk22 nx (by omega) (by omega)).trans ((hE2021.get nx (by omega)).trans g200)
 have hset2:∀ (x y:Int) (a c d v:Value),G6 [.int .i64 x,.int .i64 y,a,c,d] 2 [v]=[.int .i64 x,.int .i64 y,v,c,d]:=fun _ _ _ _ _ _=>rfl
 have hset4:∀ (x y:Int) (a c d v:Value),G6 [.int .i64 x,.int .i64 y,a,c,d] 4 [v]=[.int .i64 x,.int .i64 y,a,c,v]:=fun _ _ _ _ _ _=>rfl
 simp (disch:=first|omega|assumption) only[W0,Nat.reduceAdd,g22x,hset2,show 2+1<=5 by omega,hbs2]
 rw[show ((j:Int)+(i:Int))=((j+i:Nat):Int) by omega]
 have g23x:X0 (hs H22 (nx+1) (some (.cells [.int .i64 (j:Int),.int .i64 (m:Int),.slice (some ⟨nx19+1,0,none⟩) (i+1) (i+1),.slice none 0 0,vb] 0))) (nx+1)=some (.cells [.int .i64 (j:Int),.int .i64 (m:Int),.slice (some ⟨nx19+1,0,none⟩) (i+1) (i+1),.slice none 0 0,vb] 0):=Q0 _ _ _
 have g23:∀ x,x≠nx+1->X0 (hs H22 (nx+1) (some (.cells [.int .i64 (j:Int),.int .i64 (m:Int),.slice (some ⟨nx19+1,0,none⟩) (i+1) (i+1),.slice none 0 0,vb] 0))) x=X0 H22 x:=fun x hx=>M0 _ hx
 have key1:∀ b Y,RO (er2 H20 p q) nx19 b (j+m+2) Y->RO (er2 (hs H22 (nx+1) (some (.cells [.int .i64 (j:Int),.int .i64 (m:Int),.slice (some ⟨nx19+1,0,none⟩) (i+1) (i+1),.slice none 0 0,vb] 0))) (nx19+1) q) (nx19+1) b (j+m+2) Y:=by
  intro b Y h
  have h21:=h.ext (N42 (p:=p) (q:=q) hE2021)
  have h22:RO (er2 H22 (nx19+1) q) (nx19+1) b (j+m+2) Y:=h21.sub (fun x v hx hv=>by
   have h1:x≠p:=by rintro rfl;rw[N31] at hv;cases hv
   have h2:x≠q:=by rintro rfl;rw[X33] at hv;cases hv
   rw[U11 h1 h2] at hv
   rw[U11 (by omega) h2,hk22 x (by omega) (by omega)];exact hv)
  have hgx:X0 (er2 H22 (nx19+1) q) (nx+1)=_:=(U11 (by omega) (by omega)).trans g22x
  subst hvr hvb
  exact (h22.boxs (h22.ne (by omega) hgx (fun s h=>by simp at h)) hgx (Q61 _ _ _ _ _ _ _ _ _ _ _) (.inl rfl)).sub (Sub.of (K64 (by omega) (by omega)))
 generalize hs H22 (nx+1) (some (.cells [.int .i64 (j:Int),.int .i64 (m:Int),.slice (some ⟨nx19+1,0,none⟩) (i+1) (i+1),.slice none 0 0,vb] 0))=H23 at *
 have g25:X0 (hs H23 (nx19+1+1+11) (some (.cells [.int .i64 ((j+i:Nat):Int)] 0))) (nx19+1+1+11)=some (.cells [.int .i64 ((j+i:Nat):Int)] 0):=Q0 _ _ _
 have g25':∀ x,x≠nx19+1+1+11->X0 (hs H23 (nx19+1+1+11) (some (.cells [.int .i64 ((j+i:Nat):Int)] 0))) x=X0 H23 x:=fun x hx=>M0 _ hx
 have hE25:D0 H23 (nx19+1) (hs H23 (nx19+1+1+11) (some (.cells [.int .i64 ((j+i:Nat):Int)] 0))) (nx19+1+1+16):=(D0.refl _ _).new _ (by omega) (by omega)
 generalize hs H23 (nx19+1+1+11) (some (.cells [.int .i64 ((j+i:Nat):Int)] 0))=H25 at *
 have hAb25:Q6 (nx+2) H25 (nx19+1+1+16) 1 vb i (D11 i fun r=>j+r):=hAb.same (by omega) fun b hb1 hb2 hb3=>by
  have hbq:b=q:=(hb3 nx).symm.trans hq
  rw[g25' b (by omega),g23 b (by omega),hk22 b (by omega) ?_,hE21.get b hb2]
  rcases hne with ⟨h1,h2⟩ | hne
  .rw[h2] at hb3
   have:b+1=b:=hb3 (b+1)
   omega
  .omega
 have hsrc2:Src H25 1 (.slice (some ⟨nx19+1+1+11,0,none⟩) 1 1) 1 [.int .i64 ((j+i:Nat):Int)]:=Z8 g25 rfl (by omega)
 have hone2:Z0 [Value.int .i64 ((j+i:Nat):Int)]=true:=rfl
 refine V15 (d:=nx19+1+1+16) (by omega) hAb25 hsrc2 (by omega) hone2 (by omega) (by omega) ?_
 intro H26 g26 hk26
 have g26x:=(hk26 (nx+1) (by omega) (by omega)).trans ((g25' (nx+1) (by omega)).trans g23x)
 have hlow:∀ x,x<nx1->x≠p->x≠q->x≠nx+1->X0 H26 x=X0 H1 x:=fun x h1 h2 h3 h4=>by
  rw[hk26 x (by omega) (by omega),g25' x (by omega),g23 x h4,hk22 x (by omega) (by omega),hE21.get x h1]
 have hlow2:∀ x,x<=nx->X0 H26 x=X0 H1 x:=fun x h1=>by
  rw[hk26 x (by omega) (by omega),g25' x (by omega),g23 x (by omega),hk22 x (by omega) (by omega),hE21.get x (by omega)]
 have hA22:X0 H26 (nx19+1)=some (.cells (slR (j+m+2) (bs++[nx4])) 1):=by
  rw[hk26 _ (by omega) (by omega),g25' _ (by omega),g23 _ (by omega),g22,N71]
 simp (disch:=first|omega|assumption) only[W0,Nat.reduceAdd,g26x,hset4]
 refine hih (k-1) _ _ _ (by omega) ⟨i+1,.slice (some ⟨nx19+1,0,none⟩) (i+1) (i+1),.slice (some ⟨nx19+1+1+16,0,none⟩) (i+1) (i+1),bs++[nx4],by omega,by simp,⟨by omega,fun x hx => ?_⟩,by omega,?_,Q0 _ _ _,⟨?_,.inr ⟨nx19+1,by omega,by omega,rfl,?_⟩⟩,by simp[hlen],⟨?_,.inr ⟨nx19+1+1+16,by omega,by omega,rfl,?_⟩⟩,fun x b hb => ?_,.inr ?_⟩
 .rw[M0 _ (by omega),hlow2 x (by omega)];exact hE1.get x hx
 .rw[M0 _ (by omega),hlow2 nx (by omega)];exact g0
 .rw[V25];simp[hlen]
 .rw[M0 _ (by omega)];exact hA22
 .rw[B30];omega
 .rw[M0 _ (by omega),g26,W88]
 .show RO (er2 _ (nx19+1) (nx19+1+1+16)) _ _ _ _
  have h20:RO (er2 H20 p q) nx19 b (j+m+2) (G17 j m X x):=by
   rw[List.getElem?_append] at hb
   split at hb
   .exact (hrows x b hb).ext (N42 (hE20.less hle4))
   .rename_i hx
    have hx2:x-bs.length=0:=by
     have:=(List.getElem?_eq_some_iff.1 hb).1
     simp at this;omega
    rw[hx2] at hb
    simp at hb
    subst hb
    have:x=i:=by omega
    rw[this];exact hW20.ro
  have h25:=(key1 b _ h20).ext (N42 (p:=nx19+1) (q:=q) hE25)
  have h26:RO (er2 H26 (nx19+1) (nx19+1+1+16)) (nx19+1+1+16) b (j+m+2) (G17 j m X x):=h25.sub (fun y v hy hv=>by
   have h1:y≠nx19+1:=by rintro rfl;rw[N31] at hv;cases hv
   have h2:y≠q:=by rintro rfl;rw[X33] at hv;cases hv
   rw[U11 h1 h2] at hv
   rw[U11 h1 (by omega),hk26 y (by omega) (by omega)];exact hv)
  have hgx:X0 (er2 H26 (nx19+1) (nx19+1+1+16)) (nx+1)=_:=(U11 (by omega) (by omega)).trans g26x
  subst hvr hvb
  exact ((h26.boxs (h26.ne (by omega) hgx (fun s h=>by simp at h)) hgx (Q61 _ _ _ _ _ _ _ _ _ _ _) (.inl rfl)).sub (Sub.of (K64 (by omega) (by omega)))).more (by omega)
 .show nx19+1≠nx19+1+1+16
  omega
end Go.Proofs.YtpiobdofbhkmjaaDoor

namespace Go.Clo
def TC (H:Y0) (b n:Nat):Prop:=∃ css:List (List Value),X0 H b=some (.cells css.flatten 0)/\css.length=n/\∀ c ∈ css,G9 c
theorem TC.ext {H:Y0} {nx b n:Nat} {H':Y0} {nx':Nat} (h:TC H b n) (e:D0 H nx H' nx') (hb:b<nx):TC H' b n:=let ⟨css,h1,h2,h3⟩:=h;⟨css,(e.get b hb).trans h1,h2,h3⟩
structure TG (H:Y0) (nx lo p n m br cr:Nat) (gv:Value) (bb cb sr sb:Nat) (bs:List Nat) (a:Nat->Nat->Rat) (B:Nat->Nat):Prop where
 hp:X0 H p=some (.cells [.int .i64 (n:Int),.int .i64 (m:Int),.slice (some ⟨br,0,none⟩) m cr,gv,.slice (some ⟨bb,0,none⟩) m cb] 0)
 hr:X0 H br=some (.cells (slR (n+m+2) bs) sr)
 hb:X0 H bb=some (.cells (D11 m B) sb)
 len:bs.length=m
 rows:∀ i b,bs[i]? = some b->RO H nx b (n+m+2) (a i)
 lop:lo<=p
 lor:lo<=br
 lob:lo<=bb
 pn:p<nx
 rn:br<nx
 bn:bb<nx
 sr1:sr=0\/sr=1
 sb1:sb=0\/sb=1
theorem TG.ext {H:Y0} {nx lo p n m br cr:Nat} {gv:Value} {bb cb sr sb:Nat} {bs:List Nat} {a:Nat->Nat->Rat} {B:Nat->Nat} {H':Y0} {nx':Nat} (h:TG H nx lo p n m br cr gv bb cb sr sb bs a B) (e:D0 H nx H' nx'):TG H' nx' lo p n m br cr gv bb cb sr sb bs a B:=by
 have:=e.le
 have:=h.pn;have:=h.rn;have:=h.bn
 exact⟨(e.get p h.pn).trans h.hp,(e.get br h.rn).trans h.hr,(e.get bb h.bn).trans h.hb,h.len,fun i b hb=>(h.rows i b hb).ext e,h.lop,h.lor,h.lob,by omega,by omega,by omega,h.sr1,h.sb1⟩
theorem TG.tv {H:Y0} {nx lo p n m br cr gb:Nat} {bb cb sr sb:Nat} {bs:List Nat} {a:Nat->Nat->Rat} {B:Nat->Nat} {X:Nat->Rat} (h:TG H nx lo p n m br cr (.slice (some ⟨gb,0,none⟩) (n+m+2) (n+m+2)) bb cb sr sb bs a B) (hX:RO H nx gb (n+m+2) X):
  TV H nx lo p n m br cr gb bb cb sr sb bs ⟨a,X,B⟩:=⟨h.hp,h.hr,h.hb,h.len,h.rows,hX,h.lop,h.lor,h.lob,h.pn,h.rn,h.bn,h.sr1,h.sb1⟩
theorem TQ.tg {H:Y0} {nx lo p n m br cr bb cb sr sb:Nat} {bs:List Nat} {a:Nat->Nat->Rat} {B:Nat->Nat} {A:Option Addr} {l c:Nat} (h:TQ H nx lo p n m br cr bb cb sr sb bs a B) (hm:0<m):
  TG (hs H p (some (.cells [.int .i64 (n:Int),.int .i64 (m:Int),.slice (some ⟨br,0,none⟩) m cr,.slice A l c,.slice (some ⟨bb,0,none⟩) m cb] 0))) nx lo p n m br cr (.slice A l c) bb cb sr sb bs a B:=by
 have h0:∀ s,[Value.int .i64 (n:Int),.int .i64 (m:Int),.slice (some ⟨br,0,none⟩) m cr,.slice none 0 0,.slice (some ⟨bb,0,none⟩) m cb][0]? ≠ some (.bool s):=by intro s h;simp at h
 have hpr:p≠br:=by
  refine Y31 h.hp h.hr 0 ?_
  obtain⟨b,hb⟩:∃ b,bs[0]? = some b:=⟨bs[0]'(by have:=h.len;omega),List.getElem?_eq_getElem _⟩
  rw[G14 hb];simp
 have hpb:p≠bb:=by
  refine Y31 h.hp h.hb 2 ?_
  by_cases h2:2<m
  .rw[Q19 h2];simp
  .rw[List.getElem?_eq_none (l:=D11 m B) (by rw[B30];omega)];simp
 refine⟨Q0 _ _ _,by rw[M0 _ (Ne.symm hpr)];exact h.hr,by rw[M0 _ (Ne.symm hpb)];exact h.hb,h.len,fun k d hk => ?_,h.lop,h.lor,h.lob,h.pn,h.rn,h.bn,h.sr1,h.sb1⟩
 have:=h.rows k d hk
 exact this.boxs (this.ne (by omega) h.hp h0) h.hp (Q61 _ _ _ _ _ _ _ _ _ _ _) (.inl rfl)
theorem J92 {H:Y0} {b n l h size:Nat} {c:List Value} (hg:X0 H b=some (.cells c 0)) (hl:l<=h) (hh:h<=n) (hln:l<n) (k:VP):wSl (.slice (some ⟨b,0,none⟩) n n) size (some (.int .i64 (l:Int))) (some (.int .i64 (h:Int))) none H k=k (.slice (some ⟨b,l*size,none⟩) (h-l) (n-l)):=by
 have e:G11 (some ⟨b,0,none⟩) n n size (some (.int .i64 (l:Int))) (some (.int .i64 (h:Int))) none false=some (.slice (some ⟨b,l*size,none⟩) (h-l) (n-l)):=by
  simp only[G11,hiA,loA]
  simp[Z11,B6 hh,B6 hl,B6 (show l<=n by omega),W38 (show n≠l by omega)]
 unfold wSl
 dsimp only
 rw[W6,hg]
 simp only[Option.elim_some,slB,C10,E14,cond_true]
 rw[e]
 exact J8 _ _
theorem N94 {H:Y0} {nx b l h:Nat} {css:List (List Value)} (hg:X0 H b=some (.cells css.flatten 0)) (hb:b<nx) (h3:∀ c ∈ css,c.length=3) (hl:l+h<=css.length):Sl H nx (some ⟨b,l*3,none⟩) ((css.drop l).take h).flatten:=by
 intro i v hv
 refine⟨b,l*3,css.flatten,rfl,hb,by rw[V3,hg];rfl,?_⟩
 have e:css=css.take l++(((css.drop l).take h)++(css.drop l).drop h):=by rw[List.take_append_drop,List.take_append_drop]
 have el:(css.take l).flatten.length=l*3:=by
  rw[Q8 (fun c hc=>h3 c (List.mem_of_mem_take hc)),List.length_take];omega
 have e2:css.flatten=(css.take l).flatten++(((css.drop l).take h).flatten++((css.drop l).drop h).flatten):=by
  rw[<- List.flatten_append,<- List.flatten_append,<- e]
 rw[e2,List.getElem?_append_right (by omega),el,show l*3+i-l*3=i by omega,List.getElem?_append_left (List.getElem?_eq_some_iff.1 hv).1]
 exact hv
end Go.Clo
namespace Go.Proofs.YtpiobdofbhkmjaaDoor
open Go.Clo
theorem B85:((1:Rat).num).sign=1:=rfl
theorem B41 (L:Nat) (h:1<L):X4 1 L:=by
 have h1:(R0 1).length<=1:=X7 (by omega)
 exact⟨by show (R0 1).length<_;omega,by show (R0 1).length<_;omega⟩
theorem W68 {H:Y0} {nx lo p n m br cr bb cb sr sb:Nat} {bs:List Nat} {a:Nat->Nat->Rat} {B:Nat->Nat} (h:TQ H nx lo p n m br cr bb cb sr sb bs a B) (hn:n<=20) (hm:m<=20) (ha:∀ i,i<m->a i (n+m+1)=1):
  J2 Tryd.prog 77 [.pointer (some ⟨p,0,none⟩)] H nx fun v H' nx'=>v = .bool true/\D0 H nx H' nx':=by
 refine spec77 ?_
 unfold F77
 have hp0:=h.hp
 simp (disch:=first|omega|assumption) only[W0,B0.val,hp0]
 refine E1 (m:=m) (fun k L H' nx'=>∃ i:Nat,k+i=m/\L=[.int .i64 (-1),.int .i64 (i:Int)]/\D0 H nx H' nx') ?_ ⟨0,by omega,rfl,D0.refl _ _⟩
 rintro k ih L H1 nx1 ⟨i,hk,rfl,hE1⟩ hih
 have h1:=h.ext hE1
 by_cases hi:i<m
 case neg=>
  have hi':¬ (i:Int)<(m:Int):=by omega
  simp (disch:=first|omega|assumption) only[W0,hi',show (-1:Int)<0 by omega]
  exact hE1
 have hi':(i:Int)<(m:Int):=by omega
 obtain⟨b,hbi⟩:∃ b,bs[i]? = some b:=⟨bs[i]'(by have:=h.len;omega),List.getElem?_eq_getElem _⟩
 obtain⟨css,hg,hbn,hl,hx⟩:=h1.rows i b hbi
 obtain⟨cc,hcc⟩:∃ cc,css[n+m+1]? = some cc:=⟨css[n+m+1]'(by omega),List.getElem?_eq_getElem _⟩
 have hccR:=hx _ cc hcc
 have hccT:=hccR.tri
 rw[ha i hi] at hccR
 rw[K3]
 simp (disch:=first|omega|assumption) only[W0,hi',h1.hr,G14 hbi]
 refine K0 (C24 h1.hp (by omega) (by omega)) ?_
 rintro _ H1 nx3 ⟨rfl,rfl,hle3⟩
 simp (disch:=first|omega|assumption) only[W0,Nat.reduceAdd,hg,U6 hx.three hcc,hccT.three,hccT.one,Z5 (show cc.length=[Value.bool false,.slice none 0 0,.slice none 0 0].length from hccT.three),Q3 hccT]
 rw[K3]
 have hE5:D0 H1 nx1 (hs (hs H1 nx3 (some (.cells [.bool false,.slice none 0 0,.slice none 0 0] 0))) nx3 (some (.cells cc 0))) (nx3+1+23):=((D0.self (show nx1<=nx3+1+23 by omega)).hs (by omega)).hs (by omega)
 refine K0 (J22 (hccR.ext hE5) (B41 _ (by omega))) ?_
 rintro _ H8 nx8 ⟨rfl,hE8⟩
 have g8:=hE8.get nx3 (by omega)
 rw[Q0] at g8
 simp (disch:=first|omega|assumption) only[W0,B85,show ¬ (1:Int)<0 by omega,g8,Q3 hccT]
 exact hih (k-1) _ _ _ (by omega) ⟨i+1,by omega,by simp,(hE1.trans hE5).trans hE8⟩
end Go.Proofs.YtpiobdofbhkmjaaDoor
