/-
  Numbers beside lists that are being appended to.
  Contract: simplex.newTableau.
  Contracts: simplex.feasible,objective,point,dual.
  Contracts: simplex.objective,point,dual.
  Contracts: simplex.valid,Solve.
  Maps from u32 to values;a heap without some blocks.
  MADE BY PROGRAM (wip/gen/gen.py): functions 44 73 61 70 106 90 41 27 40 45 76 78 47 77 46 81 48 82 49 43 42 16 as marked code,and their claims written out.
  MADE BY PROGRAM (wip/gen/gen.py): functions 29 33 34 35 74 55 62 105 22 as marked code,and their claims written out.
  Plain facts on sets of vertices as numbers.
-/
import Derived.Test.YtoiioigihocgbaaGreatDoorD9
import Derived.Test.YtoiioigihocgbaaGreatDoorD6
import Derived.MapKept
import Derived.Test.YtoiioigihocgbaaGreatDoorD8
import Derived.KernelRfl
import GoSem.Claim
import Derived.Laws.BitsAllLaws
set_option maxHeartbeats 8000000
set_option maxRecDepth 100000
set_option linter.all false
noncomputable section
open Go.Instr renaming findNow->dP
open Go.Value renaming bool->dU,int->cD
open List renaming all_eq_true->bW,getD_eq_getElem?_getD->aP,getElem?_append_left->bQ,getElem?_append_right->bS,getElem?_eq_getElem->aE,getElem?_eq_none->aT,getElem?_eq_some_iff->aJ,getElem?_of_mem->cH,getElem?_set->cQ,length_set->dO,length_take->cK,mem_append->dN,mem_append_left->dX,mem_of_getElem?->aH,mem_of_mem_drop->fO,mem_singleton->dJ
open Nat renaming eq_of_beq_eq_true->bT,le_refl->aD,le_trans->bK,lt_of_le_of_lt->cE,lt_of_lt_of_le->aO,mul_comm->cG,pow_le_pow_right->aK,zero_add->cF
open Ne renaming symm->eT
open Option renaming elim_some->aN
namespace Go.Clo
section
variable {H H':Y0} {nx p q:Nat}
theorem NN.sub{n:Nat}{v:Value}(h:NN H nx v n)(e:Sub H nx H'):NN H' nx v n:=by
 obtain⟨A,c,rfl,hD⟩:=h;refine⟨A,c,rfl,fun j x hx => ?_,?_,hD.small,hD.le⟩
 .obtain⟨b,o,E,e1,e2,e3,e4⟩:=hD.sl j x hx
  refine⟨b,o,E,e1,e2,?_,e4⟩;unfold Q5 at e3 ⊢
  cases hg:J0 H b with
  | none=>rw[hg] at e3;cases e3
  | some k=>rw[hg] at e3;rw[e b k e2 hg];exact e3
 .rcases hD.sk with e0 | ⟨b,o,row,e1,e2,e3⟩
  .exact .inl e0
  .refine .inr ⟨b,o,row,e1,e2,e3.imp (e b _ e2) ?_⟩
   rintro⟨sl,h1,h2⟩;exact⟨sl,h1,e b _ e2 h2⟩
theorem RR.sub{H:Y0}{nx:Nat}{v:Value}{x:Rat}{H':Y0}(h:RR H nx v x)(e:Sub H nx H'):RR H' nx v x:=
 let ⟨a,b,h1,h2,h3⟩:=h;⟨a,b,h1,h2.sub e,h3.sub e⟩
theorem RX.sub{H:Y0}{nx:Nat}{css:List (List Value)}{X:Nat->Rat}{H':Y0}(h:RX H nx css X)(e:Sub H nx H'):RX H' nx css X:=fun q c hc=>(h q c hc).sub e
theorem RO.sub{H:Y0}{nx b n:Nat}{X:Nat->Rat}{H':Y0}(h:RO H nx b n X)(e:Sub H nx H'):RO H' nx b n X:=by
 obtain⟨css,hg,hb,hl,hx⟩:=h;exact⟨css,e b _ hb hg,hb,hl,hx.sub e⟩
theorem Sub.of(h:∀ i,J0 H' i=J0 H i):Sub H nx H':=fun i b _ hb=>by rw[h];exact hb
theorem R100{nx':Nat}(e:D0 H nx H' nx')(hp:nx<=p)(hq:nx<=q):D0 H nx (er2 H' p q) nx':=
 ⟨e.le,fun i hi=>by rw[U48 (by omega) (by omega)];exact e.get i hi⟩
theorem J94{b p q:Nat}{x:Option V3}(hp:b≠p)(hq:b≠q)(i:Nat):J0 (er2 (hs H b x) p q) i=J0 (hs (er2 H p q) b x) i:=by
 rw[N7]
 by_cases h1:i=p
 .subst h1;rw[V79,if_neg (eT hp),V79]
 .by_cases h2:i=q
  .subst h2;rw[X80,if_neg (eT hq),X80]
  .rw[U48 h1 h2,U48 h1 h2,N7]
def RSl(H:Y0)(nx:Nat)(A:Option Addr)(n:Nat)(X:Nat->Rat):Prop:=∃ css,Sl H nx A css.flatten/\css.length=n/\RX H nx css X
theorem RSl.ext{H:Y0}{nx:Nat}{A:Option Addr}{n:Nat}{X:Nat->Rat}{H':Y0}{nx':Nat}(h:RSl H nx A n X)(e:D0 H nx H' nx'):RSl H' nx' A n X:=let ⟨css,h1,h2,h3⟩:=h;⟨css,h1.ext e,h2,h3.ext e⟩
theorem RSl.open{H:Y0}{nx:Nat}{A:Option Addr}{n:Nat}{X:Nat->Rat}(h:RSl H nx A n X)(hn:0<n):∃ b o row,A=some ⟨b,o,none⟩/\b<nx/\Q5 H b=some row /\
  ∀ j,j<n->∃ c,V7 c/\RR H nx (.agg ⟨c⟩) (X j)/\∀ k:VP,B10 row (o+j*3) (some 3) k=k (.agg ⟨c⟩):=by
 obtain⟨css,hS,hl,hx⟩:=h;have O:=W26 hx.three;obtain⟨b,o,row,rfl,hb,E,J⟩:=hS.open (i:=0) (by omega);refine⟨b,o,row,rfl,hb,E,fun j hj => ?_⟩;have hc:css[j]? = some css[j]:=aE (by omega);refine⟨css[j],hx.tri _ (aH hc),hx j _ hc,fun k => ?_⟩;refine M51 (hx.three _ (aH hc)) (fun i v hv => ?_) k (by omega);have hi:i<3:=by
  have:=(aJ.1 hv).1;rw[hx.three _ (aH hc)] at this;exact this
 have:=J (3*j+i) v (by rw[G72 hx.three hc hi];exact hv);rw[show o+j*3+i=o+(3*j+i) by omega];exact this
structure RW (H:Y0) (nx b p q N:Nat) (css:List (List Value)) (X:Nat->Rat):Prop where
 get:J0 H b=some (.cells css.flatten 0)
 lt:b<nx
 len:css.length=N
 rx:RX (er2 H p q) nx css X
 bp:b≠p
 bq:b≠q
theorem RW.ext{H:Y0}{nx b p q N:Nat}{css:List (List Value)}{X:Nat->Rat}{H':Y0}{nx':Nat}(h:RW H nx b p q N css X)(e:D0 H nx H' nx'):RW H' nx' b p q N css X:=
 ⟨(e.get b h.lt).trans h.get,aO h.lt e.le,h.len,h.rx.ext (G85 e),h.bp,h.bq⟩
theorem RW.put{H:Y0}{nx b p q N i:Nat}{css:List (List Value)}{X Y:Nat->Rat}{c:List Value}{y:Rat}(h:RW H nx b p q N css X)(hc:RR (er2 H p q) nx (.agg ⟨c⟩) y)(hi:i<N)(hY:Y i=y)(hX:∀ k,k<N->k≠i->Y k=X k):
  RW (hs H b (some (.cells (css.set i c).flatten 0))) nx b p q N (css.set i c) Y:=by
 refine⟨Z11 _ _ _,h.lt,by rw[dO];exact h.len,?_,h.bp,h.bq⟩;have:=RX.put (Y:=fun k=>if k=i then y else X k) h.rx (b:=b) (sl:=0) (i:=i) (by rw[U48 h.bp h.bq];exact h.get) hc (by rw[h.len];exact hi) (by simp) (fun k hk=>by simp[hk]);have h2:=this.sub (Sub.of (J94 (x:=some (.cells (css.set i c).flatten 0)) h.bp h.bq));intro k d hd;have:=h2 k d hd;have hk:k<N:=by have:=(aJ.1 hd).1;rw[dO,h.len] at this;exact this
 by_cases e:k=i
 .subst e;rw[hY];simpa using this
 .rw[hX k hk e];simpa [e] using this
theorem RW.ro{b N:Nat}{css:List (List Value)}{X:Nat->Rat}(h:RW H nx b p q N css X):RO (er2 H p q) nx b N X:=⟨css,by rw[U48 h.bp h.bq];exact h.get,h.lt,h.len,h.rx⟩
def V63(n m:Nat)(X:Nat->Nat->Rat)(r j:Nat):Rat:=if j<n then X r j else if j<n+m then(if j=n+r then 1 else 0) else if j=n+m then -1 else 1
structure TQ (H:Y0) (nx lo p n m br cr bb cb sr sb:Nat) (bs:List Nat) (a:Nat->Nat->Rat) (B:Nat->Nat):Prop where
 hp:J0 H p=some (.cells [.int .i64 (n:Int),.int .i64 (m:Int),.slice (some ⟨br,0,none⟩) m cr,.slice none 0 0,.slice (some ⟨bb,0,none⟩) m cb] 0)
 hr:J0 H br=some (.cells (slR (n+m+2) bs) sr)
 hb:J0 H bb=some (.cells (Z57 m B) sb)
 len:bs.length=m
 rows:∀ i b,bs[i]? = some b->RO H nx b (n+m+2) (a i)
 lop:lo<=p
 lor:lo<=br
 lob:lo<=bb
 pn:p<nx
 rn:br<nx
 bn:bb<nx
 sr1:sr=0\/sr=1
 sb1:sb=0\/sb=1
theorem TQ.ext{H:Y0}{nx lo p n m br cr bb cb sr sb:Nat}{bs:List Nat}{a:Nat->Nat->Rat}{B:Nat->Nat}{H':Y0}{nx':Nat}(h:TQ H nx lo p n m br cr bb cb sr sb bs a B)(e:D0 H nx H' nx'):TQ H' nx' lo p n m br cr bb cb sr sb bs a B:=by
 have:=e.le;have:=h.pn;have:=h.rn;have:=h.bn;exact⟨(e.get p h.pn).trans h.hp,(e.get br h.rn).trans h.hr,(e.get bb h.bn).trans h.hb,h.len,fun i b hb=>(h.rows i b hb).ext e,h.lop,h.lor,h.lob,by omega,by omega,by omega,h.sr1,h.sb1⟩
theorem V93(x y:Int)(A C D:Option Addr)(l1 c1 l2 c2 l3 c3:Nat):∀(q:Nat) (z:Int),[cD .i64 x,.int .i64 y,.slice A l1 c1,.slice C l2 c2,.slice D l3 c3][q]? ≠ some (cD .u32 z):=by
 intro q z h
 match q,h with
 | 0,h=>simp at h
 | 1,h=>simp at h
 | 2,h=>simp at h
 | 3,h=>simp at h
 | 4,h=>simp at h
end
theorem N29{lo:Nat}{H:Y0}{nx size:Nat}{v:Value}{n:Nat}{c:List Value}(h:Acc lo H nx size v n c){d:Nat}:(v = .slice none 0 0/\n=0/\R5 d v=d)\/(∃ b,v = .slice (some ⟨b,0,none⟩) n n/\R5 d v=b/\lo<=b/\b<nx/\J0 H b=some (.cells c size)):=by
 rcases h.2 with ⟨h1,h2⟩ | ⟨b,h1,h2,h3,h4⟩
 .subst h2;exact .inl ⟨rfl,h1,rfl⟩
 .subst h3;exact .inr ⟨b,rfl,rfl,h1,h2,h4⟩
theorem Acc.same{lo:Nat}{H:Y0}{nx size:Nat}{v:Value}{n:Nat}{c:List Value}(h:Acc lo H nx size v n c){H':Y0}{nx':Nat}(E:nx<=nx')(e:∀ b,lo<=b->b<nx->(∀ d,R5 d v=b)->J0 H' b=J0 H b):Acc lo H' nx' size v n c:=by
 refine⟨h.1,h.2.imp id ?_⟩;rintro⟨b,h1,h2,h3,h4⟩;exact⟨b,h1,by omega,h3,by rw[e b h1 h2 fun d=>by rw[h3];rfl];exact h4⟩
theorem J97(N:Nat)(bs:List Nat)(b:Nat):slR N (bs++[b])=slR N bs++[.slice (some ⟨b,0,none⟩) N N]:=by simp[slR]
theorem B104(i:Nat)(B:Nat->Nat):Z57 (i+1) B=Z57 i B++[.int .i64 (B i:Int)]:=by simp[Z57,List.range_succ]
theorem D80(z:Int)(h:z=0\/z=1\/z = -1):U15 (z:Rat) 400000:=by
 have h1:(D11 1).length<=1:=E29 (by omega);have h0:(D11 0).length<=1:=E29 (by omega);rcases h with rfl | rfl | rfl
 .exact⟨by show(D11 0).length<_;omega,by show(D11 1).length<_;omega⟩
 .exact⟨by show(D11 1).length<_;omega,by show(D11 1).length<_;omega⟩
 .exact⟨by show(D11 1).length<_;omega,by show(D11 1).length<_;omega⟩
end Go.Clo
namespace Go.Proofs.YtoiioigihocgbaaGreatDoor
open Go.Clo
theorem X93{H:Y0}{nx n m cC cA cB:Nat}{AC AA AB:Option Addr}{X:Nat->Nat->Rat}{ac:List Value}(hn:1<=n)(fl:n<=20)(ge:1<=m)(hm:m<=20)
  (hA:Sl H nx AA ac)(gi:ac.length=m)(co:∀ i,i<m->∃ Ai ci,ac[i]? = some (.slice Ai n ci)/\RSl H nx Ai n (X i))(hB:RSl H nx AB m (fun _=>1))(sX:∀ i q,i<m->q<n->U15 (X i q) 400000):
  Q2 Tryz.prog 120 [.agg ⟨[.slice AC n cC,.slice AA m cA,.slice AB m cB]⟩] H nx fun v H' nx'=>v = .pointer (some ⟨nx+1,0,none⟩)/\D0 H nx H' nx' /\
   ∃ br cr bb cb sr sb bs,TQ H' nx' nx (nx+1) n m br cr bb cb sr sb bs (V63 n m X) (fun r=>n+r):=by
 obtain⟨bA,oA,eh,rfl,ef,cx,cn⟩:=hA.open (i:=0) (by omega);obtain⟨bB,oB,e1,rfl,cy,bo,c9⟩:=hB.open (by omega);refine spec120 ?_;unfold F120;have eo:∀(x y:Int) (k:VP),U11 [.int .i64 0,.int .i64 0,.slice none 0 0,.slice none 0 0,.slice none 0 0] [(0,1),(1,1),(2,1),(3,1),(4,1)] [(0,.int .i64 x),(1,.int .i64 y)] k=k (.agg ⟨[.int .i64 x,.int .i64 y,.slice none 0 0,.slice none 0 0,.slice none 0 0]⟩):=fun x y k=>V14 _ _
 simp(disch:=first|omega|assumption)only[W0,Z0,Q0.val,eo];have fg:D0 H nx (hs (hs H nx (some (.cells [.slice AC n cC,.slice (some ⟨bA,oA,none⟩) m cA,.slice (some ⟨bB,oB,none⟩) m cB] 0))) (nx+1) (some (.cells [.int .i64 (n:Int),.int .i64 (m:Int),.slice none 0 0,.slice none 0 0,.slice none 0 0] 0))) (nx+1+1):=
  ((D0.refl H nx).new _ (aD _) (m:=nx+1) (by omega)).new _ (by omega) (by omega)
 refine B1 (m:=m) (fun k L H' nx'=>∃(i:Nat) (vr vb:Value) (bs:List Nat),k+i=m/\L=[.int .i64 (i:Int)]/\D0 H nx H' nx'/\nx+2<=nx' /\
   J0 H' nx=some (.cells [.slice AC n cC,.slice (some ⟨bA,oA,none⟩) m cA,.slice (some ⟨bB,oB,none⟩) m cB] 0)/\J0 H' (nx+1)=some (.cells [.int .i64 (n:Int),.int .i64 (m:Int),vr,.slice none 0 0,vb] 0) /\
   Acc (nx+2) H' nx' 1 vr i (slR (n+m+2) bs)/\bs.length=i/\Acc (nx+2) H' nx' 1 vb i (Z57 i fun r=>n+r) /\
   (∀ k b,bs[k]? = some b->RO (er2 H' (R5 nx vr) (R5 nx vb)) nx' b (n+m+2) (V63 n m X k))/\((vr = .slice none 0 0/\vb = .slice none 0 0)\/R5 nx vr≠R5 nx vb)) ?_
  ⟨0,.slice none 0 0,.slice none 0 0,[],by omega,rfl,fg,by omega,by rw[Z1 _ (by omega),Z11],Z11 _ _ _,Acc.nil _ _ _ _,rfl,Acc.nil _ _ _ _,fun k b hb=>by simp at hb,.inl ⟨rfl,rfl⟩⟩
 rintro k ih L H1 b3 ⟨i,vr,vb,bs,hk,rfl,av,fy,g0,g1,aj,ai,al,ax,dl⟩ eu
 by_cases hi:i<m
 case neg=>
  have c4:¬ (i:Int)<(m:Int):=by omega
  obtain rfl:i=m:=by omega
  simp(disch:=first|omega|assumption)only[W0,c4];refine⟨av,?_⟩;rcases N29 aj (d:=nx) with ⟨_,h0,_⟩ | ⟨br,rfl,_,h3,h4,h5⟩
  .omega
  rcases N29 al (d:=nx) with ⟨_,h0,_⟩ | ⟨bb,rfl,_,gh,ea,fh⟩
  .omega
  exact⟨br,i,bb,i,1,1,bs,g1,h5,fh,ai,fun q b hb=>(ax q b hb).sub (fun j v _ hv=>V97 j v hv),by omega,by omega,by omega,by omega,h4,ea,.inr rfl,.inr rfl⟩
 have c4:(i:Int)<(m:Int):=by omega
 obtain⟨Ai,ci,f0,f6⟩:=co i hi;obtain⟨bX,oX,ez,rfl,f4,dc,c6⟩:=f6.open (by omega);have fj:=cn i _ f0;have d1:Q5 H1 bA=some eh:=(av.row ef).trans cx;obtain⟨Ar,lr,cr,dj⟩:∃ A l c,vr = .slice A l c:=by
  rcases N29 aj (d:=nx) with ⟨hv,_⟩ | ⟨b,hv,_⟩<;>exact⟨_,_,_,hv⟩
 obtain⟨Ab,lb,cb,di⟩:∃ A l c,vb = .slice A l c:=by
  rcases N29 al (d:=nx) with ⟨hv,_⟩ | ⟨b,hv,_⟩<;>exact⟨_,_,_,hv⟩
 generalize hp:R5 nx vr=p at *
 generalize hq:R5 nx vb=q at *
 have e7:nx<=p/\p<b3/\p≠nx+1:=by
  rcases N29 aj (d:=nx) with ⟨_,h0,h1⟩ | ⟨br,_,h1,h3,h4,h5⟩
  .omega
  .omega
 have dw:nx<=q/\q<b3/\q≠nx+1:=by
  rcases N29 al (d:=nx) with ⟨_,h0,h1⟩ | ⟨br,_,h1,h3,h4,h5⟩
  .omega
  .omega
 simp(disch:=first|omega|assumption)only[W0,c4,X3 d1,fj];refine R0 (Y76 (r:=[vr,.slice none 0 0,vb]) g1 (by omega) (by omega)) ?_;rintro _ H1 J ⟨rfl,rfl,a9⟩;simp(disch:=first|omega|assumption)only[W0];rw[show((n+m+1:Nat):Int)+1=((n+m+2:Nat):Int) by omega];refine R76 (p:=p) (q:=q) (by omega) (by omega) (W82 (n:=n+m+2) (by omega) _ _) (fun _ _ _ h=>h.2.2) ?_;rintro _ H5 ck H0 ⟨rfl,ey,e2⟩ dx fd _;have e9:J≠p:=by omega
 have bf:J≠q:=by omega
 obtain⟨d0,du⟩:∃ css,RW H5 ck J p q (n+m+2) css (fun _=>0):=by
  obtain⟨css,a1,a2,a3,a4⟩:=ey.ro.sub fd;rw[List.length_replicate] at a3;refine⟨css,by rw[<- U48 e9 bf];exact a1,a2,a3,fun j c hc => ?_,e9,bf⟩;have:=a4 j c hc;simp only[aP,List.getElem?_replicate] at this;have hj:=(aJ.1 hc).1;rw[if_pos (by omega)] at this;exact this
 have ft:=dx.le;have fw:J<ck:=du.lt;refine B1 (m:=n) (fun k2 L H' nx'=>∃(j:Nat) (css:List (List Value)),k2+j=n/\L=[.int .i64 (j:Int)]/\D0 H1 J H' nx'/\ck<=nx'/\RW H' nx' J p q (n+m+2) css (fun t=>if t<j then X i t else 0)) ?_ ⟨0,d0,by omega,rfl,dx,aD _,by simpa using du⟩;rintro k2 gd L2 H6 ag ⟨j,css,g9,rfl,aq,fm,hW⟩ dy;have bk:=av.trans (aq.less a9);have cv:Q5 H6 bX=some ez:=(bk.row f4).trans dc
 by_cases hj:j<n
 .have cd:(j:Int)<(n:Int):=by omega
  obtain⟨cc,ad,e3,ej⟩:=c6 j hj;simp(disch:=first|omega|assumption)only[W0,Nat.reduceAdd,cd,X3 cv,ej,ad.three,ad.one,G24 (show cc.length=[dU false,.slice none 0 0,.slice none 0 0].length from ad.three),X15 ad];have bx:D0 H6 ag (hs (hs H6 ag (some (.cells [.bool false,.slice none 0 0,.slice none 0 0] 0))) ag (some (.cells cc 0))) (ag+1):=((D0.refl _ _).new _ (aD _) (m:=ag+1) (by omega)).new _ (by omega) (by omega);refine R76 (p:=p) (q:=q) (by omega) (by omega) (E71 (e3.ext (R100 (bk.trans bx) e7.1 dw.1)) (sX i j hi hj)) (fun _ _ _ h=>h.2) ?_;rintro r H9 gk H0 ⟨hr,e2⟩ ca ff _;obtain⟨rc,rfl,ek⟩:=hr.num;have ec:=hr.sub ff;have b4:=(hW.ext bx).ext ca;have fv:=ca.le;rw[cG j 3,R74 b4.get b4.rx.tri ek (by rw[b4.len];omega)];refine dy (k2-1) _ _ _ (by omega) ⟨j+1,css.set j rc,by omega,by simp,((aq.trans bx).trans ca).hs (by omega),by omega,b4.put (i:=j) ec (by omega) (by simp) (fun t _ ht => ?_)⟩
  by_cases h1:t<j
  .rw[if_pos h1,if_pos (by omega)]
  .rw[if_neg h1,if_neg (by omega)]
 obtain rfl:j=n:=by omega
 have cd:¬ (j:Int)<(j:Int):=by omega
 have g6:=(aq.get (nx+1) (by omega)).trans g1;have eg:=(aq.get nx (by omega)).trans g0;simp(disch:=first|omega|assumption)only[W0,cd,g6];rw[show((j:Int)+(i:Int)).toNat=j+i by omega];refine R76 (p:=p) (q:=q) (by omega) (by omega) (R73 (n:=1) (by omega) (by omega) _ _) (fun _ _ _ h=>h.2) ?_;rintro r1 ah bu H0 ⟨dk,e2⟩ ct d4 _;obtain⟨c1,rfl,ei⟩:=dk.num;have dv:=dk.sub d4;have Q:D0 H6 ag ah bu:=(D0.self (by omega)).trans ct;have a8:=hW.ext Q;have fc:=Q.le;have g12:=(Q.get (nx+1) (by omega)).trans g6;have e8:=(Q.get nx (by omega)).trans eg;rw[cG (j+i) 3,R74 a8.get a8.rx.tri ei (by rw[a8.len];omega)];have dp:=a8.put (i:=j+i) (Y:=fun t=>if t<j then X i t else if t=j+i then 1 else 0) dv (by omega) (by rw[if_neg (by omega),if_pos rfl];rfl) (fun t _ ht=>by
  by_cases h1:t<j
  .rw[if_pos h1,if_pos h1]
  .rw[if_neg h1,if_neg h1,if_neg ht])
 have cq:J0 (hs ah J (some (.cells (css.set (j+i) c1).flatten 0))) (nx+1)=_:=(Z1 _ (by omega)).trans g12;have d6:J0 (hs ah J (some (.cells (css.set (j+i) c1).flatten 0))) nx=_:=(Z1 _ (by omega)).trans e8;have cz:D0 H1 J (hs ah J (some (.cells (css.set (j+i) c1).flatten 0))) bu:=(aq.trans Q).hs (by omega);generalize hs ah J (some (.cells (css.set (j+i) c1).flatten 0))=en at *
 generalize css.set (j+i) c1=cssB at *
 simp(disch:=first|omega|assumption)only[W0,g12];refine R0 (R93 (r:=[vr,.slice none 0 0,vb]) cq (by omega) (by omega)) ?_;rintro _ en fp ⟨rfl,rfl,an⟩;simp(disch:=first|omega|assumption)only[W0];have d7:=dp.ext (D0.self an);refine R76 (p:=p) (q:=q) (by omega) (by omega) (R73 (n := -1) (by omega) (by omega) _ _) (fun _ _ _ h=>h.2) ?_;rintro r2 b8 bh g5 ⟨d9,g3⟩ a5 cp _;obtain⟨c2,rfl,em⟩:=d9.num;have d2:=d9.sub cp;have ae:=d7.ext a5;have f3:=a5.le;have fi:=(a5.get (nx+1) (by omega)).trans cq;have da:=(a5.get nx (by omega)).trans d6;rw[cG (j+m) 3,R74 ae.get ae.rx.tri em (by rw[ae.len];omega)];have dq:=ae.put (i:=j+m) (Y:=fun t=>if t<j then X i t else if t=j+i then 1 else if t=j+m then -1 else 0) d2 (by omega) (by rw[if_neg (by omega),if_neg (by omega),if_pos rfl];rfl) (fun t _ ht=>by
  by_cases h1:t<j
  .rw[if_pos h1,if_pos h1]
  .rw[if_neg h1,if_neg h1]
   by_cases h2:t=j+i
   .rw[if_pos h2,if_pos h2]
   .rw[if_neg h2,if_neg h2,if_neg ht])
 have e4:J0 (hs b8 J (some (.cells (cssB.set (j+m) c2).flatten 0))) (nx+1)=_:=(Z1 _ (by omega)).trans fi;have aw:J0 (hs b8 J (some (.cells (cssB.set (j+m) c2).flatten 0))) nx=_:=(Z1 _ (by omega)).trans da;have ay:D0 H1 J (hs b8 J (some (.cells (cssB.set (j+m) c2).flatten 0))) bh:=((cz.more an).trans a5).hs (by omega);generalize hs b8 J (some (.cells (cssB.set (j+m) c2).flatten 0))=az at *
 generalize cssB.set (j+m) c2=cssC at *
 refine R0 (Y76 (r:=[vr,.slice none 0 0,vb]) e4 (by omega) (by omega)) ?_;rintro _ az dz ⟨rfl,rfl,fb⟩;have a6:=av.trans (ay.less a9);have bd:Q5 az bB=some e1:=(a6.row cy).trans bo;obtain⟨gj,fu,dr,bg⟩:=c9 i hi;simp(disch:=first|omega|assumption)only[W0,aw,X3 bd,bg];have O:D0 az bh az dz:=D0.self (by omega);have dm:=dq.ext O;refine R76 (p:=p) (q:=q) (by omega) (by omega) (E71 (dr.ext (R100 (a6.trans O) e7.1 dw.1)) (D80 1 (by simp))) (fun _ _ _ h=>h.2) ?_;rintro r3 ao E fz ⟨df,f9⟩ V e0 _;obtain⟨c3,rfl,f5⟩:=df.num;have d5:=df.sub e0;have ab:=dm.ext V;have fa:=V.le;have f8:=(V.get (nx+1) (by omega)).trans e4;have ba:=(V.get nx (by omega)).trans aw;have ce:Q5 ao bB=some e1:=((a6.trans (O.trans V)).row cy).trans bo;rw[cG (j+m+1) 3,R74 ab.get ab.rx.tri f5 (by rw[ab.len];omega)];have d3:=ab.put (i:=j+m+1) (Y:=V63 j m X i) d5 (show j+m+1<j+m+2 by omega) (by unfold V63;rw[if_neg (by omega),if_neg (by omega),if_neg (by omega)]) (fun t ht gf=>by
  unfold V63
  by_cases h1:t<j
  .rw[if_pos h1,if_pos h1]
  .rw[if_neg h1,if_neg h1]
   by_cases h2:t<j+m
   .rw[if_pos h2]
    by_cases h3:t=j+i
    .rw[if_pos h3,if_pos h3]
    .rw[if_neg h3,if_neg h3,if_neg (by omega)]
   .by_cases h3:t=j+m
    .rw[if_neg h2,if_pos h3,if_neg (show ¬ t=j+i by omega),if_pos h3]
    .omega)
 have dg:J0 (hs ao J (some (.cells (cssC.set (j+m+1) c3).flatten 0))) (nx+1)=_:=(Z1 _ (by omega)).trans f8;have cu:J0 (hs ao J (some (.cells (cssC.set (j+m+1) c3).flatten 0))) nx=_:=(Z1 _ (by omega)).trans ba;have bv:D0 H1 J (hs ao J (some (.cells (cssC.set (j+m+1) c3).flatten 0))) E:=((ay.trans O).trans V).hs (by omega);generalize hs ao J (some (.cells (cssC.set (j+m+1) c3).flatten 0))=H20 at *
 generalize cssC.set (j+m+1) c3=cssD at *
 have el:∀(A:Option Addr) (l c:Nat) (k:List Value->Prop),K6 1 1 [.slice none 0 0] [(0,.slice A l c)] k=k [.slice A l c]:=fun A l c k=>rfl
 simp(disch:=first|omega|assumption)only[W0,dg,el];have dn:∀(x:Int) (k:List Value->Prop),K6 1 1 [.int .i64 0] [(0,.int .i64 x)] k=k [.int .i64 x]:=fun x k=>rfl
 have hP:nx+2<=R5 (E+1) vr/\(R5 (E+1) vr=p\/R5 (E+1) vr=E+1):=by
  rcases N29 aj (d:=E+1) with ⟨hv,_,h1⟩ | ⟨b,hv,h1,h3,h4,h5⟩
  .exact⟨by omega,.inr h1⟩
  .refine⟨by omega,.inl ?_⟩
   rw[<- hp,hv];rfl
 have hQ:nx+2<=R5 (E+1+1+16) vb/\(R5 (E+1+1+16) vb=q\/R5 (E+1+1+16) vb=E+1+1+16):=by
  rcases N29 al (d:=E+1+1+16) with ⟨hv,_,h1⟩ | ⟨b,hv,h1,h3,h4,h5⟩
  .exact⟨by omega,.inr h1⟩
  .refine⟨by omega,.inl ?_⟩
   rw[<- hq,hv];rfl
 have aa:D0 H1 b3 (hs H20 E (some (.cells [.slice (some ⟨J,0,none⟩) (j+m+2) (j+m+2)] 0))) (E+1):=(bv.less a9).new _ (by omega) (by omega);have W:D0 H20 E (hs H20 E (some (.cells [.slice (some ⟨J,0,none⟩) (j+m+2) (j+m+2)] 0))) (E+1):=(D0.refl _ _).new _ (aD _) (by omega);have et:J0 (hs H20 E (some (.cells [.slice (some ⟨J,0,none⟩) (j+m+2) (j+m+2)] 0))) E=some (.cells [.slice (some ⟨J,0,none⟩) (j+m+2) (j+m+2)] 0):=Z11 _ _ _;generalize hs H20 E (some (.cells [.slice (some ⟨J,0,none⟩) (j+m+2) (j+m+2)] 0))=H21 at *
 have de:Src H21 1 (.slice (some ⟨E,0,none⟩) 1 1) 1 [.slice (some ⟨J,0,none⟩) (j+m+2) (j+m+2)]:=J9 et rfl (by omega);have d8:Z0 [Value.slice (some ⟨J,0,none⟩) (j+m+2) (j+m+2)]=true:=rfl;have bw:=aj.ext aa;refine E72 (d:=E+1) (by omega) bw de (by omega) d8 (by omega) (by omega) ?_;intro a7 ep U;have bt:=(U (nx+1) (by omega) (by omega)).trans ((W.get (nx+1) (by omega)).trans dg);have fx:=(U nx (by omega) (by omega)).trans ((W.get nx (by omega)).trans cu);have cg:∀(x y:Int) (a c d v:Value),B12 [.int .i64 x,.int .i64 y,a,c,d] 2 [v]=[.int .i64 x,.int .i64 y,v,c,d]:=fun _ _ _ _ _ _=>rfl
 have cj:∀(x y:Int) (a c d v:Value),B12 [.int .i64 x,.int .i64 y,a,c,d] 4 [v]=[.int .i64 x,.int .i64 y,a,c,v]:=fun _ _ _ _ _ _=>rfl
 simp(disch:=first|omega|assumption)only[W0,Nat.reduceAdd,bt,cg,show 2+1<=5 by omega,dn];rw[show((j:Int)+(i:Int))=((j+i:Nat):Int) by omega];have e6:J0 (hs a7 (nx+1) (some (.cells [.int .i64 (j:Int),.int .i64 (m:Int),.slice (some ⟨E+1,0,none⟩) (i+1) (i+1),.slice none 0 0,vb] 0))) (nx+1)=some (.cells [.int .i64 (j:Int),.int .i64 (m:Int),.slice (some ⟨E+1,0,none⟩) (i+1) (i+1),.slice none 0 0,vb] 0):=Z11 _ _ _;have b5:∀ x,x≠nx+1->J0 (hs a7 (nx+1) (some (.cells [.int .i64 (j:Int),.int .i64 (m:Int),.slice (some ⟨E+1,0,none⟩) (i+1) (i+1),.slice none 0 0,vb] 0))) x=J0 a7 x:=fun x hx=>Z1 _ hx
 have e5:∀ b Y,RO (er2 H20 p q) E b (j+m+2) Y->RO (er2 (hs a7 (nx+1) (some (.cells [.int .i64 (j:Int),.int .i64 (m:Int),.slice (some ⟨E+1,0,none⟩) (i+1) (i+1),.slice none 0 0,vb] 0))) (E+1) q) (E+1) b (j+m+2) Y:=by
  intro b Y h;have fk:=h.ext (G85 (p:=p) (q:=q) W);have dd:RO (er2 a7 (E+1) q) (E+1) b (j+m+2) Y:=fk.sub (fun x v hx hv=>by
   have h1:x≠p:=by rintro rfl;rw[V79] at hv;cases hv
   have h2:x≠q:=by rintro rfl;rw[X80] at hv;cases hv
   rw[U48 h1 h2] at hv;rw[U48 (by omega) h2,U x (by omega) (by omega)];exact hv)
  have ak:J0 (er2 a7 (E+1) q) (nx+1)=_:=(U48 (by omega) (by omega)).trans bt;subst dj di;exact(dd.boxs (dd.ne (by omega) ak (fun s h=>by simp at h)) ak (V93 _ _ _ _ _ _ _ _ _ _ _) (.inl rfl)).sub (Sub.of (J94 (by omega) (by omega)))
 generalize hs a7 (nx+1) (some (.cells [.int .i64 (j:Int),.int .i64 (m:Int),.slice (some ⟨E+1,0,none⟩) (i+1) (i+1),.slice none 0 0,vb] 0))=H23 at *
 have f7:J0 (hs H23 (E+1+1+11) (some (.cells [.int .i64 ((j+i:Nat):Int)] 0))) (E+1+1+11)=some (.cells [.int .i64 ((j+i:Nat):Int)] 0):=Z11 _ _ _;have a0:∀ x,x≠E+1+1+11->J0 (hs H23 (E+1+1+11) (some (.cells [.int .i64 ((j+i:Nat):Int)] 0))) x=J0 H23 x:=fun x hx=>Z1 _ hx
 have dh:D0 H23 (E+1) (hs H23 (E+1+1+11) (some (.cells [.int .i64 ((j+i:Nat):Int)] 0))) (E+1+1+16):=(D0.refl _ _).new _ (by omega) (by omega);generalize hs H23 (E+1+1+11) (some (.cells [.int .i64 ((j+i:Nat):Int)] 0))=H25 at *
 have cf:Acc (nx+2) H25 (E+1+1+16) 1 vb i (Z57 i fun r=>j+r):=al.same (by omega) fun b gc ed c7=>by
  have gg:b=q:=(c7 nx).symm.trans hq;rw[a0 b (by omega),b5 b (by omega),U b (by omega) ?_,aa.get b ed];rcases dl with ⟨h1,h2⟩ | dl
  .rw[h2] at c7
   have:b+1=b:=c7 (b+1);omega
  .omega
 have bz:Src H25 1 (.slice (some ⟨E+1+1+11,0,none⟩) 1 1) 1 [.int .i64 ((j+i:Nat):Int)]:=J9 f7 rfl (by omega);have c8:Z0 [cD .i64 ((j+i:Nat):Int)]=true:=rfl;refine E72 (d:=E+1+1+16) (by omega) cf bz (by omega) c8 (by omega) (by omega) ?_;intro au fe Z;have bc:=(Z (nx+1) (by omega) (by omega)).trans ((a0 (nx+1) (by omega)).trans e6);have fq:∀ x,x<b3->x≠p->x≠q->x≠nx+1->J0 au x=J0 H1 x:=fun x h1 h2 h3 h4=>by
  rw[Z x (by omega) (by omega),a0 x (by omega),b5 x h4,U x (by omega) (by omega),aa.get x h1]
 have ap:∀ x,x<=nx->J0 au x=J0 H1 x:=fun x h1=>by
  rw[Z x (by omega) (by omega),a0 x (by omega),b5 x (by omega),U x (by omega) (by omega),aa.get x (by omega)]
 have dt:J0 au (E+1)=some (.cells (slR (j+m+2) (bs++[J])) 1):=by
  rw[Z _ (by omega) (by omega),a0 _ (by omega),b5 _ (by omega),ep,J97]
 simp(disch:=first|omega|assumption)only[W0,Nat.reduceAdd,bc,cj];refine eu (k-1) _ _ _ (by omega) ⟨i+1,.slice (some ⟨E+1,0,none⟩) (i+1) (i+1),.slice (some ⟨E+1+1+16,0,none⟩) (i+1) (i+1),bs++[J],by omega,by simp,⟨by omega,fun x hx => ?_⟩,by omega,?_,Z11 _ _ _,⟨?_,.inr ⟨E+1,by omega,by omega,rfl,?_⟩⟩,by simp[ai],⟨?_,.inr ⟨E+1+1+16,by omega,by omega,rfl,?_⟩⟩,fun x b hb => ?_,.inr ?_⟩
 .rw[Z1 _ (by omega),ap x (by omega)];exact av.get x hx
 .rw[Z1 _ (by omega),ap nx (by omega)];exact g0
 .rw[G75];simp[ai]
 .rw[Z1 _ (by omega)];exact dt
 .rw[B78];omega
 .rw[Z1 _ (by omega),fe,B104]
 .show RO (er2 _ (E+1) (E+1+1+16)) _ _ _ _
  have ew:RO (er2 H20 p q) E b (j+m+2) (V63 j m X x):=by
   rw[List.getElem?_append] at hb
   split at hb
   .exact(ax x b hb).ext (G85 (bv.less a9))
   .rename_i hx
    have ee:x-bs.length=0:=by
     have:=(aJ.1 hb).1;simp at this;omega
    rw[ee] at hb;simp at hb;subst hb;have:x=i:=by omega
    rw[this];exact d3.ro
  have eb:=(e5 b _ ew).ext (G85 (p:=E+1) (q:=q) dh);have db:RO (er2 au (E+1) (E+1+1+16)) (E+1+1+16) b (j+m+2) (V63 j m X x):=eb.sub (fun y v hy hv=>by
   have h1:y≠E+1:=by rintro rfl;rw[V79] at hv;cases hv
   have h2:y≠q:=by rintro rfl;rw[X80] at hv;cases hv
   rw[U48 h1 h2] at hv;rw[U48 h1 (by omega),Z y (by omega) (by omega)];exact hv)
  have ak:J0 (er2 au (E+1) (E+1+1+16)) (nx+1)=_:=(U48 (by omega) (by omega)).trans bc;subst dj di;exact((db.boxs (db.ne (by omega) ak (fun s h=>by simp at h)) ak (V93 _ _ _ _ _ _ _ _ _ _ _) (.inl rfl)).sub (Sub.of (J94 (by omega) (by omega)))).more (by omega)
 .show E+1≠E+1+1+16
  omega
end Go.Proofs.YtoiioigihocgbaaGreatDoor
namespace Go.Clo
def TC(H:Y0)(b n:Nat):Prop:=∃ css:List (List Value),J0 H b=some (.cells css.flatten 0)/\css.length=n/\∀ c ∈ css,V7 c
theorem TC.ext{H:Y0}{nx b n:Nat}{H':Y0}{nx':Nat}(h:TC H b n)(e:D0 H nx H' nx')(hb:b<nx):TC H' b n:=let ⟨css,h1,h2,h3⟩:=h;⟨css,(e.get b hb).trans h1,h2,h3⟩
structure TG (H:Y0) (nx lo p n m br cr:Nat) (gv:Value) (bb cb sr sb:Nat) (bs:List Nat) (a:Nat->Nat->Rat) (B:Nat->Nat):Prop where
 hp:J0 H p=some (.cells [.int .i64 (n:Int),.int .i64 (m:Int),.slice (some ⟨br,0,none⟩) m cr,gv,.slice (some ⟨bb,0,none⟩) m cb] 0)
 hr:J0 H br=some (.cells (slR (n+m+2) bs) sr)
 hb:J0 H bb=some (.cells (Z57 m B) sb)
 len:bs.length=m
 rows:∀ i b,bs[i]? = some b->RO H nx b (n+m+2) (a i)
 lop:lo<=p
 lor:lo<=br
 lob:lo<=bb
 pn:p<nx
 rn:br<nx
 bn:bb<nx
 sr1:sr=0\/sr=1
 sb1:sb=0\/sb=1
theorem TG.ext{H:Y0}{nx lo p n m br cr:Nat}{gv:Value}{bb cb sr sb:Nat}{bs:List Nat}{a:Nat->Nat->Rat}{B:Nat->Nat}{H':Y0}{nx':Nat}(h:TG H nx lo p n m br cr gv bb cb sr sb bs a B)(e:D0 H nx H' nx'):TG H' nx' lo p n m br cr gv bb cb sr sb bs a B:=by
 have:=e.le;have:=h.pn;have:=h.rn;have:=h.bn;exact⟨(e.get p h.pn).trans h.hp,(e.get br h.rn).trans h.hr,(e.get bb h.bn).trans h.hb,h.len,fun i b hb=>(h.rows i b hb).ext e,h.lop,h.lor,h.lob,by omega,by omega,by omega,h.sr1,h.sb1⟩
theorem TG.tv {H:Y0} {nx lo p n m br cr gb:Nat} {bb cb sr sb:Nat} {bs:List Nat} {a:Nat->Nat->Rat} {B:Nat->Nat} {X:Nat->Rat} (h:TG H nx lo p n m br cr (.slice (some ⟨gb,0,none⟩) (n+m+2) (n+m+2)) bb cb sr sb bs a B) (hX:RO H nx gb (n+m+2) X):
  TV H nx lo p n m br cr gb bb cb sr sb bs ⟨a,X,B⟩:=⟨h.hp,h.hr,h.hb,h.len,h.rows,hX,h.lop,h.lor,h.lob,h.pn,h.rn,h.bn,h.sr1,h.sb1⟩
theorem TQ.tg{H:Y0}{nx lo p n m br cr bb cb sr sb:Nat}{bs:List Nat}{a:Nat->Nat->Rat}{B:Nat->Nat}{A:Option Addr}{l c:Nat}(h:TQ H nx lo p n m br cr bb cb sr sb bs a B)(hm:0<m):
  TG (hs H p (some (.cells [.int .i64 (n:Int),.int .i64 (m:Int),.slice (some ⟨br,0,none⟩) m cr,.slice A l c,.slice (some ⟨bb,0,none⟩) m cb] 0))) nx lo p n m br cr (.slice A l c) bb cb sr sb bs a B:=by
 have h0:∀ s,[cD .i64 (n:Int),.int .i64 (m:Int),.slice (some ⟨br,0,none⟩) m cr,.slice none 0 0,.slice (some ⟨bb,0,none⟩) m cb][0]? ≠ some (.bool s):=by intro s h;simp at h
 have J:p≠br:=by
  refine G78 h.hp h.hr 0 ?_;obtain⟨b,hb⟩:∃ b,bs[0]? = some b:=⟨bs[0]'(by have:=h.len;omega),aE _⟩
  rw[G71 hb];simp
 have E:p≠bb:=by
  refine G78 h.hp h.hb 2 ?_
  by_cases h2:2<m
  .rw[K73 h2];simp
  .rw[aT (l:=Z57 m B) (by rw[B78];omega)];simp
 refine⟨Z11 _ _ _,by rw[Z1 _ (eT J)];exact h.hr,by rw[Z1 _ (eT E)];exact h.hb,h.len,fun k d hk => ?_,h.lop,h.lor,h.lob,h.pn,h.rn,h.bn,h.sr1,h.sb1⟩;have:=h.rows k d hk;exact this.boxs (this.ne (by omega) h.hp h0) h.hp (V93 _ _ _ _ _ _ _ _ _ _ _) (.inl rfl)
theorem X107{H:Y0}{b n l h size:Nat}{c:List Value}(hg:J0 H b=some (.cells c 0))(hl:l<=h)(hh:h<=n)(E:l<n)(k:VP):wSl (.slice (some ⟨b,0,none⟩) n n) size (some (.int .i64 (l:Int))) (some (.int .i64 (h:Int))) none H k=k (.slice (some ⟨b,l*size,none⟩) (h-l) (n-l)):=by
 have e:B26 (some ⟨b,0,none⟩) n n size (some (.int .i64 (l:Int))) (some (.int .i64 (h:Int))) none false=some (.slice (some ⟨b,l*size,none⟩) (h-l) (n-l)):=by
  simp only[B26,hiA,loA];simp[Y13,V6 hh,V6 hl,V6 (show l<=n by omega),K43 (show n≠l by omega)]
 unfold wSl;dsimp only;rw[Y4,hg];simp only[aN,slB,N8,D13,cond_true];rw[e];exact E7 _ _
theorem V110{H:Y0}{nx b l h:Nat}{css:List (List Value)}(hg:J0 H b=some (.cells css.flatten 0))(hb:b<nx)(h3:∀ c ∈ css,c.length=3)(hl:l+h<=css.length):Sl H nx (some ⟨b,l*3,none⟩) ((css.drop l).take h).flatten:=by
 intro i v hv;refine⟨b,l*3,css.flatten,rfl,hb,by rw[Q5,hg];rfl,?_⟩;have e:css=css.take l++(((css.drop l).take h)++(css.drop l).drop h):=by rw[List.take_append_drop,List.take_append_drop]
 have el:(css.take l).flatten.length=l*3:=by
  rw[W26 (fun c hc=>h3 c (List.mem_of_mem_take hc)),cK];omega
 have e2:css.flatten=(css.take l).flatten++(((css.drop l).take h).flatten++((css.drop l).drop h).flatten):=by
  rw[<- List.flatten_append,<- List.flatten_append,<- e]
 rw[e2,bS (by omega),el,show l*3+i-l*3=i by omega,bQ (aJ.1 hv).1];exact hv
end Go.Clo
namespace Go.Proofs.YtoiioigihocgbaaGreatDoor
open Go.Clo
theorem N104:((1:Rat).num).sign=1:=rfl
theorem K84(L:Nat)(h:1<L):U15 1 L:=by
 have h1:(D11 1).length<=1:=E29 (by omega);exact⟨by show(D11 1).length<_;omega,by show(D11 1).length<_;omega⟩
theorem D96{H:Y0}{nx lo p n m br cr bb cb sr sb:Nat}{bs:List Nat}{a:Nat->Nat->Rat}{B:Nat->Nat}(h:TQ H nx lo p n m br cr bb cb sr sb bs a B)(hn:n<=20)(hm:m<=20)(ha:∀ i,i<m->a i (n+m+1)=1):
  Q2 Tryz.prog 121 [.pointer (some ⟨p,0,none⟩)] H nx fun v H' nx'=>v = .bool true/\D0 H nx H' nx':=by
 refine spec121 ?_;unfold F121;have a2:=h.hp;simp(disch:=first|omega|assumption)only[W0,Q0.val,a2];refine B1 (m:=m) (fun k L H' nx'=>∃ i:Nat,k+i=m/\L=[.int .i64 (-1),.int .i64 (i:Int)]/\D0 H nx H' nx') ?_ ⟨0,by omega,rfl,D0.refl _ _⟩;rintro k ih L H1 a1 ⟨i,hk,rfl,Q⟩ a3;have h1:=h.ext Q
 by_cases hi:i<m
 case neg=>
  have U:¬ (i:Int)<(m:Int):=by omega
  simp(disch:=first|omega|assumption)only[W0,U,show(-1:Int)<0 by omega];exact Q
 have U:(i:Int)<(m:Int):=by omega
 obtain⟨b,a0⟩:∃ b,bs[i]? = some b:=⟨bs[i]'(by have:=h.len;omega),aE _⟩
 obtain⟨css,hg,a6,hl,hx⟩:=h1.rows i b a0;obtain⟨cc,W⟩:∃ cc,css[n+m+1]? = some cc:=⟨css[n+m+1]'(by omega),aE _⟩
 have J:=hx _ cc W;have E:=J.tri;rw[ha i hi] at J;rw[N13];simp(disch:=first|omega|assumption)only[W0,U,h1.hr,G71 a0];refine R0 (Y76 h1.hp (by omega) (by omega)) ?_;rintro _ H1 O ⟨rfl,rfl,a4⟩;simp(disch:=first|omega|assumption)only[W0,Nat.reduceAdd,hg,J22 hx.three W,E.three,E.one,G24 (show cc.length=[dU false,.slice none 0 0,.slice none 0 0].length from E.three),X15 E];rw[N13];have V:D0 H1 a1 (hs (hs H1 O (some (.cells [.bool false,.slice none 0 0,.slice none 0 0] 0))) O (some (.cells cc 0))) (O+1+23):=((D0.self (show a1<=O+1+23 by omega)).hs (by omega)).hs (by omega);refine R0 (E74 (J.ext V) (K84 _ (by omega))) ?_;rintro _ H8 a5 ⟨rfl,Z⟩;have g8:=Z.get O (by omega);rw[Z11] at g8;simp(disch:=first|omega|assumption)only[W0,N104,show ¬ (1:Int)<0 by omega,g8,X15 E];exact a3 (k-1) _ _ _ (by omega) ⟨i+1,by omega,by simp,(Q.trans V).trans Z⟩
section
variable {H:Y0} {T:Lp.Tab} {bb br cb cr gb lo m n nx p sb sr:Nat} {bs:List Nat}
theorem B93{Hc:Y0}{cC:Nat}{a:Nat->Nat->Rat}{AC:Option Addr}(h:TQ H nx lo p n m br cr bb cb sr sb bs a (fun r=>n+r))(hn:1<=n)(b4:n<=20)(bo:1<=m)(hm:m<=20)
  (hC:RSl Hc lo AC n (fun _=>1))(a6:D0 Hc lo H nx):
  Q2 Tryz.prog 123 [.pointer (some ⟨p,0,none⟩),.slice AC n cC] H nx fun v H' nx'=>v = .tuple ⟨[]⟩/\nx<=nx'/\D0 H lo H' nx' /\
   ∃ gb,TV H' nx' lo p n m br cr gb bb cb sr sb bs ⟨a,fun t=>if t<n then -1 else 0,fun r=>n+r⟩:=by
 obtain⟨bC,oC,ao,rfl,aw,a8,a4⟩:=hC.open (by omega);have bt:=h.pn;have bd:=a6.le;have bf:=h.lop;refine spec123 ?_;unfold F123;refine R0 (Y76 h.hp (by omega) (by omega)) ?_;rintro _ H E ⟨rfl,rfl,V⟩;simp(disch:=first|omega|assumption)only[W0];rw[show((n+m+1:Nat):Int)+1=((n+m+2:Nat):Int) by omega];refine R0 (W82 (n:=n+m+2) (by omega) _ _) ?_;rintro _ H2 nx2 ⟨rfl,ay,a3⟩;have ae:=a3.le;have ac:=(a3.get p (by omega)).trans h.hp;have a5:∀(x y:Int) (A C D v:Value),B12 [.int .i64 x,.int .i64 y,A,C,D] 3 [v]=[.int .i64 x,.int .i64 y,A,v,D]:=fun _ _ _ _ _ _=>rfl
 have O:=ay.ro;rw[List.length_replicate] at O;have b8:E<nx2:=O.choose_spec.2.1;simp(disch:=first|omega|assumption)only[W0,Nat.reduceAdd,Nat.reduceLeDiff,ac,a5];have au:TG (hs H p (some (.cells [.int .i64 (n:Int),.int .i64 (m:Int),.slice (some ⟨br,0,none⟩) m cr,.slice (some ⟨E,0,none⟩) (n+m+2) (n+m+2),.slice (some ⟨bb,0,none⟩) m cb] 0))) nx lo p n m br cr (.slice (some ⟨E,0,none⟩) (n+m+2) (n+m+2)) bb cb sr sb bs a (fun r=>n+r):=h.tg (by omega);have ag:=au.ext (D0.self V);have ab:D0 Hc lo (hs H p (some (.cells [.int .i64 (n:Int),.int .i64 (m:Int),.slice (some ⟨br,0,none⟩) m cr,.slice (some ⟨E,0,none⟩) (n+m+2) (n+m+2),.slice (some ⟨bb,0,none⟩) m cb] 0))) E:=(a6.more V).hs h.lop;have ai:D0 H lo (hs H p (some (.cells [.int .i64 (n:Int),.int .i64 (m:Int),.slice (some ⟨br,0,none⟩) m cr,.slice (some ⟨E,0,none⟩) (n+m+2) (n+m+2),.slice (some ⟨bb,0,none⟩) m cb] 0))) E:=(D0.self (by omega)).hs h.lop;have ap:D0 (hs H p (some (.cells [.int .i64 (n:Int),.int .i64 (m:Int),.slice (some ⟨br,0,none⟩) m cr,.slice (some ⟨E,0,none⟩) (n+m+2) (n+m+2),.slice (some ⟨bb,0,none⟩) m cb] 0))) E
   (hs H2 p (some (.cells [.int .i64 (n:Int),.int .i64 (m:Int),.slice (some ⟨br,0,none⟩) m cr,.slice (some ⟨E,0,none⟩) (n+m+2) (n+m+2),.slice (some ⟨bb,0,none⟩) m cb] 0))) nx2:=⟨ae,fun i hi=>by
  rw[N7,N7]
  split
  .rfl
  .exact a3.get i hi⟩
 obtain⟨a9,b3,_,av,aj⟩:=O.boxs (s':=0) (l':=[.int .i64 (n:Int),.int .i64 (m:Int),.slice (some ⟨br,0,none⟩) m cr,.slice (some ⟨E,0,none⟩) (n+m+2) (n+m+2),.slice (some ⟨bb,0,none⟩) m cb]) (by omega) ac (V93 _ _ _ _ _ _ _ _ _ _ _) (.inl rfl);generalize hs H2 p (some (.cells [.int .i64 (n:Int),.int .i64 (m:Int),.slice (some ⟨br,0,none⟩) m cr,.slice (some ⟨E,0,none⟩) (n+m+2) (n+m+2),.slice (some ⟨bb,0,none⟩) m cb] 0))=H3 at *
 generalize hs H p (some (.cells [.int .i64 (n:Int),.int .i64 (m:Int),.slice (some ⟨br,0,none⟩) m cr,.slice (some ⟨E,0,none⟩) (n+m+2) (n+m+2),.slice (some ⟨bb,0,none⟩) m cb] 0))=Hb at *
 refine B1 (m:=n) (fun k L H' nx'=>∃(j:Nat) (css:List (List Value)),k+j=n/\L=[.int .i64 (j:Int)]/\D0 Hb E H' nx'/\nx2<=nx'/\J0 H' E=some (.cells css.flatten 0)/\css.length=n+m+2/\RX H' nx' css (fun t=>if t<j then -1 else 0)) ?_
  ⟨0,a9,by omega,rfl,ap,aD _,b3,av,fun q c hc=>by
   have:=aj q c hc;have hq:=(aJ.1 hc).1;simp only[aP,List.getElem?_replicate] at this;rw[if_pos (by omega)] at this;simpa using this⟩
 rintro k ih L H4 a2 ⟨j,css,hk,rfl,Q,ba,g4,W,ah⟩ ax;have h4:=ag.ext Q;have Z:=ab.both (Q.less (by omega))
 by_cases hj:j<n
 .have a1:(j:Int)<(n:Int):=by omega
  obtain⟨cc,bc,ad,al⟩:=a4 j hj;have aq:Q5 H4 bC=some ao:=(Z.row aw).trans a8;simp(disch:=first|omega|assumption)only[W0,a1,h4.hp,X3 aq,al];have U:D0 H4 a2 H4 (a2+12):=D0.self (by omega);refine R0 (G102 ((ad.ext Z).ext U) (K84 _ (by omega))) ?_;rintro r H6 bg ⟨hr,az⟩;have J:=U.trans az;have h6:=h4.ext J;have b5:=J.le;have g6:=(J.get E (by omega)).trans g4;have a7:=ah.ext J;obtain⟨rc,rfl,an⟩:=hr.num;rw[cG j 3,R74 g6 a7.tri an (by omega)];simp(disch:=first|omega|assumption)only[W0,h6.hp];refine ax (k-1) _ _ _ (by omega) ⟨j+1,css.set j rc,by omega,by simp,(Q.trans J).hs (aD _),by omega,Z11 _ _ _,by simp[W],a7.put g6 hr (by omega) (by rw[if_pos (by omega)]) (fun q hq => ?_)⟩
  by_cases h1:q<j
  .rw[if_pos h1,if_pos (by omega)]
  .rw[if_neg h1,if_neg (by omega)]
 obtain rfl:j=n:=by omega
 have a1:¬ (j:Int)<(j:Int):=by omega
 simp(disch:=first|omega|assumption)only[W0,a1,h4.hp];refine B1 (m:=m) (fun k L H' nx'=>∃ i:Nat,k+i=m/\L=[.int .i64 (i:Int)]/\H4=H'/\a2=nx') ?_ ⟨0,by omega,rfl,rfl,rfl⟩;rintro k2 bk L2 _ _ ⟨i,bh,rfl,rfl,rfl⟩ aa
 by_cases hi:i<m
 .have a0:(i:Int)<(m:Int):=by omega
  have ak:¬ ((j+i:Nat):Int)<(j:Int):=by omega
  rw[N13];simp(disch:=first|omega|assumption)only[W0,a0,h4.hb,K73 hi,h4.hp,ak];exact aa (k2-1) _ _ _ (by omega) ⟨i+1,by omega,by simp,rfl,rfl⟩
 have a0:¬ (i:Int)<(m:Int):=by omega
 simp(disch:=first|omega|assumption)only[W0,a0];exact⟨by omega,ai.both (Q.less (by omega)),E,h4.tv ⟨css,g4,by omega,W,ah⟩⟩
theorem Y105(h:TV H nx lo p n m br cr gb bb cb sr sb bs T)(hn:n<=20)(hm:m<=20):
  Q2 Tryz.prog 125 [.pointer (some ⟨p,0,none⟩)] H nx fun v H' nx'=>∃ b,v = .slice (some ⟨b,0,none⟩) n n/\nx<=b/\b<nx'/\TC H' b n/\D0 H nx H' nx':=by
 refine spec125 ?_;unfold F125;have a5:=h.hp;unfold Q60 at a5;simp(disch:=first|omega|assumption)only[W0,a5];refine R0 (W82 (n:=n) (by omega) _ _) ?_;rintro _ H1 ak ⟨rfl,ag,a1⟩;have a9:=ag.ro;rw[List.length_replicate] at a9;obtain⟨ab,g0,a7,ae,ac⟩:=a9;have h1:=h.ext a1;have a4:=h1.hp;unfold Q60 at a4;simp(disch:=first|omega|assumption)only[W0,a4];refine B1 (m:=m) (fun k L H' nx'=>∃(i:Nat) (css:List (List Value)),k+i=m/\L=[.int .i64 (i:Int)]/\D0 H nx H' nx'/\nx<nx'/\J0 H' nx=some (.cells css.flatten 0)/\css.length=n/\∀ c ∈ css,V7 c) ?_
  ⟨0,ab,by omega,rfl,a1,a7,g0,ae,ac.tri⟩
 rintro k ih L H2 nx2 ⟨i,css,hk,rfl,U,W,g2,Q,E⟩ aa;have h2:=h.ext U;have O:=h2.hp;unfold Q60 at O
 by_cases hi:i<m
 case neg=>
  have V:¬ (i:Int)<(m:Int):=by omega
  simp(disch:=first|omega|assumption)only[W0,V];exact⟨nx,rfl,aD _,W,⟨css,g2,Q,E⟩,U⟩
 have V:(i:Int)<(m:Int):=by omega
 rw[N13]
 by_cases hb:T.B i<n
 .have Z:(T.B i:Int)<(n:Int):=by omega
  obtain⟨b,a6,a2⟩:=h2.row hi;obtain⟨a8,ad,al,aj,a0⟩:=a2;obtain⟨cc,a3⟩:∃ cc,a8[n+m+1]? = some cc:=⟨a8[n+m+1]'(by omega),aE _⟩
  have J:=a0.tri cc (aH a3);simp(disch:=first|omega|assumption)only[W0,V,h2.hb,K73 hi,O,Z,h2.hr,G71 a6];refine R0 (Y76 (r:=[.slice (some ⟨br,0,none⟩) m cr,.slice (some ⟨gb,0,none⟩) (n+m+2) (n+m+2),.slice (some ⟨bb,0,none⟩) m cb]) O (by omega) (by omega)) ?_;rintro _ H2 ai ⟨rfl,rfl,ah⟩;have e3:T.B i*3=3*T.B i:=by omega
  have ep:B12 css.flatten (T.B i*3) cc=(css.set (T.B i) cc).flatten:=by rw[e3];exact M78 (fun c hc=>(E c hc).three) J.three (by omega)
  have el:T.B i*3+3<=3*css.length:=by omega
  simp(disch:=first|omega|assumption)only[W0,O,h2.hr,G71 a6,ad,J22 a0.three a3,J.three,J.one,g2,W26 (fun c hc=>(E c hc).three),ep,el];exact aa (k-1) _ _ _ (by omega) ⟨i+1,css.set (T.B i) cc,by omega,by simp,(U.more (by omega)).hs (aD _),by omega,Z11 _ _ _,by simp[Q],J85 E J⟩
 .have Z:¬ (T.B i:Int)<(n:Int):=by omega
  simp(disch:=first|omega|assumption)only[W0,V,h2.hb,K73 hi,O,Z];exact aa (k-1) _ _ _ (by omega) ⟨i+1,css,by omega,by simp,U,W,g2,Q,E⟩
theorem D108(h:TV H nx lo p n m br cr gb bb cb sr sb bs T)(hn:n<=20)(ad:1<=m)(hm:m<=20):
  Q2 Tryz.prog 122 [.pointer (some ⟨p,0,none⟩)] H nx fun v H' nx'=>∃ b,v = .slice (some ⟨b,0,none⟩) m m/\nx<=b/\b<nx'/\TC H' b m/\D0 H nx H' nx':=by
 refine spec122 ?_;unfold F122;have W:=h.hp;unfold Q60 at W;simp(disch:=first|omega|assumption)only[W0,W];refine R0 (W82 (n:=m) (by omega) _ _) ?_;rintro _ H1 a0 ⟨rfl,a6,Q⟩;have a1:=a6.ro;rw[List.length_replicate] at a1;obtain⟨a9,g0,a8,ac,a2⟩:=a1;have h1:=h.ext Q;have V:=h1.hp;unfold Q60 at V;obtain⟨E,Z,a5,ab,O⟩:=id h1.goal;have a3:∀ k:VP,wSl (.slice (some ⟨gb,0,none⟩) (n+m+2) (n+m+2)) 3 (some (.int .i64 (n:Int))) (some (.int .i64 ((n:Int)+(m:Int)))) none H1 k=k (.slice (some ⟨gb,n*3,none⟩) m (n+m+2-n)):=fun k=>by
  rw[show(n:Int)+(m:Int)=((n+m:Nat):Int) by omega,X107 Z (by omega) (by omega) (by omega),show n+m-n=m by omega]
 have a4:((E.drop n).take m).flatten.length=m*3:=by
  rw[W26 (fun c hc=>O.three c (fO (List.mem_of_mem_take hc))),cK,List.length_drop];omega
 have J:∀ c ∈ (E.drop n).take m,V7 c:=fun c hc=>O.tri c (fO (List.mem_of_mem_take hc))
 have U:Src H1 3 (.slice (some ⟨gb,n*3,none⟩) m (n+m+2-n)) m ((E.drop n).take m).flatten:=B68 (V110 Z a5 O.three (by omega)) a4 (by omega);have a7:∀ k:EP,M82 (.slice (some ⟨nx,0,none⟩) m m) (.slice (some ⟨gb,n*3,none⟩) m (n+m+2-n)) 3 H1 (a0+20) k=k (.int .i64 (m:Int)) (hs H1 nx (some (.cells ((E.drop n).take m).flatten 0))) (a0+20):=fun k=>by
  have aa:=W26 a2.three;rw[J79 g0 U (aD _) (Y82 J) (by omega),G24 (by omega)]
 simp(disch:=first|omega|assumption)only[W0,V,a3,a7];exact⟨nx,rfl,aD _,by omega,⟨_,Z11 _ _ _,by rw[cK,List.length_drop];omega,J⟩,(Q.more (by omega)).hs (aD _)⟩
end
end Go.Proofs.YtoiioigihocgbaaGreatDoor
namespace Go.Clo
theorem Y111(b o:Nat)(H:Y0)(k:VP):J1 (.pointer (some ⟨b,o,none⟩)) (some 7) H k=ldP (J0 H b) o (some 7) k:=W31 b o 6 H k
def noU(l:List Value):Bool:=l.all fun v=>match v with
 | .int .u32 _=>false
 | _=>true
theorem U47{l:List Value}(h:noU l=true):∀(q:Nat) (z:Int),l[q]? ≠ some (cD .u32 z):=by
 intro q z hq;have:=bW.1 h _ (aH hq)
 cases this
end Go.Clo
namespace Go.Proofs.YtoiioigihocgbaaGreatDoor
open Go.Clo
theorem J104{H:Y0}{nx n m cC cA cB:Nat}{AC AA AB:Option Addr}{ac:List Value}(a3:1<=m)
  (hA:Sl H nx AA ac)(a2:ac.length=m)(Q:∀ i,i<m->∃ Ai ci,ac[i]? = some (.slice Ai n ci))(hm:m<=1000):
  Q2 Tryz.prog 119 [.agg ⟨[.slice AC n cC,.slice AA m cA,.slice AB m cB]⟩] H nx fun v H' nx'=>v = .bool true/\D0 H nx H' nx':=by
 obtain⟨bA,oA,a1,rfl,V,U,E⟩:=hA.open (i:=0) (by omega);refine spec119 ?_;unfold F119;simp(disch:=first|omega|assumption)only[W0,Z0,Q0.val,ne_eq,not_true_eq_false];have O:D0 H nx (hs H nx (some (.cells [.slice AC n cC,.slice (some ⟨bA,oA,none⟩) m cA,.slice AB m cB] 0))) (nx+1):=(D0.refl _ _).new _ (aD _) (by omega);have g1:J0 (hs H nx (some (.cells [.slice AC n cC,.slice (some ⟨bA,oA,none⟩) m cA,.slice AB m cB] 0))) nx=some (.cells [.slice AC n cC,.slice (some ⟨bA,oA,none⟩) m cA,.slice AB m cB] 0):=Z11 _ _ _;generalize hs H nx (some (.cells [.slice AC n cC,.slice (some ⟨bA,oA,none⟩) m cA,.slice AB m cB] 0))=H1 at *
 refine B1 (m:=m) (fun k L H' nx'=>∃ i:Nat,k+i=m/\L=[.int .i64 (i:Int)]/\H1=H'/\nx+1=nx') ?_ ⟨0,by omega,rfl,rfl,rfl⟩;rintro k ih L _ _ ⟨i,hk,rfl,rfl,rfl⟩ a0
 by_cases hi:i<m
 .have J:(i:Int)<(m:Int):=by omega
  obtain⟨Ai,ci,Z⟩:=Q i hi;have W:Q5 H1 bA=some a1:=(O.row V).trans U;simp(disch:=first|omega|assumption)only[W0,J,X3 W,E i _ Z,g1,ne_eq,not_true_eq_false];exact a0 (k-1) _ _ _ (by omega) ⟨i+1,by omega,by simp,rfl,rfl⟩
 have J:¬ (i:Int)<(m:Int):=by omega
 simp(disch:=first|omega|assumption)only[W0,J];exact O
structure U77 (H:Y0) (nx n m:Nat) (s:Nat->Nat->Bool) (v:Value):Prop where
 ex:∃(bX bY:Nat) (t:Bool) (A C:Option Addr) (l k l' k':Nat),v = .tuple ⟨[.agg ⟨[.int .i64 0,.slice (some ⟨bX,0,none⟩) n n,.slice (some ⟨bY,0,none⟩) m m,.slice none 0 0,.bool t,.slice A l k,.slice C l' k']⟩,.int .i64 0]⟩ /\
  bX<nx/\bY<nx/\TC H bX n/\TC H bY m/\RR H nx (.agg ⟨[.bool t,.slice A l k,.slice C l' k']⟩) ((Lp.tabK n m s (Lp.steps n m s)).g (n+m+1))
theorem M104{H:Y0}{nx n m cC cA cB:Nat}{AC AA AB:Option Addr}{s:Nat->Nat->Bool}{ac:List Value}(hn:1<=n)(E:n<=20)(a6:1<=m)(hm:m<=8)
  (hA:Sl H nx AA ac)(ak:ac.length=m)(a8:∀ i,i<m->∃ Ai ci,ac[i]? = some (.slice Ai n ci)/\RSl H nx Ai n (fun j=>if s i j then 1 else 0))(hB:RSl H nx AB m (fun _=>1))(hC:RSl H nx AC n (fun _=>1))
  (bd:∀ v,v<n->∃ r,r<m/\s r v=true):
  Q2 Tryz.prog 109 [.agg ⟨[.slice AC n cC,.slice AA m cA,.slice AB m cB]⟩] H nx fun v H' nx'=>U77 H' nx' n m s v/\D0 H nx H' nx':=by
 refine spec109 ?_;unfold F109;have b8:D0 H nx (hs (hs H nx (some (.cells [.slice AC n cC,.slice AA m cA,.slice AB m cB] 0))) (nx+1) (some (.cells [.int .i64 0,.slice none 0 0,.slice none 0 0,.slice none 0 0,.bool false,.slice none 0 0,.slice none 0 0] 0))) (nx+1+1):=
  ((D0.refl _ _).new _ (aD _) (m:=nx+1) (by omega)).new _ (by omega) (by omega)
 have g2:J0 (hs (hs H nx (some (.cells [.slice AC n cC,.slice AA m cA,.slice AB m cB] 0))) (nx+1) (some (.cells [.int .i64 0,.slice none 0 0,.slice none 0 0,.slice none 0 0,.bool false,.slice none 0 0,.slice none 0 0] 0))) nx=some (.cells [.slice AC n cC,.slice AA m cA,.slice AB m cB] 0):=by
  rw[Z1 _ (by omega),Z11]
 have bu:J0 (hs (hs H nx (some (.cells [.slice AC n cC,.slice AA m cA,.slice AB m cB] 0))) (nx+1) (some (.cells [.int .i64 0,.slice none 0 0,.slice none 0 0,.slice none 0 0,.bool false,.slice none 0 0,.slice none 0 0] 0))) (nx+1)=some (.cells [.int .i64 0,.slice none 0 0,.slice none 0 0,.slice none 0 0,.bool false,.slice none 0 0,.slice none 0 0] 0):=Z11 _ _ _;simp(disch:=first|omega|assumption)only[W0,Z0,Q0.val,Y12];generalize hs (hs H nx (some (.cells [.slice AC n cC,.slice AA m cA,.slice AB m cB] 0))) (nx+1) (some (.cells [.int .i64 0,.slice none 0 0,.slice none 0 0,.slice none 0 0,.bool false,.slice none 0 0,.slice none 0 0] 0))=H2 at *
 refine R0 (J104 a6 (hA.ext b8) ak (fun i hi=>by obtain⟨Ai,ci,h1,_⟩:=a8 i hi;exact⟨Ai,ci,h1⟩) (by omega)) ?_;rintro _ H3 bo ⟨rfl,a5⟩;have bx:=a5.le;have g3:=(a5.get nx (by omega)).trans g2;have an:=(a5.get (nx+1) (by omega)).trans bu;have J:=b8.trans a5;simp(disch:=first|omega|assumption)only[W0,N13,g3,show ¬ (n:Int) > 64 by omega,show ¬ (64:Int)<(m:Int) by omega,Y12];have sX:∀ i q,i<m->q<n->U15 ((fun i j=>if s i j then(1:Rat) else 0) i q) 400000:=fun i q _ _=>by
  show U15 (if s i q then(1:Rat) else 0) 400000
  split
  .exact D80 1 (by simp)
  .exact D80 0 (by simp)
 refine R0 (X93 (X:=fun i j=>if s i j then(1:Rat) else 0) hn E a6 (by omega) (hA.ext J) ak (fun i hi=>by
  obtain⟨Ai,ci,h1,h2⟩:=a8 i hi;exact⟨Ai,ci,h1,h2.ext J⟩) (hB.ext J) sX) ?_
 rintro _ H7 c9 ⟨rfl,aq,br,cr,bb,cb,sr,sb,bs,hq⟩;have c7:=aq.le;refine R0 (D96 hq E (by omega) (fun i hi=>by unfold V63;rw[if_neg (by omega),if_neg (by omega),if_neg (by omega)])) ?_;rintro _ H8 c8 ⟨rfl,ai⟩;have bz:=ai.le;have bh:=hq.ext ai;have Q:=aq.trans ai;have g8:=(Q.get nx (by omega)).trans g3;have cf:=(Q.get (nx+1) (by omega)).trans an;simp(disch:=first|omega|assumption)only[W0,g8];refine R0 (B93 bh hn E a6 (by omega) (hC.ext J) Q) ?_;rintro _ az ad ⟨rfl,bf,av,gb,ba⟩;have aj:=Q.both av;have a2:=ba.hp;unfold Q60 at a2;simp(disch:=first|omega|assumption)only[W0,a2];rw[show((n:Int)+(m:Int))=((n+m:Nat):Int) by omega];have b3:D0 az ad az (ad+16):=D0.self (by omega);refine R0 (G96 (s:=s) (ba.ext b3) E hm bd (by omega)) ?_;rintro _ ao V ⟨rfl,bk,aw,ck,cg,a3⟩;have ah:=aj.both (aw);have a9:D0 ao V ao (V+15):=D0.self (by omega);simp(disch:=first|omega|assumption)only[W0];refine R0 (Y105 (a3.ext a9) E (by omega)) ?_;rintro _ cn c4 ⟨bX,rfl,ca,b4,hX,a1⟩;have O:=(a3.ext a9).ext a1;refine R0 (D108 O E a6 (by omega)) ?_;rintro _ bc au ⟨bY,rfl,cd,c3,hY,U⟩;have a4:=O.ext U;have bw:=a1.le;have bg:=U.le;have W:=a4.hp;unfold Q60 at W;have aa:=O.hp;unfold Q60 at aa;have ae:=a3.hp;unfold Q60 at ae;simp(disch:=first|omega|assumption)only[W0,W];refine R0 (Y76 W (by omega) (by omega)) ?_;rintro _ bc c6 ⟨rfl,rfl,a0⟩;obtain⟨ap,bv,cj,ce,b5⟩:=id a4.goal;obtain⟨cc,al⟩:∃ cc,ap[n+m+1]? = some cc:=⟨ap[n+m+1]'(by omega),aE _⟩
 have ag:=b5 _ cc al;have a7:=b5.three;obtain⟨t,A,l,k,C,l',k',rfl⟩:=ag.tri;have Z:D0 H3 bo bc au:=((ah.more (show V<=V+15 by omega)).both (a1.less (by omega))).both (U.less (by omega));have ab:=(Z.get (nx+1) (by omega)).trans an;have bt:∀ k0:VP,U11 [.int .i64 0,.slice none 0 0,.slice none 0 0,.slice none 0 0,.bool false,.slice none 0 0,.slice none 0 0] [(0,1),(1,1),(2,1),(3,1),(4,3)] [(0,.int .i64 0),(1,.slice (some ⟨bX,0,none⟩) n n),(2,.slice (some ⟨bY,0,none⟩) m m),(4,.agg ⟨[.bool t,.slice A l k,.slice C l' k']⟩)] k0 =
   k0 (.agg ⟨[.int .i64 0,.slice (some ⟨bX,0,none⟩) n n,.slice (some ⟨bY,0,none⟩) m m,.slice none 0 0,.bool t,.slice A l k,.slice C l' k']⟩):=fun k0=>V14 _ _
 have ay:∀(a b c d e f g:Value) (k:VP),B10 [a,b,c,d,e,f,g] 0 (some 7) k=k (.agg ⟨[a,b,c,d,e,f,g]⟩):=fun a b c d e f g k=>K26 (l:=[a,b,c,d,e,f,g]) k
 have ax:∀(a b c d e f g a' b' c' d' e' f' g':Value),B12 [a,b,c,d,e,f,g] 0 [a',b',c',d',e',f',g']=[a',b',c',d',e',f',g']:=fun _ _ _ _ _ _ _ _ _ _ _ _ _ _=>rfl
 simp(disch:=first|omega|assumption)only[W0,Z0,Nat.reduceAdd,bv,J22 a7 al,bt,ab,ax,ay,W,aa,ae,Y111];refine⟨⟨bX,bY,t,A,C,l,k,l',k',rfl,by omega,by omega,?_,?_,?_⟩,?_⟩
 .obtain⟨cs,h1,h2,h3⟩:=hX.ext U b4
  refine⟨cs,?_,h2,h3⟩;rw[Z1 _ (by omega)];exact h1
 .obtain⟨cs,h1,h2,h3⟩:=hY
  refine⟨cs,?_,h2,h3⟩;rw[Z1 _ (by omega)];exact h1
 .exact(ag.ext (D0.self a0)).boxs ab (U47 rfl) (.inl rfl)
 .exact((J.trans Z).more a0).hs (by omega)
end Go.Proofs.YtoiioigihocgbaaGreatDoor
namespace Go.Clo
section
variable {H H':Y0} {M:Nat->Option Value} {k:EP} {nx nx' r:Nat} {qs:List Nat}
def U29(H:Y0)(r:Nat)(M:Nat->Option Value):Prop:=∃ es c,J0 H r=some (.map es c)/\(∀ x ∈ es,MapKept.IsKey (.int .u32) x.key) /\
 (∀(i j:Nat) (x y:MapEntry),es[i]? = some x->es[j]? = some y->x.key=y.key->i=j)/\∀(n:Nat) (v:Value),M n=some v<->∃ x ∈ es,x.key = .int .u32 (n:Int)/\x.val=v
theorem U29.same(h:U29 H r M)(e:J0 H' r=J0 H r):U29 H' r M:=by
 obtain⟨es,c,h1,h2,h3,h4⟩:=h;exact⟨es,c,by rw[e];exact h1,h2,h3,h4⟩
theorem U29.ext(h:U29 H r M)(hr:r<nx)(e:D0 H nx H' nx'):U29 H' r M:=h.same (e.get r hr)
theorem U29.congr{M':Nat->Option Value}(h:U29 H r M)(e:∀ n,M' n=M n):U29 H r M':=by rw[show M'=M from funext e];exact h
theorem U29.nil{c:Nat}(h:J0 H r=some (.map [] c)):U29 H r fun _=>none:=⟨[],c,h,by simp,by simp,by simp⟩
theorem U29.find{es:List MapEntry}{M:Nat->Option Value}(h2:∀ x ∈ es,MapKept.IsKey (.int .u32) x.key)(h3:∀(i j:Nat)(x y:MapEntry),es[i]? = some x->es[j]? = some y->x.key=y.key->i=j)
  (h4:∀(n:Nat)(v:Value),M n=some v<->∃ x ∈ es,x.key = .int .u32 (n:Int)/\x.val=v)(n:Nat):
  (M n=none/\dP (.int .u32) (.int .u32 (n:Int)) es 0=some none/\∀ x ∈ es,x.key ≠ .int .u32 (n:Int))\/∃ j e,M n=some e.val/\dP (.int .u32) (.int .u32 (n:Int)) es 0=some (some (j,e.val))/\es[j]? = some e/\e.key = .int .u32 (n:Int):=by
 rcases MapKept.findNow_spec (d := .int .u32) (k := .int .u32 (n:Int)) rfl es 0 h2 with ⟨h,hn⟩ | ⟨j,e,h,hj,hk⟩
 .refine .inl ⟨?_,h,hn⟩
  cases hM:M n with
  | none=>rfl
  | some v=>
   obtain⟨x,hx,E,_⟩:=(h4 n v).1 hM;exact absurd E (hn x hx)
 .refine .inr ⟨j,e,(h4 n _).2 ⟨e,aH hj,hk,rfl⟩,?_,hj,hk⟩
  rw[h,cF]
theorem U29.lk{r:Nat}{M:Nat->Option Value}(h:U29 H r M)(n:Nat)(z:Value)(ok:Bool)(k:VP):
  wLk (.int .u32) z (.map (some r)) (.int .u32 (n:Int)) ok H k=(M n).elim (cond ok (k (.tuple ⟨[z,.bool false]⟩)) (k z)) fun v=>cond ok (k (.tuple ⟨[v,.bool true]⟩)) (k v):=by
 obtain⟨es,c,h1,h2,h3,h4⟩:=h;unfold wLk;rw[show Q9 (.int .u32) (.int .u32 (n:Int))=true from rfl];simp only[cond_true];rw[Y4,h1];simp only[aN];rcases U29.find h2 h3 h4 n with ⟨hM,hf,_⟩ | ⟨j,e,hM,hf,_⟩
 .rw[hf,hM];rfl
 .rw[hf,hM];rfl
theorem U29.lkN{M:Nat->Option Value}(h:U29 H r M){n:Nat}(hn:M n=none)(z:Value)(k:VP):wLk (.int .u32) z (.map (some r)) (.int .u32 (n:Int)) true H k=k (.tuple ⟨[z,.bool false]⟩):=by
 rw[h.lk,hn];rfl
theorem U29.lkS{M:Nat->Option Value}(h:U29 H r M){n:Nat}{v:Value}(hn:M n=some v)(z:Value)(k:VP):wLk (.int .u32) z (.map (some r)) (.int .u32 (n:Int)) true H k=k (.tuple ⟨[v,.bool true]⟩):=by
 rw[h.lk,hn];rfl
theorem U29.lkN'{M:Nat->Option Value}(h:U29 H r M){n:Nat}(hn:M n=none)(z:Value)(k:VP):wLk (.int .u32) z (.map (some r)) (.int .u32 (n:Int)) false H k=k z:=by
 rw[h.lk,hn];rfl
theorem U29.lkS'{M:Nat->Option Value}(h:U29 H r M){n:Nat}{v:Value}(hn:M n=some v)(z:Value)(k:VP):wLk (.int .u32) z (.map (some r)) (.int .u32 (n:Int)) false H k=k v:=by
 rw[h.lk,hn];rfl
theorem M89{n m:Nat}(h:cD .u32 (n:Int) = .int .u32 (m:Int)):n=m:=by
 injection h with _ h;omega
theorem U29.put{nx r:Nat}{M:Nat->Option Value}(h:U29 H r M)(n:Nat)(v:Value)(hk:∀ es c,U29 (hs H r (some (.map es c))) r (fun t=>if t=n then some v else M t)->k undef (hs H r (some (.map es c))) nx):
  W56 (.int .u32) (.map (some r)) (.int .u32 (n:Int)) v H nx k:=by
 obtain⟨es,c,h1,h2,h3,h4⟩:=h;unfold W56;dsimp only;rw[Y4,h1];simp only[aN,G52];rw[show Q9 (.int .u32) (.int .u32 (n:Int))=true from rfl];rcases U29.find h2 h3 h4 n with ⟨hM,hf,V⟩ | ⟨j,e,hM,hf,hj,U⟩
 .rw[hf]
  simp only[cond_true];rw[V14,G1,G4];refine hk _ _ ⟨_,_,Z11 _ _ _,?_,?_,fun t u => ?_⟩
  .intro x hx
   rcases dN.1 hx with hx | hx
   .exact h2 x hx
   .rw[dJ.1 hx];rfl
  .intro i j x y hx hy O
   rw[List.getElem?_append] at hx hy
   split at hx<;>split at hy
   .exact h3 i j x y hx hy O
   .have Z:y={ key := .int .u32 (n:Int),val:=v,born:=c }:=by
     have:=aH hy;simpa using this
    rw[Z] at O;exact absurd O (V x (aH hx))
   .have a1:x={ key := .int .u32 (n:Int),val:=v,born:=c }:=by
     have:=aH hx;simpa using this
    rw[a1] at O;exact absurd O.symm (V y (aH hy))
   .have h5:=(aJ.1 hx).1
    have h6:=(aJ.1 hy).1;simp at h5 h6;omega
  .by_cases Q:t=n
   .subst Q
    dsimp only;rw[if_pos rfl]
    constructor
    .intro hu
     cases hu
     exact⟨_,List.mem_append_right _ (dJ.2 rfl),rfl,rfl⟩
    .rintro⟨x,hx,E,J⟩
     rcases dN.1 hx with hx | hx
     .exact absurd E (V x hx)
     .rw[dJ.1 hx] at J
      rw[<- J]
   .dsimp only
    rw[if_neg Q,h4]
    constructor
    .rintro⟨x,hx,h⟩
     exact⟨x,dX _ hx,h⟩
    .rintro⟨x,hx,E,J⟩
     rcases dN.1 hx with hx | hx
     .exact⟨x,hx,E,J⟩
     .rw[dJ.1 hx] at E
      exact absurd (M89 E).symm Q
 .rw[hf]
  simp only[cond_true];rw[Q8,hj];simp only;rw[V14,G4,K25];have a0:=(aJ.1 hj).1;refine hk _ _ ⟨_,_,Z11 _ _ _,?_,?_,fun t u => ?_⟩
  .intro x hx
   rcases List.mem_or_eq_of_mem_set hx with hx | rfl
   .exact h2 x hx
   .rfl
  .intro i i' x y hx hy O
   rw[cQ] at hx hy
   split at hx<;>split at hy
   .omega
   .rename_i g1 g2
    try rw[if_pos (by omega)] at hx
    cases hx
    have:=h3 j i' e y hj hy (U.trans O);omega
   .rename_i g1 g2
    try rw[if_pos (by omega)] at hy
    cases hy
    have:=h3 i j x e hx hj (O.trans U.symm);omega
   .exact h3 i i' x y hx hy O
  .by_cases Q:t=n
   .subst Q
    dsimp only;rw[if_pos rfl]
    constructor
    .intro hu
     cases hu
     exact⟨_,List.mem_set a0 _,rfl,rfl⟩
    .rintro⟨x,hx,E,J⟩
     obtain⟨i,hi⟩:=cH hx;rw[cQ] at hi
     split at hi
     .try rw[if_pos (by omega)] at hi
      cases hi
      rw[<- J]
     .rename_i g
      exact absurd (h3 j i e x hj hi (U.trans E.symm)) g
   .dsimp only
    rw[if_neg Q,h4]
    constructor
    .rintro⟨x,hx,E,J⟩
     obtain⟨i,hi⟩:=cH hx;have W:j≠i:=by
      rintro rfl;rw[hj] at hi
      cases hi
      exact Q (M89 (E.symm.trans U))
     refine⟨x,aH (i:=i) ?_,E,J⟩;rw[cQ,if_neg W];exact hi
    .rintro⟨x,hx,E,J⟩
     obtain⟨i,hi⟩:=cH hx;rw[cQ] at hi
     split at hi
     .try rw[if_pos (by omega)] at hi
      cases hi
      exact absurd (M89 E).symm Q
     .exact⟨x,aH hi,E,J⟩
def D6(H:Y0)(qs:List Nat):Y0:=qs.foldr (fun q H=>hs H q none) H
theorem U73{H:Y0}{q:Nat}:∀ {qs:List Nat},q ∈ qs->J0 (D6 H qs) q=none
 | [],h=>by simp at h
 | p :: qs,h=>by
  show J0 (hs (D6 H qs) p none) q=none;rw[N7]
  split
  .rfl
  .rename_i hn
   exact U73 (by simpa [hn] using h)
theorem Q50{H:Y0}{q:Nat}:∀ {qs:List Nat},q ∉ qs->J0 (D6 H qs) q=J0 H q
 | [],_=>rfl
 | p :: qs,h=>by
  show J0 (hs (D6 H qs) p none) q=_;simp at h;rw[N7,if_neg h.1];exact Q50 h.2
theorem N68:∀ i b,J0 (D6 H qs) i=some b->J0 H i=some b:=by
 intro i b h
 by_cases hi:i ∈ qs
 .rw[U73 hi] at h;cases h
 .rwa [Q50 hi] at h
theorem V74{qs':List Nat}(h:∀ i,i<nx->i ∉ qs->J0 H' i=J0 H i)(hq:∀ q ∈ qs',q ∈ qs\/nx<=q):Sub (D6 H qs) nx (D6 H' qs'):=by
 intro i b hi hb;have h1:i ∉ qs:=fun hm=>by rw[U73 hm] at hb;cases hb
 have h2:i ∉ qs':=fun hm=>by
  rcases hq i hm with h | h
  .exact h1 h
  .omega
 rw[Q50 h1] at hb;rw[Q50 h2,h i hi h1];exact hb
theorem K100{qs:List Nat}(e:D0 H nx H' nx')(hq:∀ q ∈ qs,nx<=q):D0 H nx (D6 H' qs) nx':=
 ⟨e.le,fun i hi=>by rw[Q50 (fun hm=>by have:=hq i hm;omega)];exact e.get i hi⟩
theorem X65{P:Program}{f:FuncId}{args:List Value}{qs:List Nat}{Q:EP}(hq:∀ q ∈ qs,q<nx)(h:Q2 P f args (D6 H qs) nx Q)(hQ:∀ v H0 nx',Q v H0 nx'->D0 (D6 H qs) nx H0 nx')
  (hk:∀ v H' nx' H0,Q v H0 nx'->D0 H nx H' nx'->Sub H0 nx' (D6 H' qs)->Top H' nx'->k v H' nx'):Y2 P f args H nx k:=by
 refine G84 N68 h hQ fun v H' nx' H0 E hE hS hT=>hk v H' nx' H0 E hE (fun i b hi hb => ?_) hT
 have J:=hQ _ _ _ E;have h1:i ∉ qs:=fun hm=>by rw[J.get i (hq i hm),U73 hm] at hb;cases hb
 rw[Q50 h1];exact hS i b hi hb
end
end Go.Clo
namespace Go.Proofs.YtoiioigihocgbaaGreatDoor
open Go.Clo
section
variable (a0 a1 a2 a3 a4 a5:Value) (H:Y0) (nx:Nat) (k:EP)
def F44:Prop:=
 M2 (nx+19) fun b=>
 D10 .shr a0 (.int .u64 24) fun c=>
 D9 .sidx [(.string ⟨#[0,1,1,2,1,2,2,3,1,2,2,3,2,3,3,4,1,2,2,3,2,3,3,4,2,3,3,4,3,4,4,5,1,2,2,3,2,3,3,4,2,3,3,4,3,4,4,5,2,3,3,4,3,4,4,5,3,4,4,5,4,5,5,6,1,2,2,3,2,3,3,4,2,3,3,4,3,4,4,5,2,3,3,4,3,4,4,5,3,4,4,5,4,5,5,6,2,3,3,4,3,4,4,5,3,4,4,5,4,5,5,6,3,4,4,5,4,5,5,6,4,5,5,6,5,6,6,7,1,2,2,3,2,3,3,4,2,3,3,4,3,4,4,5,2,3,3,4,3,4,4,5,3,4,4,5,4,5,5,6,2,3,3,4,3,4,4,5,3,4,4,5,4,5,5,6,3,4,4,5,4,5,5,6,4,5,5,6,5,6,6,7,2,3,3,4,3,4,4,5,3,4,4,5,4,5,5,6,3,4,4,5,4,5,5,6,4,5,5,6,5,6,6,7,3,4,4,5,4,5,5,6,4,5,5,6,5,6,6,7,4,5,5,6,5,6,6,7,5,6,6,7,6,7,7,8]⟩),c] fun c=>
 D10 .shr a0 (.int .u64 16) fun d=>
 D10 .and d (.int .u32 255) fun d=>
 D9 .sidx [(.string ⟨#[0,1,1,2,1,2,2,3,1,2,2,3,2,3,3,4,1,2,2,3,2,3,3,4,2,3,3,4,3,4,4,5,1,2,2,3,2,3,3,4,2,3,3,4,3,4,4,5,2,3,3,4,3,4,4,5,3,4,4,5,4,5,5,6,1,2,2,3,2,3,3,4,2,3,3,4,3,4,4,5,2,3,3,4,3,4,4,5,3,4,4,5,4,5,5,6,2,3,3,4,3,4,4,5,3,4,4,5,4,5,5,6,3,4,4,5,4,5,5,6,4,5,5,6,5,6,6,7,1,2,2,3,2,3,3,4,2,3,3,4,3,4,4,5,2,3,3,4,3,4,4,5,3,4,4,5,4,5,5,6,2,3,3,4,3,4,4,5,3,4,4,5,4,5,5,6,3,4,4,5,4,5,5,6,4,5,5,6,5,6,6,7,2,3,3,4,3,4,4,5,3,4,4,5,4,5,5,6,3,4,4,5,4,5,5,6,4,5,5,6,5,6,6,7,3,4,4,5,4,5,5,6,4,5,5,6,5,6,6,7,4,5,5,6,5,6,6,7,5,6,6,7,6,7,7,8]⟩),d] fun d=>
 D10 .add c d fun c=>
 D10 .shr a0 (.int .u64 8) fun d=>
 D10 .and d (.int .u32 255) fun d=>
 D9 .sidx [(.string ⟨#[0,1,1,2,1,2,2,3,1,2,2,3,2,3,3,4,1,2,2,3,2,3,3,4,2,3,3,4,3,4,4,5,1,2,2,3,2,3,3,4,2,3,3,4,3,4,4,5,2,3,3,4,3,4,4,5,3,4,4,5,4,5,5,6,1,2,2,3,2,3,3,4,2,3,3,4,3,4,4,5,2,3,3,4,3,4,4,5,3,4,4,5,4,5,5,6,2,3,3,4,3,4,4,5,3,4,4,5,4,5,5,6,3,4,4,5,4,5,5,6,4,5,5,6,5,6,6,7,1,2,2,3,2,3,3,4,2,3,3,4,3,4,4,5,2,3,3,4,3,4,4,5,3,4,4,5,4,5,5,6,2,3,3,4,3,4,4,5,3,4,4,5,4,5,5,6,3,4,4,5,4,5,5,6,4,5,5,6,5,6,6,7,2,3,3,4,3,4,4,5,3,4,4,5,4,5,5,6,3,4,4,5,4,5,5,6,4,5,5,6,5,6,6,7,3,4,4,5,4,5,5,6,4,5,5,6,5,6,6,7,4,5,5,6,5,6,6,7,5,6,6,7,6,7,7,8]⟩),d] fun d=>
 D10 .add c d fun c=>
 D10 .and a0 (.int .u32 255) fun d=>
 D9 .sidx [(.string ⟨#[0,1,1,2,1,2,2,3,1,2,2,3,2,3,3,4,1,2,2,3,2,3,3,4,2,3,3,4,3,4,4,5,1,2,2,3,2,3,3,4,2,3,3,4,3,4,4,5,2,3,3,4,3,4,4,5,3,4,4,5,4,5,5,6,1,2,2,3,2,3,3,4,2,3,3,4,3,4,4,5,2,3,3,4,3,4,4,5,3,4,4,5,4,5,5,6,2,3,3,4,3,4,4,5,3,4,4,5,4,5,5,6,3,4,4,5,4,5,5,6,4,5,5,6,5,6,6,7,1,2,2,3,2,3,3,4,2,3,3,4,3,4,4,5,2,3,3,4,3,4,4,5,3,4,4,5,4,5,5,6,2,3,3,4,3,4,4,5,3,4,4,5,4,5,5,6,3,4,4,5,4,5,5,6,4,5,5,6,5,6,6,7,2,3,3,4,3,4,4,5,3,4,4,5,4,5,5,6,3,4,4,5,4,5,5,6,4,5,5,6,5,6,6,7,3,4,4,5,4,5,5,6,4,5,5,6,5,6,6,7,4,5,5,6,5,6,6,7,5,6,6,7,6,7,7,8]⟩),d] fun d=>
 D10 .add c d fun c=>
 W8 .i64 c fun d=>
 wK (tB (tB (W8 .i64 c fun b=>b=d))) (
 Rt d H b k)
def F61:Prop:=
 D10 .shl (.int .u64 1) a0 fun b=>
 D10 .sub b (.int .u64 1) fun b=>
 W8 .u32 b fun b=>
 Rt b H nx k
def F70:Prop:=
 M12 a0 H nx fun b c d=>
 V4 (fun e=>
 J1 b (some 2) c fun f=>
 Y2 Tryz.prog 27 [f] c d fun c d f=>
 D10 .neq c i0 fun c=>
 K3 false c (
 D10 .lss a1 i0 fun c=>
 K3 false c (
 wFl b 0 d fun _ b=>
 D10 .geq a1 b fun b=>
 e [b] d f) (
 e [bT] d f)) (
 e [bT] d f)) (fun c d e=>
 K2 c.a (
 Rt u0 d e k) (
 J1 b (some 2) d fun b=>
 Y2 Tryz.prog 29 [b] d e fun b c d=>
 D65 b a1 32 1 false fun b=>
 Rt b c d k))
def F106:Prop:=
 J1 a1 none H fun b=>
 D10 .andNot b a0 fun b=>
 D10 .eql b u0 fun b=>
 Rt b H nx k
def F90:Prop:=
 M12 a0 H nx fun b c d=>
 M12 a1 c d fun c d e=>
 J1 b (some 2) d fun f=>
 Y2 Tryz.prog 27 [f] d e fun d e f=>
 D10 .neq d i0 fun d=>
 K2 d (
 Rt (.tuple ⟨[i0,bF]⟩) e f k) (
 wFl b 1 e fun _ b=>
 Y2 Tryz.prog 88 [b,(.func (.func 106) ⟨[]⟩ ⟨[c]⟩)] e f fun b c d=>
 D9 (.mm true) [b,i0] fun e=>
 D10 .geq b i0 fun b=>
 Rt (.tuple ⟨[e,b]⟩) c d k)
def F41:Prop:=
 D10 .shl (.int .u64 1) a0 fun b=>
 D10 .sub b (.int .u64 1) fun b=>
 W8 .u32 b fun b=>
 Rt b H nx k
def F27:Prop:=
 M12 a0 H nx fun b c d=>
 V4 (fun e=>
 wFl b 0 c fun _ f=>
 D10 .lss f i0 fun f=>
 K3 false f (
 wFl b 0 c fun _ b=>
 D10 .gtr b (.int .i64 32) fun b=>
 e [b] c d) (
 e [bT] c d)) (fun c d e=>
 K2 c.a (
 Rt (.int .i64 3) d e k) (
 wFl b 1 d fun _ c=>
 R4 c 0 d fun c=>
 D10 .gtr c (.int .i64 64) fun c=>
 K2 c (
 Rt (.int .i64 12) d e k) (
 wFl b 1 d fun _ c=>
 R4 c 0 d fun f=>
 G3 (fun d e g h=>
 D10 .lss e.a f fun f=>
 K2 f (
 U6 c e.a g fun _ c=>
 wFl b 0 g fun _ b=>
 Y2 Tryz.prog 61 [b] g h fun b f g=>
 D10 .andNot c b fun b=>
 D10 .neq b u0 fun b=>
 K2 b (
 Rt i1 f g k) (
 D10 .add e.a i1 fun b=>
 d [b] f g)) (
 Rt i0 g h k)) [i0] d e)))
def F40:Prop:=
 M12 a0 H nx fun b c d=>
 J1 b (some 2) c fun e=>
 Y2 Tryz.prog 27 [e] c d fun c d e=>
 D10 .neq c i0 fun f=>
 K2 f (
 Rt c d e k) (
 V4 (fun c=>
 D10 .lss a1 i0 fun f=>
 K3 false f (
 wFl b 0 d fun _ b=>
 D10 .gtr a1 b fun b=>
 c [b] d e) (
 c [bT] d e)) (fun b c d=>
 K2 b.a (
 Rt (.int .i64 3) c d k) (
 Rt i0 c d k)))
def F45:Prop:=
 M12 a0 H nx fun b c d=>
 wAl z32 c d fun c d e=>
 wAl z32 d e fun d e f=>
 wFl b 0 e fun _ g=>
 G3 (fun e f h i=>
 D10 .lss f.a g fun g=>
 K2 g (
 J1 b (some 2) h fun b=>
 Y2 Tryz.prog 70 [b,f.a] h i fun b c g=>
 M3 d f.a (some 32) 1 fun d=>
 D5 d b 1 c fun b=>
 D10 .add f.a i1 fun c=>
 e [c] b g) (
 J1 d (some 32) h fun b=>
 D5 c b 32 h fun b=>
 J1 c (some 32) b fun c=>
 Rt c b i k)) [i0] e f
def F76:Prop:=
 M12 a0 H nx fun b c d=>
 J1 b (some 2) c fun e=>
 Y2 Tryz.prog 40 [e,a1] c d fun c d e=>
 D10 .neq c i0 fun f=>
 K2 f (
 Rt (.tuple ⟨[(.slice none 0 0),c]⟩) d e k) (
 R4 a2 0 d fun c=>
 G3 (fun d e f g=>
 D10 .lss e.b c fun c=>
 K2 c (
 U6 a2 e.b f fun _ c=>
 V4 (fun d=>
 D10 .lss c a1 fun h=>
 K3 false h (
 wFl b 0 f fun _ b=>
 D10 .geq c b fun b=>
 K3 false b (
 D10 .shr e.a c fun b=>
 D10 .and b u1 fun b=>
 D10 .eql b u1 fun b=>
 d [b] f g) (
 d [bT] f g)) (
 d [bT] f g)) (fun b f g=>
 K2 b.a (
 Rt (.tuple ⟨[(.slice none 0 0),i1]⟩) f g k) (
 D10 .shl u1 c fun b=>
 D10 .or e.a b fun b=>
 D10 .add e.b i1 fun c=>
 d [b,c] f g))) (
 R4 a2 0 f fun c=>
 wFl b 0 f fun _ d=>
 D10 .sub d a1 fun d=>
 D10 .neq c d fun c=>
 K2 c (
 Rt (.tuple ⟨[(.slice none 0 0),i1]⟩) f g k) (
 wAl [.int .i64 0,.int .i64 0,.int .i64 0,.int .i64 0,.int .i64 0,.int .i64 0,.int .i64 0,.int .i64 0,.int .i64 0,.int .i64 0,.int .i64 0,.int .i64 0,.int .i64 0,.int .i64 0,.int .i64 0,.int .i64 0,.int .i64 0,.int .i64 0,.int .i64 0,.int .i64 0,.int .i64 0,.int .i64 0,.int .i64 0,.int .i64 0,.int .i64 0,.int .i64 0,.int .i64 0,.int .i64 0,.int .i64 0,.int .i64 0,.int .i64 0,.int .i64 0] f g fun c d e=>
 wAl [.int .i64 0,.int .i64 0,.int .i64 0,.int .i64 0,.int .i64 0,.int .i64 0,.int .i64 0,.int .i64 0,.int .i64 0,.int .i64 0,.int .i64 0,.int .i64 0,.int .i64 0,.int .i64 0,.int .i64 0,.int .i64 0,.int .i64 0,.int .i64 0,.int .i64 0,.int .i64 0,.int .i64 0,.int .i64 0,.int .i64 0,.int .i64 0,.int .i64 0,.int .i64 0,.int .i64 0,.int .i64 0,.int .i64 0,.int .i64 0,.int .i64 0,.int .i64 0] d e fun d e f=>
 D90 c 32 1 none none none fun g=>
 M82 g a2 1 e f fun _ e f=>
 G3 (fun e f g h=>
 D10 .lss f.a a1 fun i=>
 K2 i (
 R4 a2 0 g fun b=>
 D10 .add b f.a fun b=>
 D10 .sub a1 i1 fun d=>
 D10 .sub d f.a fun d=>
 M3 c b (some 32) 1 fun b=>
 D5 b d 1 g fun b=>
 D10 .add f.a i1 fun c=>
 e [c] b h) (
 wFl b 0 g fun _ e=>
 G3 (fun f g h i=>
 D10 .lss g.a e fun e=>
 K2 e (
 M3 c g.a (some 32) 1 fun b=>
 J1 b none h fun b=>
 M3 d b (some 32) 1 fun b=>
 D5 b g.a 1 h fun b=>
 D10 .add g.a i1 fun c=>
 f [c] b i) (
 J1 b (some 2) h fun e=>
 Y2 Tryz.prog 45 [e] h i fun e f g=>
 wAl z32 f g fun f g h=>
 D5 f e 32 g fun e=>
 wFl b 0 e fun _ g=>
 G29 g g [.int .i64 0,.int .u32 0,.int .i64 0] e h fun e g h=>
 wFl b 0 g fun _ i=>
 G3 (fun g h j l=>
 D10 .lss h.a i fun i=>
 K2 i (
 M3 c h.a (some 32) 1 fun c=>
 J1 c none j fun c=>
 M3 f c (some 32) 1 fun i=>
 J1 i none j fun i=>
 U11 [.int .i64 0,.int .u32 0,.int .i64 0] [(0,1),(1,1),(2,1)] [(0,c),(1,i),(2,(.int .i64 (-1)))] fun i=>
 wAl [.int .i64 0,.int .u32 0,.int .i64 0] j l fun j l m=>
 D5 j i 3 l fun i=>
 wFl b 0 i fun _ b=>
 G3 (fun i l m n=>
 D10 .lss l.a b fun b=>
 K2 b (
 V4 (fun b=>
 wFl j 1 m fun _ e=>
 D10 .shr e l.a fun e=>
 D10 .and e u1 fun e=>
 D10 .eql e u0 fun e=>
 K2 e (
 b [] m n) (
 V4 (fun b=>
 V4 (fun b=>
 M2 (n+13) fun c=>
 wFl j 2 m fun e f=>
 D10 .lss f i0 fun g=>
 K3 false g (
 M3 d l.a (some 32) 1 fun g=>
 J1 g none m fun h=>
 wFl j 2 m fun i j=>
 M3 d j (some 32) 1 fun d=>
 J1 d none m fun l=>
 D10 .lss h l fun n=>
 wK ((tB (cE d none m l))/\((tB (cE i none m j))/\((tB (cE g none m h))/\(tB (tB (cE e none m f)))))) (
 b [n] m c)) (
 wK (tB (tB (cE e none m f))) (
 b [bT] m c))) (fun c d e=>
 K2 c.a (
 B4 j 2 fun c=>
 D5 c l.a 1 d fun c=>
 b [] c e) (
 b [] d e))) (fun _ d e=>
 M2 (e+15) fun e=>
 M3 f l.a (some 32) 1 fun g=>
 J1 g none d fun h=>
 wFl j 1 d fun i j=>
 D10 .or h j fun m=>
 D10 .shl u1 l.a fun n=>
 D10 .shl u1 c fun c=>
 D10 .or n c fun c=>
 D10 .andNot m c fun c=>
 M3 f l.a (some 32) 1 fun f=>
 D5 f c 1 d fun c=>
 wK ((tA (tB (cE i none d j)))/\(tB (tA (tB (cE g none d h))))) (
 b [] c e)))) (fun _ b c=>
 D10 .add l.a i1 fun d=>
 i [d] b c)) (
 J1 j (some 3) m fun b=>
 M3 e c none 3 fun c=>
 D5 c b 3 m fun b=>
 D10 .add h.a i1 fun c=>
 g [c] b n)) [i0] i m) (
 Rt (.tuple ⟨[e,i0]⟩) j l k)) [i0] g h)) [i0] g h)) [i0] e f))) [u0,i0] d e)
def F78:Prop:=
 M12 a0 H nx fun b c d=>
 V4 (fun e=>
 wFl b 0 c fun _ f=>
 D10 .lss f i0 fun f=>
 K3 false f (
 wFl b 0 c fun _ b=>
 D10 .geq b (.int .i64 32) fun b=>
 e [b] c d) (
 e [bT] c d)) (fun c d e=>
 K2 c.a (
 wFl b 1 d fun _ b=>
 Rt b d e k) (
 M2 (e+7) fun c=>
 wFl b 1 d fun e f=>
 wFl b 0 d fun b g=>
 D10 .shl u1 g fun h=>
 D10 .or f h fun h=>
 wK ((tB (cE b none d g))/\(tB (tB (cE e none d f)))) (
 Rt h d c k)))
def F47:Prop:=
 M12 a0 H nx fun b c d=>
 M12 a1 c d fun c d e=>
 wAl zR d e fun d e f=>
 J1 b (some 3) e fun g=>
 J1 c (some 3) e fun h=>
 Y2 Tryz.prog 79 [g,h] e f fun e f g=>
 D10 .lss e i0 fun e=>
 K2 e (
 J1 c (some 3) f fun b=>
 Y2 Tryz.prog 80 [b] f g fun b c e=>
 D5 d b 3 c fun b=>
 J1 d (some 3) b fun c=>
 Rt c b e k) (
 J1 b (some 3) f fun b=>
 Y2 Tryz.prog 80 [b] f g fun b c e=>
 D5 d b 3 c fun b=>
 J1 d (some 3) b fun c=>
 Rt c b e k)
def F77:Prop:=
 wAl zR H nx fun b c d=>
 C70 a0 fun e=>
 C81 e 0 2 c fun _ e=>
 Y2 Tryz.prog 90 [e,a1] c d fun c d e=>
 G9 c 0 fun _=>
 G9 c 1 fun c=>
 K2 c (
 Y2 Tryz.prog 75 [i1] d e fun c d e=>
 D5 b c 3 d fun c=>
 J1 b (some 3) c fun b=>
 Rt b c e k) (
 C70 a0 fun c=>
 wFl c 34 d fun _ c=>
 wLk (.int .u32) (.agg ⟨zR⟩) c a1 true d fun c=>
 G9 c 0 fun f=>
 G9 c 1 fun c=>
 wAl zR d e fun d e g=>
 D5 d f 3 e fun e=>
 V4 (fun b=>
 wUn .not c fun c=>
 K2 c (
 C70 a0 fun c=>
 C81 c 0 2 e fun _ c=>
 Y2 Tryz.prog 95 [c,a1] e g fun c e f=>
 G9 c 0 fun g=>
 G9 c 1 fun _=>
 wAl [.slice none 0 0,.slice none 0 0,.bool false,.slice none 0 0,.slice none 0 0] e f fun c e f=>
 D5 c g 5 e fun e=>
 C81 c 2 3 e fun _ c=>
 D5 d c 3 e fun c=>
 M2 (f+7) fun e=>
 C70 a0 fun f=>
 wFl f 34 c fun f g=>
 J1 d (some 3) c fun h=>
 W56 (.int .u32) g a1 h c e fun _ e i=>
 wK ((tA (tB (cE d (some 3) c h)))/\(tB (tA (tB (cE f none c g))))) (
 b [] e i)) (
 b [] e g)) (fun _ c e=>
 J1 d (some 3) c fun d=>
 D5 b d 3 c fun c=>
 J1 b (some 3) c fun b=>
 Rt b c e k))
def F46:Prop:=
 wAl zR H nx fun b c d=>
 G3 (fun c d e f=>
 C70 a0 fun g=>
 B4 g 0 fun g=>
 wFl g 0 e fun _ g=>
 D10 .lss d.b g fun g=>
 K2 g (
 D24 1 1 [.int .i64 0] [(0,d.b)] e f fun b e f=>
 B5 d.a b 1 8 e f fun b e f=>
 D10 .add d.b i1 fun d=>
 c [b,d] e f) (
 Y2 Tryz.prog 75 [i0] e f fun c e f=>
 wAl zR e f fun e f g=>
 D5 e c 3 f fun c=>
 C70 a0 fun f=>
 C81 f 0 2 c fun _ f=>
 Y2 Tryz.prog 76 [f,a1,d.a] c g fun c d f=>
 G9 c 0 fun g=>
 G9 c 1 fun _=>
 wSl g 3 none (some a1) none d fun c=>
 R4 c 0 d fun g=>
 G3 (fun d f h i=>
 D10 .lss f.a g fun g=>
 K2 g (
 B15 c f.a 3 h fun _ b=>
 wAl [.int .i64 0,.int .u32 0,.int .i64 0] h i fun c g h=>
 D5 c b 3 g fun b=>
 M2 (h+7) fun g=>
 J1 e (some 3) b fun h=>
 J1 c (some 3) b fun i=>
 Y2 Tryz.prog 78 [i] b g fun g j l=>
 Y2 Tryz.prog 77 [a0,g] j l fun g l m=>
 Y2 Tryz.prog 47 [h,g] l m fun g m n=>
 D5 e g 3 m fun g=>
 wK ((tA (tA (tA (tA (tB (cE c (some 3) b i))))))/\(tB (tA (tA ((cE e (some 3) l h)/\((cE e (some 3) j h)/\(tB (cE e (some 3) b h)))))))) (
 D10 .add f.a i1 fun b=>
 d [b] g n)) (
 J1 e (some 3) h fun c=>
 D5 b c 3 h fun c=>
 J1 b (some 3) c fun b=>
 Rt b c i k)) [i0] d f)) [(.slice none 0 0),a1] c d
def F81:Prop:=
 D10 .andNot a2 a3 fun b=>
 M2 (nx+4) fun c=>
 D10 .shl u1 a1 fun d=>
 wK True (
 G3 (fun c d e f=>
 D10 .neq d.b u0 fun g=>
 K2 g (
 Y2 Tryz.prog 73 [d.b] e f fun e f g=>
 D10 .shl u1 e fun h=>
 D10 .andNot d.b h fun h=>
 D10 .shl u1 e fun i=>
 D10 .or d.a i fun d=>
 V4 (fun c=>
 D10 .eql e a1 fun d=>
 K3 false d (
 D10 .shr b e fun b=>
 D10 .and b u1 fun b=>
 D10 .eql b u1 fun b=>
 c [b] f g) (
 c [bT] f g)) (fun b f g=>
 K2 b.a (
 C70 a0 fun b=>
 B4 b 2 fun b=>
 M3 b e (some 32) 1 fun b=>
 J1 b none f fun b=>
 D10 .andNot b d fun b=>
 D10 .or h b fun b=>
 c [d,b] f g) (
 c [d,h] f g))) (
 D10 .andNot d.a b fun b=>
 Rt b e f k)) [u0,d] H c)
def F48:Prop:=
 wAl zR H nx fun b c d=>
 D10 .eql a2 u0 fun e=>
 K2 e (
 Y2 Tryz.prog 75 [i0] c d fun c d e=>
 D5 b c 3 d fun c=>
 J1 b (some 3) c fun b=>
 Rt b c e k) (
 C70 a0 fun e=>
 wFl e 35 c fun _ e=>
 wLk (.int .u32) (.agg ⟨zR⟩) e a2 true c fun e=>
 G9 e 0 fun f=>
 G9 e 1 fun e=>
 wAl zR c d fun c d g=>
 D5 c f 3 d fun d=>
 K2 e (
 J1 c (some 3) d fun c=>
 D5 b c 3 d fun c=>
 J1 b (some 3) c fun b=>
 Rt b c g k) (
 wAl zR d g fun c d e=>
 C70 a0 fun f=>
 B4 f 0 fun f=>
 wFl f 0 d fun _ f=>
 G3 (fun d e g h=>
 D10 .lss e.b f fun f=>
 K2 f (
 V4 (fun b=>
 D10 .shr a2 e.b fun d=>
 D10 .and d u1 fun d=>
 D10 .eql d u0 fun d=>
 K2 d (
 b [e.a] g h) (
 D10 .shl u1 e.b fun d=>
 D10 .andNot a2 d fun d=>
 Y2 Tryz.prog 48 [a0,a1,d] g h fun d f g=>
 wAl zR f g fun f g h=>
 D5 f d 3 g fun d=>
 V4 (fun b=>
 K3 true e.a (
 J1 f (some 3) d fun e=>
 J1 c (some 3) d fun c=>
 Y2 Tryz.prog 79 [e,c] d h fun c d e=>
 D10 .geq c i0 fun c=>
 b [c] d e) (
 b [bF] d h)) (fun d g h=>
 K2 d.a (
 b [e.a] g h) (
 M2 (h+10) fun d=>
 J1 f (some 3) g fun h=>
 Y2 Tryz.prog 81 [a0,e.b,a1,a2] g d fun d i j=>
 Y2 Tryz.prog 77 [a0,d] i j fun d j l=>
 Y2 Tryz.prog 47 [h,d] j l fun d l m=>
 D5 f d 3 l fun d=>
 wK (tB (tA (tA ((cE f (some 3) j h)/\((cE f (some 3) i h)/\(tB (cE f (some 3) g h))))))) (
 V4 (fun b=>
 wUn .not e.a fun e=>
 K3 false e (
 J1 f (some 3) d fun e=>
 J1 c (some 3) d fun c=>
 Y2 Tryz.prog 79 [e,c] d m fun c d e=>
 D10 .lss c i0 fun c=>
 b [c] d e) (
 b [bT] d m)) (fun d g h=>
 K2 d.a (
 J1 f (some 3) g fun d=>
 D5 c d 3 g fun c=>
 b [bT] c h) (
 b [e.a] g h))))))) (fun b c f=>
 D10 .add e.b i1 fun e=>
 d [b.a,e] c f)) (
 M2 (h+7) fun d=>
 C70 a0 fun e=>
 wFl e 35 g fun e f=>
 J1 c (some 3) g fun h=>
 W56 (.int .u32) f a2 h g d fun _ d i=>
 wK ((tA (tB (cE c (some 3) g h)))/\(tB (tA (tB (cE e none g f))))) (
 J1 c (some 3) d fun c=>
 D5 b c 3 d fun c=>
 J1 b (some 3) c fun b=>
 Rt b c i k))) [bF,i0] d e))
def F82:Prop:=
 M2 (nx+45) fun b=>
 J1 a2 none H fun c=>
 U6 c a0 H fun d e=>
 D10 .shr e a1 fun f=>
 D10 .and f u1 fun f=>
 D10 .eql f u1 fun f=>
 K3 true f (
 J1 a3 none H fun f=>
 J1 a3 none H fun g=>
 J1 a4 none H fun h=>
 U6 h a0 H fun i j=>
 J1 a2 none H fun l=>
 U6 l a0 H fun m n=>
 Y2 Tryz.prog 81 [g,a1,j,n] H b fun b o p=>
 Y2 Tryz.prog 77 [f,b] o p fun b p q=>
 J1 a5 (some 3) p fun r=>
 Y2 Tryz.prog 79 [b,r] p q fun b q s=>
 D10 .leq b i0 fun b=>
 K3 true b (
 J1 a3 none q fun b=>
 J1 a4 none q fun t=>
 U6 t a0 q fun u v=>
 J1 a2 none q fun w=>
 U6 w a0 q fun x y=>
 D10 .shl u1 a1 fun z=>
 D10 .andNot y z fun z=>
 Y2 Tryz.prog 48 [b,v,z] q s fun s z A=>
 J1 a5 (some 3) z fun B=>
 Y2 Tryz.prog 79 [s,B] z A fun s A C=>
 D10 .leq s i0 fun s=>
 wK ((tA ((cE a5 (some 3) z B)/\(tB (cE a5 (some 3) q B))))/\((tA (tA (tB (cE x none q y))))/\((tA (tA (tB (cE a2 none q w))))/\((tA (tA (tB (cE u none q v))))/\((tA (tA (tB (cE a4 none q t))))/\((tA (tA (tB (cE a3 none q b))))/\((tA (tA (tA ((cE a5 (some 3) p r)/\((cE a5 (some 3) o r)/\(tB (cE a5 (some 3) H r)))))))/\((tA (tA (tA (tA (tA (tB (cE m none H n)))))))/\((tA (tA (tA (tA (tA (tB (cE a2 none H l)))))))/\((tA (tA (tA (tA (tA (tB (cE i none H j)))))))/\((tA (tA (tA (tA (tA (tB (cE a4 none H h)))))))/\((tA (tA (tA (tA (tA (tB (cE a3 none H g)))))))/\((tA (tA (tA (tA ((cE a3 none o f)/\(tB (cE a3 none H f)))))))/\((tA (tA (tA (tA (tA (tB (cE d none H e)))))))/\(tB (tA (tA (tA (tA (tA (tB (cE a2 none H c)))))))))))))))))))))) (
 Rt s A C k)) (
 wK ((tA ((cE a5 (some 3) p r)/\((cE a5 (some 3) o r)/\(tB (cE a5 (some 3) H r)))))/\((tA (tA (tA (tB (cE m none H n)))))/\((tA (tA (tA (tB (cE a2 none H l)))))/\((tA (tA (tA (tB (cE i none H j)))))/\((tA (tA (tA (tB (cE a4 none H h)))))/\((tA (tA (tA (tB (cE a3 none H g)))))/\((tA (tA ((cE a3 none o f)/\(tB (cE a3 none H f)))))/\((tA (tA (tA (tB (cE d none H e)))))/\(tB (tA (tA (tA (tB (cE a2 none H c)))))))))))))) (
 Rt bF q s k))) (
 wK ((tB (cE d none H e))/\(tB (tB (cE a2 none H c)))) (
 Rt bF H b k))
def F49:Prop:=
 M12 a0 H nx fun b c d=>
 M12 a1 c d fun c d e=>
 M12 a2 d e fun d e f=>
 J1 c none e fun g=>
 R4 g 0 e fun g=>
 G29 g g [.int .u32 0] e f fun e f g=>
 wAl [.slice none 0 0] f g fun f g h=>
 D5 f e 1 g fun e=>
 J1 c none e fun g=>
 R4 g 0 e fun i=>
 G3 (fun e h j l=>
 D10 .lss h.b i fun i=>
 K2 i (
 U6 g h.b j fun _ b=>
 J1 f none j fun c=>
 M3 c h.b none 1 fun c=>
 D5 c b 1 j fun c=>
 Y2 Tryz.prog 44 [b] c l fun b c d=>
 D10 .add h.a b fun b=>
 D10 .add h.b i1 fun f=>
 e [b,f] c d) (
 G3 (fun e g i j=>
 D10 .lss g.b h.a fun h=>
 K2 h (
 V4 (fun e=>
 J1 b none i fun h=>
 C70 h fun h=>
 B4 h 0 fun h=>
 wFl h 0 i fun _ h=>
 G3 (fun g i j l=>
 D10 .lss i.b h fun h=>
 K2 h (
 J1 f none j fun h=>
 R4 h 0 j fun h=>
 G3 (fun j l m n=>
 D10 .lss l.b h fun h=>
 K2 h (
 M33 Tryz.prog (.func (.func 82) ⟨[]⟩ ⟨[f,b,c,d]⟩) [l.b,i.b] m n fun b c d=>
 K2 b (
 D24 1 1 [.int .i64 0] [(0,i.b)] c d fun b c d=>
 B5 l.a b 1 8 c d fun b c d=>
 M2 (d+9) fun d=>
 J1 f none c fun g=>
 U6 g l.b c fun h j=>
 D10 .shl u1 i.b fun i=>
 D10 .andNot j i fun i=>
 M3 g l.b none 1 fun l=>
 D5 l i 1 c fun i=>
 wK ((tA (tB (cE h none c j)))/\(tB (tA (tB (cE f none c g))))) (
 e [b] i d)) (
 D10 .add l.b i1 fun b=>
 j [l.a,b] c d)) (
 D10 .add i.b i1 fun b=>
 g [l.a,b] m n)) [i.a,i0] j l) (
 e [i.a] j l)) [g.a,i0] i j) (fun b c d=>
 D10 .add g.b i1 fun f=>
 e [b.a,f] c d)) (
 Rt g.a i j k)) [(.slice none 0 0),i0] j l)) [i0,i0] e h
def F43:Prop:=
 M12 a0 H nx fun b c d=>
 wAl [.int .i64 0,.slice none 0 0] c d fun c d e=>
 J1 b (some 2) d fun f=>
 Y2 Tryz.prog 27 [f] d e fun d e f=>
 D10 .neq d i0 fun d=>
 K2 d (
 U11 [.int .i64 0,.slice none 0 0] [(0,1),(1,1)] [] fun b=>
 D5 c b 2 e fun b=>
 J1 c (some 2) b fun c=>
 Rt c b f k) (
 wFl b 0 e fun _ d=>
 U11 [.int .i64 0,.slice none 0 0] [(0,1),(1,1)] [(0,d)] fun d=>
 wAl [.int .i64 0,.slice none 0 0] e f fun e f g=>
 D5 e d 2 f fun d=>
 wFl b 1 d fun _ b=>
 R4 b 0 d fun f=>
 G3 (fun d g h i=>
 D10 .lss g.a f fun f=>
 K2 f (
 V4 (fun c=>
 U6 b g.a h fun _ b=>
 D10 .and b a1 fun d=>
 D10 .neq d u0 fun d=>
 K2 d (
 wFl e 1 h fun _ d=>
 D10 .and b a1 fun b=>
 D24 1 1 [.int .u32 0] [(0,b)] h i fun b f g=>
 B5 d b 1 4 f g fun b d f=>
 B4 e 1 fun e=>
 D5 e b 1 d fun b=>
 c [] b f) (
 c [] h i)) (fun _ b c=>
 D10 .add g.a i1 fun e=>
 d [e] b c)) (
 J1 e (some 2) h fun b=>
 D5 c b 2 h fun b=>
 J1 c (some 2) b fun c=>
 Rt c b i k)) [i0] d g)
def F42:Prop:=
 M12 a0 H nx fun b c d=>
 J1 b (some 2) c fun e=>
 Y2 Tryz.prog 27 [e] c d fun c d e=>
 D10 .neq c i0 fun c=>
 K2 c (
 Rt (.slice none 0 0) d e k) (
 J1 b (some 2) d fun c=>
 Y2 Tryz.prog 29 [c] d e fun c d e=>
 wAl z32 d e fun d e f=>
 D5 d c 32 e fun c=>
 wFl b 0 c fun _ e=>
 Y2 Tryz.prog 61 [e] c f fun c e f=>
 G3 (fun c e f g=>
 D10 .neq e.b u0 fun h=>
 K2 h (
 wUn .neg e.b fun h=>
 D10 .and e.b h fun h=>
 G3 (fun f g h i=>
 D10 .neq g.b u0 fun j=>
 K2 j (
 D10 .or g.a g.b fun c=>
 wFl b 0 h fun _ b=>
 G3 (fun e h i j=>
 D10 .lss h.b b fun b=>
 K2 b (
 V4 (fun b=>
 D10 .shr g.b h.b fun c=>
 D10 .and c u1 fun c=>
 D10 .eql c u1 fun c=>
 K2 c (
 M3 d h.b (some 32) 1 fun c=>
 J1 c none i fun c=>
 D10 .or h.a c fun c=>
 b [c] i j) (
 b [h.a] i j)) (fun b c d=>
 D10 .add h.b i1 fun f=>
 e [b.a,f] c d)) (
 D10 .andNot h.a c fun b=>
 f [c,b] i j)) [u0,i0] h i) (
 D24 1 1 [.int .u32 0] [(0,g.a)] h i fun b d f=>
 B5 e.a b 1 4 d f fun b d f=>
 D10 .andNot e.b g.a fun e=>
 c [b,e] d f)) [u0,h] f g) (
 Rt e.a f g k)) [(.slice none 0 0),c] e f)
def F16:Prop:=
 M12 a0 H nx fun b c d=>
 wAl zR c d fun c d e=>
 J1 b (some 2) d fun f=>
 Y2 Tryz.prog 40 [f,a1] d e fun d e f=>
 D10 .neq d i0 fun g=>
 K2 g (
 U11 zR [(0,1),(1,1),(2,1)] [] fun b=>
 D5 c b 3 e fun b=>
 J1 c (some 3) b fun c=>
 Rt (.tuple ⟨[(.slice none 0 0),c,d]⟩) b f k) (
 wFl b 0 e fun _ d=>
 Y2 Tryz.prog 41 [d] e f fun d e f=>
 Y2 Tryz.prog 41 [a1] e f fun e f g=>
 D10 .andNot d e fun d=>
 J1 b (some 2) f fun e=>
 Y2 Tryz.prog 43 [e,d] f g fun e f g=>
 Y2 Tryz.prog 42 [e] f g fun e f g=>
 R4 e 0 f fun h=>
 G3 (fun f g i j=>
 D10 .lss g.b h fun h=>
 K2 h (
 V4 (fun b=>
 U6 e g.b i fun _ e=>
 D10 .and e d fun d=>
 D10 .eql d u0 fun d=>
 K2 d (
 b [g.a] i j) (
 Y2 Tryz.prog 44 [e] i j fun d f h=>
 D10 .gtr d (.int .i64 8) fun d=>
 K2 d (
 U11 zR [(0,1),(1,1),(2,1)] [] fun b=>
 D5 c b 3 f fun b=>
 J1 c (some 3) b fun c=>
 Rt (.tuple ⟨[(.slice none 0 0),c,(.int .i64 12)]⟩) b h k) (
 D24 1 1 [.int .u32 0] [(0,e)] f h fun c d e=>
 B5 g.a c 1 4 d e fun c d e=>
 b [c] d e))) (fun b c d=>
 D10 .add g.b i1 fun e=>
 f [b.a,e] c d)) (
 wFl b 1 i fun _ d=>
 R4 d 0 i fun e=>
 G3 (fun f h i j=>
 D10 .lss h.b e fun e=>
 K2 e (
 U6 d h.b i fun _ b=>
 D10 .or h.a b fun b=>
 D10 .add h.b i1 fun c=>
 f [b,c] i j) (
 wFl b 0 i fun _ d=>
 Y2 Tryz.prog 41 [d] i j fun d e f=>
 D10 .neq h.a d fun d=>
 K2 d (
 U11 zR [(0,1),(1,1),(2,1)] [] fun b=>
 D5 c b 3 e fun b=>
 J1 c (some 3) b fun c=>
 Rt (.tuple ⟨[(.slice none 0 0),c,(.int .i64 9)]⟩) b f k) (
 M2 (f+8) fun d=>
 J1 b (some 2) e fun h=>
 J1 b (some 2) e fun i=>
 Y2 Tryz.prog 45 [i] e d fun d j l=>
 M64 none <| wNm f 3 .map fun m=>
 M64 none <| wNm f 4 .map fun n=>
 U11 [.int .i64 0,.slice none 0 0,.int .u32 0,.int .u32 0,.int .u32 0,.int .u32 0,.int .u32 0,.int .u32 0,.int .u32 0,.int .u32 0,.int .u32 0,.int .u32 0,.int .u32 0,.int .u32 0,.int .u32 0,.int .u32 0,.int .u32 0,.int .u32 0,.int .u32 0,.int .u32 0,.int .u32 0,.int .u32 0,.int .u32 0,.int .u32 0,.int .u32 0,.int .u32 0,.int .u32 0,.int .u32 0,.int .u32 0,.int .u32 0,.int .u32 0,.int .u32 0,.int .u32 0,.int .u32 0,.map none,.map none] [(0,2),(2,32),(34,1),(35,1)] [(0,h),(1,d),(2,m),(3,n)] fun d=>
 E5 d fun d=>wNm f 6 .ptr fun m=>
 wK ((tA (tB (cE b (some 2) e i)))/\(tB ((cE b (some 2) j h)/\(tB (cE b (some 2) e h))))) (
 E6 j (f+6) (some (.cells d 0)) fun b=>E6 b (f+4) (some (.map [] 0)) fun b=>E6 b (f+3) (some (.map [] 0)) fun b => 
 Y2 Tryz.prog 46 [m,a1] b l fun b d e=>
 wAl zR d e fun d e f=>
 D5 d b 3 e fun b=>
 R4 g.a 0 b fun e=>
 G3 (fun b f h i=>
 D10 .lss f.a e fun e=>
 K2 e (
 U6 g.a f.a h fun _ c=>
 M2 (i+7) fun e=>
 J1 d (some 3) h fun g=>
 Y2 Tryz.prog 48 [m,c,c] h e fun c e i=>
 Y2 Tryz.prog 47 [g,c] e i fun c i j=>
 D5 d c 3 i fun c=>
 wK (tB (tA (tA ((cE d (some 3) e g)/\(tB (cE d (some 3) h g)))))) (
 D10 .add f.a i1 fun d=>
 b [d] c j)) (
 M2 (i+8) fun b=>
 J1 d (some 3) h fun e=>
 Y2 Tryz.prog 49 [m,g.a,e] h b fun b f g=>
 J1 d (some 3) f fun i=>
 D5 c i 3 f fun j=>
 wK ((tA ((cE d (some 3) f i)/\(tB (cE d (some 3) h i))))/\(tB (tA (tA (tB (cE d (some 3) h e)))))) (
 J1 c (some 3) j fun c=>
 Rt (.tuple ⟨[b,c,i0]⟩) j g k))) [i0] b f)))) [u0,i0] i j)) [(.slice none 0 0),i0] f g)
variable {a0 a1 a2 a3 a4 a5 H nx k}
theorem spec44:F44 a0 H nx k->Q2 Tryz.prog 44 [a0] H nx k:=Q12 [] [] []
theorem spec61:F61 a0 H nx k->Q2 Tryz.prog 61 [a0] H nx k:=Q12 [] [] []
theorem spec70:F70 a0 a1 H nx k->Q2 Tryz.prog 70 [a0,a1] H nx k:=Q12 [(2,[17])] [] [.one (.tst (.one (.tst (.one .nil) (.one .nil))) (.one (.one (.one .nil))))]
theorem spec106:F106 a0 a1 H nx k->Q2 Tryz.prog 106 [a0,a1] H nx k:=Q12 [] [] []
theorem spec90:F90 a0 a1 H nx k->Q2 Tryz.prog 90 [a0,a1] H nx k:=Q12 [] [] []
theorem spec41:F41 a0 H nx k->Q2 Tryz.prog 41 [a0] H nx k:=Q12 [] [] []
theorem spec27:F27 a0 H nx k->Q2 Tryz.prog 27 [a0] H nx k:=Q12 [(2,[12])] [[20]] [.one (.tst (.one .nil) (.one .nil))]
theorem spec40:F40 a0 a1 H nx k->Q2 Tryz.prog 40 [a0,a1] H nx k:=Q12 [(6,[18])] [] [.one (.tst (.one .nil) (.one .nil))]
theorem spec45:F45 a0 H nx k->Q2 Tryz.prog 45 [a0] H nx k:=Q12 [] [[7]] []
theorem spec76:F76 a0 a1 a2 H nx k->Q2 Tryz.prog 76 [a0,a1,a2] H nx k:=Q12 [(13,[49]),(46,[]),(50,[]),(51,[131])] [[9,30],[66],[81],[97],[110]] [.one (.tst (.one (.tst (.one .nil) (.one .nil))) (.one (.one (.one .nil)))),.one (.tst (.one .nil) (.one .nil))]
theorem spec78:F78 a0 H nx k->Q2 Tryz.prog 78 [a0] H nx k:=Q12 [(2,[10])] [] [.one (.tst (.one .nil) (.one .nil))]
theorem spec47:F47 a0 a1 H nx k->Q2 Tryz.prog 47 [a0,a1] H nx k:=Q12 [] [] []
theorem spec77:F77 a0 a1 H nx k->Q2 Tryz.prog 77 [a0,a1] H nx k:=Q12 [(6,[])] [] []
theorem spec46:F46 a0 a1 H nx k->Q2 Tryz.prog 46 [a0,a1] H nx k:=Q12 [] [[5,6],[41]] []
theorem spec81:F81 a0 a1 a2 a3 H nx k->Q2 Tryz.prog 81 [a0,a1,a2,a3] H nx k:=Q12 [(9,[39])] [[10,11]] [.one (.tst (.one .nil) (.one .nil))]
theorem spec48:F48 a0 a1 a2 H nx k->Q2 Tryz.prog 48 [a0,a1,a2] H nx k:=Q12 [(14,[10]),(20,[53]),(22,[70])] [[10,32]] [.one (.tst (.one .nil) (.one .nil)),.one (.tst (.one .nil) (.one .nil))]
theorem spec82:F82 a0 a1 a2 a3 a4 a5 H nx k->Q2 Tryz.prog 82 [a0,a1,a2,a3,a4,a5] H nx k:=Q12 [] [] [.one (.tst (.one (.tst (.one .nil) (.one .nil))) (.one (.one (.one .nil))))]
theorem spec49:F49 a0 a1 a2 H nx k->Q2 Tryz.prog 49 [a0,a1,a2] H nx k:=Q12 [(16,[12])] [[8,20],[12,36],[12,43],[12,48]] []
theorem spec43:F43 a0 a1 H nx k->Q2 Tryz.prog 43 [a0,a1] H nx k:=Q12 [(9,[])] [[18]] []
theorem spec42:F42 a0 H nx k->Q2 Tryz.prog 42 [a0] H nx k:=Q12 [(20,[8])] [[4,5],[6,7],[8,31]] []
theorem spec16:F16 a0 a1 H nx k->Q2 Tryz.prog 16 [a0,a1] H nx k:=Q12 [(11,[9])] [[9,37],[12,57],[83]] []
end
section
variable (a0 a1 a2:Value) (H:Y0) (nx:Nat) (k:EP)
def F29:Prop:=
 M12 a0 H nx fun b c d=>
 wAl z32 c d fun c d e=>
 wAl z32 d e fun d e f=>
 wFl b 1 e fun _ g=>
 R4 g 0 e fun h=>
 G3 (fun e f i j=>
 D10 .lss f.a h fun h=>
 K2 h (
 U6 g f.a i fun _ c=>
 wFl b 0 i fun _ b=>
 G3 (fun g h i j=>
 D10 .lss h.a b fun b=>
 K2 b (
 V4 (fun b=>
 D10 .shr c h.a fun e=>
 D10 .and e u1 fun e=>
 D10 .eql e u1 fun e=>
 K2 e (
 M2 (j+10) fun e=>
 M3 d h.a (some 32) 1 fun f=>
 J1 f none i fun g=>
 D10 .shl u1 h.a fun j=>
 D10 .andNot c j fun c=>
 D10 .or g c fun c=>
 M3 d h.a (some 32) 1 fun d=>
 D5 d c 1 i fun c=>
 wK (tB (tA (tB (cE f none i g)))) (
 b [] c e)) (
 b [] i j)) (fun _ b c=>
 D10 .add h.a i1 fun d=>
 g [d] b c)) (
 D10 .add f.a i1 fun b=>
 e [b] i j)) [i0] i j) (
 J1 d (some 32) i fun b=>
 D5 c b 32 i fun b=>
 J1 c (some 32) b fun c=>
 Rt c b j k)) [i0] e f
def F33:Prop:=
 M12 a0 H nx fun b c d=>
 J1 b (some 2) c fun e=>
 Y2 Tryz.prog 27 [e] c d fun c d e=>
 D10 .neq c i0 fun f=>
 K2 f (
 Rt c d e k) (
 V4 (fun c=>
 D10 .lss a1 i0 fun f=>
 K3 false f (
 wFl b 0 d fun _ b=>
 D10 .gtr a1 b fun b=>
 c [b] d e) (
 c [bT] d e)) (fun b c d=>
 K2 b.a (
 Rt (.int .i64 3) c d k) (
 Rt i0 c d k)))
def F34:Prop:=
 M12 a0 H nx fun b c d=>
 wAl z32 c d fun c d e=>
 wAl z32 d e fun d e f=>
 wFl b 0 e fun _ g=>
 G3 (fun e f h i=>
 D10 .lss f.a g fun g=>
 K2 g (
 J1 b (some 2) h fun b=>
 Y2 Tryz.prog 70 [b,f.a] h i fun b c g=>
 M3 d f.a (some 32) 1 fun d=>
 D5 d b 1 c fun b=>
 D10 .add f.a i1 fun c=>
 e [c] b g) (
 J1 d (some 32) h fun b=>
 D5 c b 32 h fun b=>
 J1 c (some 32) b fun c=>
 Rt c b i k)) [i0] e f
def F35:Prop:=
 D10 .shl (.int .u64 1) a0 fun b=>
 D10 .sub b (.int .u64 1) fun b=>
 W8 .u32 b fun b=>
 Rt b H nx k
def F74:Prop:=
 M12 a0 H nx fun b c d=>
 J1 b (some 2) c fun e=>
 Y2 Tryz.prog 27 [e] c d fun c d e=>
 D10 .eql c i0 fun c=>
 K3 true c (
 D10 .geq a1 i0 fun c=>
 K3 true c (
 wFl b 0 d fun _ b=>
 D10 .leq a1 b fun b=>
 Rt b d e k) (
 Rt bF d e k)) (
 Rt bF d e k)
def F62:Prop:=
 G3 (fun b c d e=>
 R4 a0 0 d fun f=>
 D10 .lss c.a f fun f=>
 K2 f (
 U6 a0 c.a d fun _ f=>
 D10 .and f a1 fun f=>
 D10 .eql f a1 fun f=>
 K2 f (
 Rt bT d e k) (
 D10 .add c.a i1 fun c=>
 b [c] d e)) (
 D10 .eql a1 u0 fun b=>
 Rt b d e k)) [i0] H nx
variable {a0 a1 a2 H nx k}
theorem spec29:F29 a0 H nx k->Q2 Tryz.prog 29 [a0] H nx k:=Q12 [(11,[])] [[10],[16]] []
theorem spec33:F33 a0 a1 H nx k->Q2 Tryz.prog 33 [a0,a1] H nx k:=Q12 [(6,[18])] [] [.one (.tst (.one .nil) (.one .nil))]
theorem spec34:F34 a0 H nx k->Q2 Tryz.prog 34 [a0] H nx k:=Q12 [] [[7]] []
theorem spec35:F35 a0 H nx k->Q2 Tryz.prog 35 [a0] H nx k:=Q12 [] [] []
theorem spec74:F74 a0 a1 H nx k->Q2 Tryz.prog 74 [a0,a1] H nx k:=Q12 [] [] [.one (.tst (.one (.tst (.one .nil) (.one .nil))) (.one (.one (.one .nil))))]
theorem spec62:F62 a0 a1 H nx k->Q2 Tryz.prog 62 [a0,a1] H nx k:=Q12 [] [[5]] []
end
section
variable {n:Nat}
theorem N44(h:n<=32):2^n<=4294967296:=bK (aK (by omega) h) (by decide)
theorem D46(n:Nat):0<2^n:=Nat.pow_pos (by omega)
theorem X0(hn:n<=32):2^n-1<4294967296:=by have:=N44 hn;have:=D46 n;omega
end
end Go.Proofs.YtoiioigihocgbaaGreatDoor
