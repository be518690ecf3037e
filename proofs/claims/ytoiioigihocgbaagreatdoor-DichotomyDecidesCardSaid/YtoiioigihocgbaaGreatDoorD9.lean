/-
  Contract: simplex.combined.
  Plain: the simplex algorithm with Bland's rule ends (tableaus as functions;no program in sight).
  Plain: every tableau that is reached has numbers of bounded size (no program in sight).
  The tableau in memory.
  Contract: simplex.pivot.
  The executor as a claim: above the first free name there is nothing;a call beside blocks that it does not know.
  Plain: the run of the simplex algorithm from the first tableau of a packing problem (no program in sight).
  Contract: simplex.leaving.
  Contract: simplex.maximize,from the first tableau of a packing problem.
-/
import Derived.Test.YtoiioigihocgbaaGreatDoorD8
import Derived.Test.YtoiioigihocgbaaGreatDoorD5
set_option maxHeartbeats 8000000
set_option maxRecDepth 100000
set_option linter.all false
noncomputable section
open Classical renaming byContradiction->aI
open Go.Value renaming bool->dU,int->cD
open List renaming ext_getElem?->dH,getElem?_eq_getElem->aE,getElem?_eq_none->aT,getElem?_eq_some_iff->aJ,getElem?_map->cP,getElem?_set->cQ,getElem?_set_ne->bL,getElem?_set_self->dG,length_append->bH,length_map->gM,length_set->dO,mem_range->cW,range->aY,replicate->aF
open Nat renaming add_mul->dM,eq_zero_or_pos->cI,le_of_lt->eG,le_refl->aD,le_trans->bK,lt_of_le_of_lt->cE,lt_of_lt_of_le->aO,lt_or_ge->aW,mul_assoc->eE,mul_comm->cG,mul_le_mul->eL,mul_le_mul_left->bP,mul_le_mul_right->dS,pow_le_pow_right->aK,pow_succ->dR,two_pow_pos->aQ,zero_add->cF
open Ne renaming symm->eT
open Option renaming elim_some->aN,map_eq_some_iff->bU
open Option.some renaming inj->fA
open Rat renaming mul_nonneg->fY
namespace Go.Clo
theorem C87{x:Rat}:x.num=0<->x=0:=Rat.num_eq_zero
theorem sign_zero{x:Rat}:x.num.sign=0<->x=0:=by rw[Int.sign_eq_zero_iff_zero,C87]
end Go.Clo
namespace Go.Proofs.YtoiioigihocgbaaGreatDoor
open Go.Clo
theorem X86{H:Y0}{nx b c n cap cap':Nat}{X Y:Nat->Rat}{fv:Value}{z:Rat}(hx:RO H nx b n X)(hy:RO H nx c n Y)(hz:RR H nx fv z)(c6:0<n)(hn:n<=1000)
  (sX:∀ q,q<n->U15 (X q) 100000)(sY:∀ q,q<n->U15 (Y q) 100000)(sz:U15 z 100000)(sM:∀ q,q<n->U15 (z*Y q) 100000):
  Q2 Tryz.prog 139 [.slice (some ⟨b,0,none⟩) n cap,.slice (some ⟨c,0,none⟩) n cap',fv] H nx fun v H' nx'=>∃ b',v = .slice (some ⟨b',0,none⟩) n n/\nx<=b'/\RO H' nx' b' n (fun q=>X q-z*Y q)/\D0 H nx H' nx':=by
 obtain⟨zc,bt,ah⟩:∃ zc,fv = .agg ⟨zc⟩/\V7 zc:=by
  obtain⟨A0,l0,c0,C0,m0,d0,rfl,_,_⟩:=hz.form;exact⟨_,rfl,_,_,_,_,_,_,_,rfl⟩
 subst bt;have bh:Z0 zc=true:=by obtain⟨s,A,l,q,C,l',q',rfl⟩:=ah;rfl
 have ag:∀ k:VP,B10 zc 0 (some 3) k=k (.agg ⟨zc⟩):=fun k=>by
  have:=J22 (css:=[zc]) (q:=0) (c:=zc) (fun d hd=>by simp at hd;subst hd;exact ah.three) rfl k;simpa using this
 obtain⟨cx,bg,b8,ab,W⟩:=hx;obtain⟨cy,bf,bu,c3,ai⟩:=hy;have b4:(aF n Z29).flatten.length=3*n:=by
  rw[W26 (fun d hd=>by rw[(List.mem_replicate.1 hd).2];rfl),List.length_replicate]
 have ax:cx.flatten.length=3*n:=by rw[W26 W.three,ab]
 refine spec139 ?_;unfold F139;simp(disch:=first|omega|assumption)only[W0,Q0.val,bh];rw[M27 (by omega),show [dU false,.slice none 0 0,.slice none 0 0]=Z29 from rfl,Z83];have ao:D0 H nx (hs (hs H nx (some (.cells zc 0))) (nx+1) (some (.cells (aF n Z29).flatten 0))) (nx+1+1):=((D0.refl H nx).new _ (aD _) (m:=nx+1) (by omega)).new _ (by omega) (by omega);rw[J79 (sl:=0) (row:=(aF n Z29).flatten) (Z11 _ _ _) (J9 (m:=n) ((ao.get b b8).trans bg) (by rw[ax];omega) (by omega)) (aD _) (Y82 W.tri) (by omega),
  G24 (by rw[ax,b4])]
 have g0:J0 (hs (hs (hs H nx (some (.cells zc 0))) (nx+1) (some (.cells (aF n Z29).flatten 0))) (nx+1) (some (.cells cx.flatten 0))) nx=some (.cells zc 0):=by
  rw[N7,if_neg (by omega),N7,if_neg (by omega),Z11]
 have g1:J0 (hs (hs (hs H nx (some (.cells zc 0))) (nx+1) (some (.cells (aF n Z29).flatten 0))) (nx+1) (some (.cells cx.flatten 0))) (nx+1)=some (.cells cx.flatten 0):=Z11 _ _ _;have hE:=ao.hs (b:=some (.cells cx.flatten 0)) (show nx<=nx+1 by omega);generalize hs (hs (hs H nx (some (.cells zc 0))) (nx+1) (some (.cells (aF n Z29).flatten 0))) (nx+1) (some (.cells cx.flatten 0))=H3 at *
 simp(disch:=first|omega|assumption)only[W0,g0,ag];have ay:=hz.ext hE;refine R0 (E74 ay ⟨by have:=sz.1;omega,by have:=sz.2;omega⟩) ?_;rintro _ H4 c4 ⟨rfl,Z⟩;have bw:=Z.le;have az:=(Z.get nx (by omega)).trans g0;have aj:=(Z.get (nx+1) (by omega)).trans g1;have a1:=hE.trans Z
 by_cases a9:z=0
 .have e:=sign_zero.2 a9
  simp(disch:=first|omega|assumption)only[W0,e];refine⟨nx+1,rfl,by omega,⟨cx,aj,by omega,ab,fun q c hc => ?_⟩,a1⟩;have:=(W q c hc).ext a1;show RR _ _ _ (X q-z*Y q);rw[a9,Rat.zero_mul,show X q-0=X q by grind];exact this
 have e:¬ z.num.sign=0:=fun h=>a9 (sign_zero.1 h)
 simp(disch:=first|omega|assumption)only[W0,e];refine B1 (m:=n) (fun m L H' nx'=>∃(i:Nat) (css:List (List Value)),m+i=n/\L=[.int .i64 (i:Int)]/\css.length=n/\RX H' nx' css (fun q=>if q<i then X q-z*Y q else X q) /\
  J0 H' nx=some (.cells zc 0)/\J0 H' (nx+1)=some (.cells css.flatten 0)/\D0 H nx H' nx'/\nx+1<nx') ?_ ⟨0,cx,by omega,rfl,ab,fun q c hc=>by simpa using (W q c hc).ext a1,az,aj,a1,by omega⟩
 rintro m ih L H5 bk ⟨i,css,hm,rfl,V,U,au,ac,O,c8⟩ aw
 by_cases hi:i<n
 case neg=>
  have a5:¬ (i:Int)<(n:Int):=by omega
  simp(disch:=first|omega|assumption)only[W0,a5];refine⟨nx+1,rfl,by omega,⟨css,ac,by omega,V,fun q c hc => ?_⟩,O⟩;have hq:=(aJ.1 hc).1;have:=U q c hc;dsimp only at this ⊢;rw[if_pos (by omega)] at this;exact this
 have a5:(i:Int)<(n:Int):=by omega
 have av:=(O.get c bu).trans bf;have a7:cy[i]? = some cy[i]:=aE (by omega);have aa:css[i]? = some css[i]:=aE (by omega);have an:=(ai i _ a7).ext O;have a6:=U i _ aa;dsimp only at a6;rw[if_neg (by omega)] at a6;have ae:=ai.three;have al:=U.three;simp(disch:=first|omega|assumption)only[W0,N13,a5,av,J22 ae a7];refine R0 (E74 an ⟨by have:=(sY i hi).1;omega,by have:=(sY i hi).2;omega⟩) ?_;rintro _ H7 b3 ⟨rfl,J⟩;have bx:=J.le;have ap:=(J.get nx (by omega)).trans au;have g17:=(J.get (nx+1) (by omega)).trans ac
 by_cases a8:Y i=0
 .have e:=sign_zero.2 a8
  simp(disch:=first|omega|assumption)only[W0,e];refine aw (m-1) _ _ _ (by omega) ⟨i+1,css,by omega,by simp,V,fun q c hc => ?_,ap,g17,O.trans J,by omega⟩;have:=(U q c hc).ext J;dsimp only at this ⊢
  by_cases hq:q<i
  .rw[if_pos (by omega)];rw[if_pos hq] at this;exact this
  .rw[if_neg hq] at this
   by_cases ba:q=i
   .subst ba
    rw[if_pos (by omega),a8,Rat.mul_zero,show X q-0=X q by grind];exact this
   .rw[if_neg (by omega)];exact this
 have e:¬ (Y i).num.sign=0:=fun h=>a8 (sign_zero.1 h)
 have bo:=(J.get c (by have:=O.le;omega)).trans av;simp(disch:=first|omega|assumption)only[W0,e,ne_eq,not_false_eq_true,g17,ap,bo,ag,J22 ae a7,J22 al aa];have Q:D0 H5 bk H7 (b3+15):=J.trans (D0.self (by omega));refine R0 (N100 ((hz.ext O).ext Q) (an.ext Q) sz (sY i hi)) ?_;rintro r1 H9 c7 ⟨b5,a0⟩;have bz:=a0.le;have ak:=(a6.ext Q).ext a0;refine R0 (Z110 ak b5 (sX i hi) (sM i hi)) ?_;rintro r2 c9 bv ⟨ad,a2⟩;have bd:=a2.le;have E:=(Q.trans a0).trans a2;have aq:=(E.get nx (by omega)).trans au;have a4:=(E.get (nx+1) (by omega)).trans ac;have bc:=(a0.get (nx+1) (by omega)).trans g17;have a3:=U.ext E;obtain⟨zz,rfl⟩:∃ zz,r2 = .agg ⟨zz⟩:=by
  obtain⟨A0,l0,c0,C0,m0,d0,rfl,_,_⟩:=ad.form;exact⟨_,rfl⟩
 rw[cG i 3,R74 a4 a3.tri ad.tri (by omega),cG 3 i];simp(disch:=first|omega|assumption)only[W0,bc,J22 al aa];refine aw (m-1) _ _ _ (by omega) ⟨i+1,css.set i zz,by omega,by simp,by simp[V],a3.put a4 ad (by omega) (by rw[if_pos (by omega)]) (fun q hq => ?_),?_,Z11 _ _ _,(O.trans E).hs (by omega),by omega⟩
 .by_cases h:q<i
  .rw[if_pos h,if_pos (by omega)]
  .rw[if_neg h,if_neg (by omega)]
 .rw[N7,if_neg (by omega)];exact aq
end Go.Proofs.YtoiioigihocgbaaGreatDoor
namespace Go.Lp
section
variable {c i k n r s v:Nat} {f g:Nat->Rat}
def Z25(n:Nat)(f:Nat->Rat):Rat:=n.rec 0 fun k s=>s+f k
theorem zdiv(x:Rat):0/x=0:=by rw[Rat.div_def];grind
theorem Y77(f:Nat->Rat):Z25 0 f=0:=rfl
theorem W33(n:Nat)(f:Nat->Rat):Z25 (n+1) f=Z25 n f+f n:=rfl
theorem Q35{f g:Nat->Rat}:∀ {n:Nat},(∀ i,i<n->f i=g i)->Z25 n f=Z25 n g
 | 0,_=>rfl
 | n+1,h=>by rw[W33,W33,Q35 fun i hi=>h i (by omega),h n (by omega)]
theorem K82{f g:Nat->Rat}:∀ {n:Nat},Z25 n (fun i=>f i+g i)=Z25 n f+Z25 n g
 | 0=>by simp only[Y77];grind
 | n+1=>by rw[W33,W33,W33,K82];grind
theorem W74{f:Nat->Rat}{c:Rat}:∀ {n:Nat},Z25 n (fun i=>c*f i)=c*Z25 n f
 | 0=>by simp[Y77]
 | n+1=>by rw[W33,W33,W74];grind
theorem D71(h:∀ i,i<n->f i=0):Z25 n f=0:=by
 induction n with
 | zero=>rfl
 | succ n ih=>rw[W33,ih fun i hi=>h i (by omega),h n (by omega)];grind
theorem Q80{f:Nat->Rat}:∀ {n:Nat},(∀ i,i<n->0<=f i)->0<=Z25 n f
 | 0,_=>by simp[Y77]
 | n+1,h=>by
  rw[W33];have h1:=Q80 (n:=n) fun i hi=>h i (by omega)
  have h2:=h n (by omega)
  grind
theorem U94{f:Nat->Rat}:∀ {n:Nat} {r:Nat},r<n->(∀ i,i<n->0<=f i)->0<f r->0<Z25 n f
 | 0,_,h,_,_=>by omega
 | n+1,r,hr,h,hp=>by
  rw[W33];have h2:=h n (by omega)
  by_cases e:r=n
  .subst e
   have h1:=Q80 (n:=r) fun i hi=>h i (by omega)
   grind
  .have h1:=U94 (n:=n) (r:=r) (by omega) (fun i hi=>h i (by omega)) hp
   grind
theorem R71(hr:r<n)(h:∀ i,i<n->i≠r->f i=0):Z25 n f=f r:=by
 induction n with
 | zero=>omega
 | succ n ih=>
  rw[W33]
  by_cases e:r=n
  .subst e
   rw[D71 fun i hi=>h i (by omega) (by omega)];grind
  .rw[ih (by omega) fun i hi hn=>h i (by omega) hn,h n (by omega) (by omega)];grind
theorem G103{m:Nat}{f:Nat->Nat->Rat}:Z25 n (fun i=>Z25 m fun k=>f i k)=Z25 m fun k=>Z25 n fun i=>f i k:=by
 induction n with
 | zero=>simp only[Y77];exact(D71 fun _ _=>rfl).symm
 | succ n ih=>simp only[W33];rw[ih,K82]
structure Tab where
 a:Nat->Nat->Rat
 g:Nat->Rat
 B:Nat->Nat
section
variable (m C R:Nat)
def pivot(T:Tab)(r c:Nat):Tab where
 a i j:=if i=r then T.a r j/T.a r c else T.a i j-T.a i c*(T.a r j/T.a r c)
 g j:=T.g j-T.g c*(T.a r j/T.a r c)
 B i:=if i=r then c else T.B i
structure J44 (T:Tab):Prop where
 lt:∀ i,i<m->T.B i<C
 unit:∀ i k,i<m->k<m->T.a i (T.B k)=if i=k then 1 else 0
 goal:∀ k,k<m->T.g (T.B k)=0
 rhs:∀ i,i<m->0<=T.a i R
def Enters(T:Tab)(c:Nat):Prop:=c<C/\T.g c<0/\∀ j,j<c->0<=T.g j
def Leaves(T:Tab)(c r:Nat):Prop:=r<m/\0<T.a r c/\∀ i,i<m->0<T.a i c->T.a r R/T.a r c<T.a i R/T.a i c\/(T.a r R/T.a r c=T.a i R/T.a i c/\T.B r<=T.B i)
def U95(T T':Tab):Prop:=∃ c r,Enters C T c/\Leaves m R T c r/\T'=pivot T r c
variable {m C R}
theorem J44.inj{T:Tab}(h:J44 m C R T)(hi:i<m)(hk:k<m)(e:T.B i=T.B k):i=k:=by
 have h1:=h.unit i k hi hk;have h2:=h.unit i i hi hi;rw[e,h1] at h2
 by_cases g:i=k
 .exact g
 .simp[g] at h2
theorem J44.fresh{T:Tab}(h:J44 m C R T)(hc:T.g c<0)(hi:i<m):T.B i≠c:=by
 intro e;have:=h.goal i hi;rw[e] at this
 grind
theorem J44.pivot{T:Tab}(h:J44 m C R T){c r:Nat}(hc:Enters C T c)(hl:Leaves m R T c r):J44 m C R (pivot T r c):=by
 obtain⟨hr,hp,Q⟩:=hl;have Z:T.a r c≠0:=by grind
 have J:T.a r c/T.a r c=1:=by grind
 have hz:∀ k,k<m->k≠r->T.a r (T.B k)/T.a r c=0:=fun k hk E=>by
  rw[h.unit r k hr hk,if_neg (by omega)];grind
 refine⟨fun i hi => ?_,fun i k hi hk => ?_,fun k hk => ?_,fun i hi => ?_⟩
 .show(if i=r then c else T.B i)<C
  split
  .exact hc.1
  .exact h.lt i hi
 .show(if i=r then T.a r (if k=r then c else T.B k)/T.a r c else T.a i (if k=r then c else T.B k)-T.a i c*(T.a r (if k=r then c else T.B k)/T.a r c))=_
  by_cases E:k=r
  .simp only[E,if_true,J]
   split
   .rfl
   .grind
  .simp only[E,if_false,hz k hk E]
   split
   .rename_i e
    rw[if_neg (by omega)]
   .rw[h.unit i k hi hk];grind
 .show T.g (if k=r then c else T.B k)-T.g c*(T.a r (if k=r then c else T.B k)/T.a r c)=0
  by_cases E:k=r
  .simp only[E,if_true,J];grind
  .simp only[E,if_false,hz k hk E,h.goal k hk];grind
 .show 0<=(if i=r then T.a r R/T.a r c else T.a i R-T.a i c*(T.a r R/T.a r c))
  have V:=h.rhs r hr;have hq:0<=T.a r R/T.a r c:=by
   have:=fY V (Rat.le_of_lt (Rat.inv_pos.2 hp));rwa [Rat.div_def]
  split
  .exact hq
  .have W:=h.rhs i hi
   by_cases O:0<T.a i c
   .have U:T.a r R/T.a r c<=T.a i R/T.a i c:=by
     rcases Q i hi O with h1 | ⟨h1,_⟩
     .exact Rat.le_of_lt h1
     .rw[h1];exact Rat.le_refl
    have h2:=Rat.mul_le_mul_of_nonneg_left U (Rat.le_of_lt O);have h3:T.a i c*(T.a i R/T.a i c)=T.a i R:=by grind
    grind
   .have h2:T.a i c*(T.a r R/T.a r c)<=0:=by
     have h4:0 <= -T.a i c:=by grind
     have:=fY h4 hq
     grind
    grind
variable (m) in
def X23(T:Tab)(f:Nat->Rat):Prop:=∃ c:Nat->Rat,∀ j,f j=Z25 m fun r=>c r*T.a r j
theorem X23.add{T:Tab}(h:X23 m T f)(h':X23 m T g):X23 m T fun j=>f j+g j:=by
 obtain⟨c,hc⟩:=h;obtain⟨d,hd⟩:=h';refine⟨fun r=>c r+d r,fun j => ?_⟩;show f j+g j=_;rw[hc,hd,<- K82];exact Q35 fun i _=>by grind
theorem X23.smul{T:Tab}{f:Nat->Rat}(h:X23 m T f)(k:Rat):X23 m T fun j=>k*f j:=by
 obtain⟨c,hc⟩:=h;refine⟨fun r=>k*c r,fun j => ?_⟩;show k*f j=_;rw[hc,<- W74];exact Q35 fun i _=>by grind
theorem X23.of{T:Tab}(h:X23 m T f)(e:∀ j,g j=f j):X23 m T g:=by rw[show g=f from funext e];exact h
theorem X23.row{T:Tab}(hr:r<m):X23 m T (T.a r):=by
 refine⟨fun i=>if i=r then 1 else 0,fun j => ?_⟩;rw[R71 hr fun i _ hn=>by simp[hn]];simp
theorem X23.zero{T:Tab}:X23 m T fun _=>0:=⟨fun _=>0,fun j=>(D71 fun _ _=>by simp).symm⟩
theorem X23.trans{T T':Tab}(hT:∀ r,r<m->X23 m T (T'.a r))(h:X23 m T' f):X23 m T f:=by
 obtain⟨c,hc⟩:=h;have:∀ n,n<=m->X23 m T fun j=>Z25 n fun r=>c r*T'.a r j:=by
  intro n
  induction n with
  | zero=>exact fun _=>X23.zero
  | succ n ih=>exact fun hn=>(ih (by omega)).add ((hT n (by omega)).smul (c n))
 obtain⟨d,hd⟩:=this m (aD m);exact⟨d,fun j=>by rw[hc];exact hd j⟩
theorem U88{T:Tab}(hr:r<m)(hi:i<m):X23 m T ((pivot T r c).a i):=by
 have h1:X23 m T fun j=>T.a r j/T.a r c:=by
  have:=(X23.row (T:=T) hr).smul (T.a r c)⁻¹;exact this.of fun j=>by rw[Rat.div_def];grind
 by_cases e:i=r
 .subst e
  exact h1.of fun j=>by simp[pivot]
 .exact((X23.row (T:=T) hi).add (h1.smul (-T.a i c))).of fun j=>by simp only[pivot,e,if_false];grind
theorem K91{T:Tab}(hr:r<m):X23 m T fun j=>(pivot T r c).g j-T.g j:=by
 have h1:X23 m T fun j=>T.a r j/T.a r c:=by
  have:=(X23.row (T:=T) hr).smul (T.a r c)⁻¹;exact this.of fun j=>by rw[Rat.div_def];grind
 exact(h1.smul (-T.g c)).of fun j=>by simp only[pivot];grind
theorem Y93{T T':Tab}(h:J44 m C R T)(h':J44 m C R T')(hB:∀ i,i<m->T.B i=T'.B i)(hs:∀ r,r<m->X23 m T (T'.a r))(hg:X23 m T fun j=>T'.g j-T.g j):(∀ i,i<m->∀ j,T'.a i j=T.a i j)/\∀ j,T'.g j=T.g j:=by
 constructor
 .intro i hi j
  obtain⟨c,hc⟩:=hs i hi;have hk:∀ k,k<m->c k=if i=k then 1 else 0:=by
   intro k hk;have h1:=hc (T.B k);rw[hB k hk,h'.unit i k hi hk,R71 hk fun r hr hn=>by rw[<- hB k hk,h.unit r k hr hk,if_neg hn];simp] at h1;rw[<- hB k hk,h.unit k k hk hk,if_pos rfl] at h1
   grind
  rw[hc j,R71 hi fun r hr hn=>by rw[hk r hr,if_neg (by omega)];simp,hk i hi,if_pos rfl]
  grind
 .intro j
  obtain⟨c,hc⟩:=hg;have hk:∀ k,k<m->c k=0:=by
   intro k hk;have h1:T'.g (T.B k)-T.g (T.B k)=_:=hc (T.B k);rw[R71 hk fun r hr hn=>by rw[h.unit r k hr hk,if_neg hn];simp] at h1;rw[h.goal k hk,hB k hk,h'.goal k hk,<- hB k hk,h.unit k k hk hk,if_pos rfl] at h1
   grind
  have:=hc j;rw[D71 fun r hr=>by rw[hk r hr];simp] at this
  grind
end
section
variable {m C R:Nat} {T:Nat->Tab} {e l:Nat->Nat}
structure Run (m C R:Nat) (T:Nat->Tab) (e l:Nat->Nat):Prop where
 canon:J44 m C R (T 0)
 enters:∀ k,Enters C (T k) (e k)
 leaves:∀ k,Leaves m R (T k) (e k) (l k)
 next:∀ k,T (k+1)=pivot (T k) (l k) (e k)
theorem Run.can(h:Run m C R T e l):∀ k,J44 m C R (T k)
 | 0=>h.canon
 | k+1=>by rw[h.next];exact(h.can k).pivot (h.enters k) (h.leaves k)
theorem Run.span(h:Run m C R T e l):∀ {k:Nat},i<=k->(∀ r,r<m->X23 m (T i) ((T k).a r))/\X23 m (T i) fun j=>(T k).g j-(T i).g j:=by
 intro k
 induction k with
 | zero=>
  intro hk;obtain rfl:i=0:=by omega
  exact⟨fun r hr=>X23.row hr,X23.zero.of fun j=>by grind⟩
 | succ k ih=>
  intro hk
  by_cases e1:i=k+1
  .subst e1
   exact⟨fun r hr=>X23.row hr,X23.zero.of fun j=>by grind⟩
  .obtain⟨h1,h2⟩:=ih (by omega)
   rw[h.next k];refine⟨fun r hr=>X23.trans h1 (U88 (h.leaves k).1 hr),?_⟩;have h3:=X23.trans h1 (K91 (T:=T k) (r:=l k) (c:=e k) (h.leaves k).1);exact(h2.add h3).of fun j=>by grind
theorem Run.value(h:Run m C R T e l)(k:Nat):(T k).g R<=(T (k+1)).g R/\((T (k+1)).g R=(T k).g R->(T k).a (l k) R=0):=by
 have h1:=(h.enters k).2.1;obtain⟨hr,hp,_⟩:=h.leaves k;have h3:=(h.can k).rhs (l k) hr;have hv:(T (k+1)).g R=(T k).g R-(T k).g (e k)*((T k).a (l k) R/(T k).a (l k) (e k)):=by rw[h.next];rfl
 have hq:0<=(T k).a (l k) R/(T k).a (l k) (e k):=by
  have:=fY h3 (Rat.le_of_lt (Rat.inv_pos.2 hp));rwa [Rat.div_def]
 have hm:=fY (a := -(T k).g (e k)) (by grind) hq;refine⟨by rw[hv];grind,fun e1 => ?_⟩;rw[hv] at e1;have h0:(T k).g (e k)*((T k).a (l k) R/(T k).a (l k) (e k))=0:=by grind
 rcases Rat.mul_eq_zero.1 h0 with h4 | h4
 .grind
 .rw[Rat.div_def] at h4
  rcases Rat.mul_eq_zero.1 h4 with h5 | h5
  .exact h5
  .have h6:(T k).a (l k) (e k)*((T k).a (l k) (e k))⁻¹=1:=Rat.mul_inv_cancel _ (by grind)
   rw[h5] at h6;grind
theorem Run.value_le(h:Run m C R T e l):∀ {k:Nat},i<=k->(T i).g R<=(T k).g R:=by
 intro k
 induction k with
 | zero=>intro hk;obtain rfl:i=0:=(by omega);exact Rat.le_refl
 | succ k ih=>
  intro hk
  by_cases e1:i=k+1
  .subst e1;exact Rat.le_refl
  .have:=ih (by omega)
   have:=(h.value k).1
   grind
def InB(m:Nat)(T:Tab)(v:Nat):Prop:=∃ r,r<m/\T.B r=v
theorem Run.inB_next(h:Run m C R T e l)(hv:v≠e k)(hl:v≠(T k).B (l k)):InB m (T (k+1)) v<->InB m (T k) v:=by
 rw[h.next]
 constructor
 .rintro⟨r,hr,hB⟩
  have hB:(if r=l k then e k else(T k).B r)=v:=hB
  split at hB
  .exact absurd hB.symm hv
  .exact⟨r,hr,hB⟩
 .rintro⟨r,hr,hB⟩
  refine⟨r,hr,?_⟩;show(if r=l k then e k else(T k).B r)=v;rw[if_neg (fun e1=>hl (by rw[<- e1];exact hB.symm))];exact hB
theorem Run.inB_new(h:Run m C R T e l):InB m (T (k+1)) (e k):=by
 rw[h.next];exact⟨l k,(h.leaves k).1,by show(if l k=l k then e k else(T k).B (l k))=e k;rw[if_pos rfl]⟩
theorem Run.inB_old(h:Run m C R T e l):¬ InB m (T k) (e k):=by
 rintro⟨r,hr,hB⟩;exact(h.can k).fresh (h.enters k).2.1 hr hB
theorem Run.out(h:Run m C R T e l)(h0:¬ InB m (T i) v):∀ {k:Nat},i<=k->(∀ q,i<=q->q<k->e q≠v)->¬ InB m (T k) v:=by
 intro k
 induction k with
 | zero=>intro hk _;obtain rfl:i=0:=(by omega);exact h0
 | succ k ih=>
  intro hk hq
  by_cases e1:i=k+1
  .subst e1;exact h0
  .have h1:=ih (by omega) fun q a b=>hq q a (by omega)
   intro h2
   by_cases e2:v=(T k).B (l k)
   .exact h1 ⟨l k,(h.leaves k).1,e2.symm⟩
   .exact h1 ((h.inB_next (hq k (by omega) (by omega)).symm e2).1 h2)
theorem Run.stay(h:Run m C R T e l)(h0:InB m (T i) v):∀ {k:Nat},i<=k->(∀ q,i<=q->q<k->(T q).B (l q)≠v)->InB m (T k) v:=by
 intro k
 induction k with
 | zero=>intro hk _;obtain rfl:i=0:=(by omega);exact h0
 | succ k ih=>
  intro hk hq
  by_cases e1:i=k+1
  .subst e1;exact h0
  .have h1:=ih (by omega) fun q a b=>hq q a (by omega)
   by_cases e2:v=e k
   .rw[e2];exact h.inB_new
   .exact(h.inB_next e2 (hq k (by omega) (by omega)).symm).2 h1
def dir(m:Nat)(T:Tab)(s:Nat)(f:Nat->Rat):Rat:=f s-Z25 m fun r=>f (T.B r)*T.a r s
theorem D98{T:Tab}:dir m T s (fun j=>f j+g j)=dir m T s f+dir m T s g:=by
 unfold dir;rw[show(Z25 m fun r=>(f (T.B r)+g (T.B r))*T.a r s)=Z25 m (fun r=>f (T.B r)*T.a r s)+Z25 m fun r=>g (T.B r)*T.a r s by rw[<- K82];exact Q35 fun i _=>by grind]
 grind
theorem U104{T:Tab}{k:Rat}:dir m T s (fun j=>k*f j)=k*dir m T s f:=by
 unfold dir;rw[show(Z25 m fun r=>k*f (T.B r)*T.a r s)=k*Z25 m fun r=>f (T.B r)*T.a r s by rw[<- W74];exact Q35 fun i _=>by grind]
 grind
theorem W107{T:Tab}(h:J44 m C R T)(hr:r<m):dir m T s (T.a r)=0:=by
 unfold dir;rw[R71 hr fun i hi hn=>by rw[h.unit r i hr hi,if_neg (fun e=>hn e.symm)];simp,h.unit r r hr hr,if_pos rfl]
 grind
theorem D105{T:Tab}:dir m T s (fun _=>0)=0:=by
 unfold dir;rw[D71 fun _ _=>by simp];grind
theorem X94{T:Tab}(h:J44 m C R T)(hf:X23 m T f):dir m T s f=0:=by
 obtain⟨c,hc⟩:=hf;have e1:f=fun j=>Z25 m fun r=>c r*T.a r j:=funext hc
 have:∀ n,n<=m->dir m T s (fun j=>Z25 n fun r=>c r*T.a r j)=0:=by
  intro n
  induction n with
  | zero=>exact fun _=>D105
  | succ n ih=>
   intro hn;have:=D98 (m:=m) (T:=T) (s:=s) (f:=fun j=>Z25 n fun r=>c r*T.a r j) (g:=fun j=>c n*T.a n j);rw[ih (by omega),U104,W107 h (by omega)] at this;simp only[W33];rw[this];grind
 rw[e1];exact this m (aD m)
theorem E103{T:Tab}(h:J44 m C R T):dir m T s T.g=T.g s:=by
 unfold dir;rw[D71 fun r hr=>by rw[h.goal r hr];simp];grind
theorem Run.no_cycle(h:Run m C R T e l){j:Nat}(an:i<j)(hB:∀ r,r<m->(T i).B r=(T j).B r):False:=by
 obtain⟨av,aw⟩:=h.span (eG an);obtain⟨sa,sg⟩:=Y93 (h.can i) (h.can j) hB av aw;have a5:∀ k,i<=k->k<=j->(T k).g R=(T i).g R:=fun k h1 h2=>by
  have a1:=h.value_le h1;have a2:=h.value_le h2;rw[sg R] at a2
  grind
 have U:∀ k,i<=k->k<j->(T k).a (l k) R=0:=fun k h1 h2=>(h.value k).2 (by rw[a5 k h1 (by omega),a5 (k+1) (by omega) (by omega)])
 have a7:∀ k,i<=k->k<=j->∀ r,r<m->(T k).a r R=(T i).a r R:=by
  intro k
  induction k with
  | zero=>intro h1 _ r _;obtain rfl:i=0:=(by omega);rfl
  | succ k ih=>
   intro h1 h2 r hr
   by_cases e1:i=k+1
   .rw[<- e1]
   .have hk:=ih (by omega) (by omega)
    have hd:=U k (by omega) (by omega);rw[h.next];show(if r=l k then(T k).a (l k) R/(T k).a (l k) (e k) else(T k).a r R-(T k).a r (e k)*((T k).a (l k) R/(T k).a (l k) (e k)))=_;rw[hd,zdiv]
    split
    .rename_i e2
     rw[e2,<- hk _ (h.leaves k).1,hd]
    .rw[<- hk r hr];grind
 have ae:∀ r,r<m->(∃ k,i<=k/\k<j/\l k=r)->∀ q,i<=q->q<=j->(T q).a r R=0:=by
  rintro r hr ⟨k,h1,h2,rfl⟩ q h3 h4;rw[a7 q h3 h4 _ hr,<- a7 k h1 (by omega) _ hr];exact U k h1 h2
 have a6:∀ v,InB m (T i) v<->InB m (T j) v:=fun v=>⟨fun⟨r,hr,e1⟩=>⟨r,hr,by rw[<- hB r hr];exact e1⟩,fun⟨r,hr,e1⟩=>⟨r,hr,by rw[hB r hr];exact e1⟩⟩
 obtain⟨k1,ad,az,V⟩:∃ k1,i<=k1/\k1<j/\∀ k,i<=k->k<j->e k<=e k1:=by
  have:∀ n,i+n+1<=j->∃ k1,i<=k1/\k1<=i+n/\∀ k,i<=k->k<=i+n->e k<=e k1:=by
   intro n
   induction n with
   | zero=>exact fun _=>⟨i,aD _,by omega,fun k a b=>by obtain rfl:k=i:=(by omega);exact aD _⟩
   | succ n ih=>
    intro hn;obtain⟨k1,a,b,c⟩:=ih (by omega)
    by_cases a0:e (i+n+1)<=e k1
    .refine⟨k1,a,by omega,fun k p q => ?_⟩
     by_cases e1:k=i+n+1
     .rw[e1];exact a0
     .exact c k p (by omega)
    .refine⟨i+n+1,by omega,by omega,fun k p q => ?_⟩
     by_cases e1:k=i+n+1
     .rw[e1];exact aD _
     .have:=c k p (by omega);omega
  obtain⟨k1,a,b,c⟩:=this (j-i-1) (by omega);exact⟨k1,a,by omega,fun k p q=>c k p (by omega)⟩
 generalize ht:e k1=t at V;obtain⟨k2,Q,al,E⟩:∃ k2,i<=k2/\k2<j/\(T k2).B (l k2)=t:=by
  refine aI fun J => ?_
  have J:∀ k,i<=k->k<j->(T k).B (l k)≠t:=fun k a b c=>J ⟨k,a,b,c⟩
  have h3:InB m (T j) t:=h.stay (i:=k1+1) (by rw[<- ht];exact h.inB_new) (by omega) fun q a b=>J q (by omega) b
  have h4:InB m (T k1) t:=h.stay (i:=i) ((a6 t).2 h3) ad fun q a b=>J q a (by omega)
  rw[<- ht] at h4;exact h.inB_old h4
 have a3:∀ v,(∀ k,i<=k->k<j->e k≠v)->∀ k k',i<=k->k<=j->i<=k'->k'<=j->InB m (T k) v->InB m (T k') v:=by
  intro v hv k k' a b c d ac;have hi:InB m (T i) v:=aI fun hn=>h.out hn a (fun q x y=>hv q x (by omega)) ac
  refine aI fun hn => ?_
  exact h.out hn d (fun q x y=>hv q (by omega) y) ((a6 v).1 hi)
 have a9:X23 m (T k2) fun q=>(T k1).g q-(T k2).g q:=by
  by_cases a0:k2<=k1
  .exact(h.span a0).2
  .have s1:=h.span (i:=i) (k:=k1) ad
   have s2:=h.span (i:=k2) (k:=j) (by omega);have s3:∀ r,r<m->X23 m (T k2) ((T i).a r):=fun r hr=>by
    have:=s2.1 r hr;rwa [show(T j).a r=(T i).a r from funext fun q=>sa r hr q] at this
   have s4:=X23.trans s3 s1.2;exact(s2.2.add s4).of fun q=>by rw[sg q];grind
 generalize a4:e k2=s at *
 have ag:dir m (T k2) s (T k1).g=(T k2).g s:=by
  have h1:=D98 (m:=m) (T:=T k2) (s:=s) (f:=fun q=>(T k1).g q-(T k2).g q) (g:=(T k2).g);rw[X94 (h.can k2) a9,E103 (h.can k2)] at h1;rw[show(fun q=>((T k1).g q-(T k2).g q)+(T k2).g q)=(T k1).g from funext fun q=>by grind] at h1;rw[h1];grind
 have ay:(T k2).g s<0:=by rw[<- a4];exact(h.enters k2).2.1
 have b3:(T k1).g t<0:=by rw[<- ht];exact(h.enters k1).2.1
 have O:∀ v,v<t->0<=(T k1).g v:=fun v hv=>(h.enters k1).2.2 v (by rw[ht];exact hv)
 obtain⟨aa,ab,Z⟩:=h.leaves k2;rw[a4] at ab Z;have aq:s<t:=by
  have h1:s<=t:=by rw[<- a4];exact V k2 Q al
  have h2:s≠t:=fun e1=>h.inB_old (k:=k2) ⟨l k2,aa,by rw[a4,e1];exact E⟩
  omega
 have a8:∀ r,r<m->(T k1).g ((T k2).B r)*(T k2).a r s<=0:=by
  intro r hr
  by_cases ah:r=l k2
  .rw[ah,E]
   have:=fY (a := -(T k1).g t) (b:=(T k2).a (l k2) s) (by grind) (Rat.le_of_lt ab)
   grind
  .by_cases hE:∃ k,i<=k/\k<j/\e k=(T k2).B r
   .obtain⟨k,a,b,c⟩:=hE
    have ap:(T k2).B r<t:=by
     have h1:(T k2).B r<=t:=by rw[<- c];exact V k a b
     have h2:(T k2).B r≠t:=fun e1=>ah ((h.can k2).inj hr aa (e1.trans E.symm))
     omega
    have ai:∃ q,i<=q/\q<j/\l q=r:=by
     refine aI fun J => ?_
     have J:∀ q,i<=q->q<j->l q≠r:=fun q x y z=>J ⟨q,x,y,z⟩
     have W:∀ q,i<=q->q<=j->(T q).B r=(T i).B r:=by
      intro q
      induction q with
      | zero=>intro x _;obtain rfl:i=0:=(by omega);rfl
      | succ q ih=>
       intro x y
       by_cases e1:i=q+1
       .rw[<- e1]
       .rw[h.next]
        show(if r=l q then e q else(T q).B r)=_;rw[if_neg (fun e2=>J q (by omega) (by omega) e2.symm)];exact ih (by omega) (by omega)
     exact h.inB_old (k:=k) ⟨r,hr,by rw[c,W k a (by omega),W k2 Q (by omega)]⟩
    have hz:=ae r hr ai k2 Q (by omega);have ax:=U k2 Q al;have a0:(T k2).a r s<=0:=by
     refine aI fun hn => ?_
     have aj:0<(T k2).a r s:=by grind
     rcases Z r hr aj with h1 | ⟨_,h1⟩
     .rw[hz,ax,zdiv,zdiv] at h1;grind
     .rw[E] at h1;omega
    have:=fY (O _ ap) (b := -(T k2).a r s) (by grind)
    grind
   .have ac:InB m (T k1) ((T k2).B r):=a3 _ (fun k a b c=>hE ⟨k,a,b,c⟩) k2 k1 Q (by omega) ad (by omega) ⟨r,hr,rfl⟩
    obtain⟨r1,ao,e1⟩:=ac;rw[<- e1,(h.can k1).goal r1 ao];simp
 have au:(T k1).g ((T k2).B (l k2))*(T k2).a (l k2) s<0:=by
  rw[E];have:=Rat.mul_pos (a := -(T k1).g t) (b:=(T k2).a (l k2) s) (by grind) ab
  grind
 have ak:0<Z25 m fun r=>(-1:Rat)*((T k1).g ((T k2).B r)*(T k2).a r s):=U94 aa (fun r hr=>by have:=a8 r hr;grind) (by grind)
 rw[W74] at ak;unfold dir at ag;have h0:=O s aq
 grind
def G6(C:Nat)(B:Nat->Nat)(n:Nat):Nat:=n.rec 0 fun k s=>s*C+B k
theorem Z98{C:Nat}{B:Nat->Nat}:∀ {n:Nat},(∀ i,i<n->B i<C)->G6 C B n<C^n
 | 0,_=>Nat.lt_succ_self 0
 | n+1,h=>by
  have h1:=Z98 (n:=n) fun i hi=>h i (by omega)
  have h2:=h n (by omega);show G6 C B n*C+B n<C^(n+1);rw[dR];have h3:(G6 C B n+1)*C<=C^n*C:=dS C h1;rw[dM,Nat.one_mul] at h3;omega
theorem Q94{C:Nat}{B B':Nat->Nat}:∀ {n:Nat},(∀ i,i<n->B i<C)->(∀ i,i<n->B' i<C)->G6 C B n=G6 C B' n->∀ i,i<n->B i=B' i
 | 0,_,_,_,i,hi=>by omega
 | n+1,h,h',e1,i,hi=>by
  have e1:G6 C B n*C+B n=G6 C B' n*C+B' n:=e1;have h1:=h n (by omega);have h2:=h' n (by omega);have hq:G6 C B n=G6 C B' n:=by
   have a:(G6 C B n*C+B n)/C=(G6 C B' n*C+B' n)/C:=by rw[e1]
   rw[cG,cG (G6 C B' n),Nat.mul_add_div (by omega),Nat.mul_add_div (by omega),Nat.div_eq_of_lt h1,Nat.div_eq_of_lt h2] at a;simpa using a
  have hr:B n=B' n:=by rw[hq] at e1;omega
  by_cases e2:i=n
  .rw[e2];exact hr
  .exact Q94 (n:=n) (fun i hi=>h i (by omega)) (fun i hi=>h' i (by omega)) hq i (by omega)
theorem G109{N:Nat}{f:Nat->Nat}(h:∀ k,f k<N):∃ i j,i<j/\f i=f j:=by
 refine aI fun E => ?_
 have E:∀ i j,i<j->f i≠f j:=fun i j a b=>E ⟨i,j,a,b⟩
 have:∀ N,∀ s:Nat->Nat,(∀ i j,i<j->s i<s j)->(∀ k,f (s k)<N)->False:=by
  intro N
  induction N with
  | zero=>intro s _ h;exact absurd (h 0) (by omega)
  | succ N ih=>
   intro s hs h
   by_cases hx:∃ k,f (s k)=N
   .obtain⟨k,hk⟩:=hx
    refine ih (fun i=>s (k+1+i)) (fun i j J=>hs _ _ (by omega)) fun q => ?_
    have h1:=h (k+1+q);have h2:=E (s k) (s (k+1+q)) (hs _ _ (by omega));rw[hk] at h2;omega
   .exact ih s hs fun k=>by
     have h1:=h k;have h2:f (s k)≠N:=fun e1=>hx ⟨k,e1⟩
     omega
 exact this N id (fun i j J=>J) h
theorem Run.false(h:Run m C R T e l):False:=by
 obtain⟨i,j,E,e1⟩:=G109 (f:=fun k=>G6 C (T k).B m) fun k=>Z98 (h.can k).lt
 exact h.no_cycle E fun r hr=>Q94 (h.can i).lt (h.can j).lt e1 r hr
end
end
section
variable {A B M N:Nat} {T T':Tab} {x y:Rat}
def Sz(M:Nat)(x:Rat):Prop:=x.num.natAbs<=M/\x.den<=M
theorem Sz.mono{M':Nat}(h:Sz M x)(e:M<=M'):Sz M' x:=⟨bK h.1 e,bK h.2 e⟩
theorem Z102(a:Int)(b:Nat)(hb:b≠0):(mkRat a b).num.natAbs<=a.natAbs/\(mkRat a b).den<=b:=by
 rw[show mkRat a b=Rat.normalize a b hb from by unfold mkRat;rw[dif_neg hb]];rw[Rat.normalize_eq];refine⟨?_,Nat.div_le_self _ _⟩;show(a/_).natAbs<=_;exact Int.natAbs_ediv_le_natAbs _ _
theorem Sz.mul(hx:Sz A x)(hy:Sz B y):Sz (A*B) (x*y):=by
 have h:=Z102 (x.num*y.num) (x.den*y.den) (Nat.mul_ne_zero x.den_nz y.den_nz);have e:x*y=mkRat (x.num*y.num) (x.den*y.den):=Rat.mul_def' x y;rw[e];refine⟨bK h.1 ?_,bK h.2 (eL hx.2 hy.2)⟩;rw[Int.natAbs_mul];exact eL hx.1 hy.1
theorem Sz.inv(hA:1<=A)(hx:Sz A x):Sz A x⁻¹:=by
 by_cases h0:x=0
 .subst h0
  rw[Rat.inv_zero];exact⟨by simp,by simpa using hA⟩
 .refine⟨?_,?_⟩
  .rw[Rat.num_inv,Int.natAbs_mul,Int.natAbs_sign,if_neg (by simpa using h0)]
   simpa using hx.2
  .rw[Rat.den_inv,if_neg (fun e=>h0 (Rat.num_eq_zero.1 e))];exact hx.1
theorem Sz.div(hB:1<=B)(hx:Sz A x)(hy:Sz B y):Sz (A*B) (x/y):=by
 rw[Rat.div_def];exact hx.mul (hy.inv hB)
theorem Sz.sub(hx:Sz A x)(hy:Sz B y):Sz (A*B+B*A) (x-y):=by
 have h:=Z102 (x.num*y.den-y.num*x.den) (x.den*y.den) (Nat.mul_ne_zero x.den_nz y.den_nz);have e:x-y=mkRat (x.num*y.den-y.num*x.den) (x.den*y.den):=Rat.sub_def' x y;rw[e];refine⟨bK h.1 ?_,bK h.2 (bK (eL hx.2 hy.2) (Nat.le_add_right _ _))⟩;have h1:(x.num*y.den-y.num*x.den:Int).natAbs<=(x.num*y.den:Int).natAbs+(y.num*x.den:Int).natAbs:=Int.natAbs_sub_le _ _;rw[Int.natAbs_mul,Int.natAbs_mul] at h1;refine bK h1 (Nat.add_le_add (eL hx.1 hy.2) (eL hy.1 hx.2))
variable {m C R:Nat}
def TSz(m N M:Nat)(T:Tab):Prop:=(∀ i j,i<m->j<N->Sz M (T.a i j))/\∀ j,j<N->Sz M (T.g j)
theorem TSz.mono{N M M':Nat}{T:Tab}(h:TSz m N M T)(e:M<=M'):TSz m N M' T:=⟨fun i j hi hj=>(h.1 i j hi hj).mono e,fun j hj=>(h.2 j hj).mono e⟩
def U44(M:Nat):Nat:=M*(M*(M*M))+M*(M*M)*M
def Z82(M:Nat):Nat->Nat
 | 0=>M
 | n+1=>U44 (Z82 M n)
def expN:Nat->Nat
 | 0=>0
 | n+1=>4*expN n+1
theorem N106(h:1<=M):M<=U44 M:=by
 unfold U44;have h1:1<=M*(M*M):=Nat.mul_pos h (Nat.mul_pos h h);have h2:M*1<=M*(M*(M*M)):=bP M h1;omega
theorem TSz.pivot{N M r c:Nat}{T:Tab}(hM:1<=M)(h:TSz m N M T)(hr:r<m)(hc:c<N):TSz m N (U44 M) (pivot T r c):=by
 have hq:∀ j,j<N->Sz (M*M) (T.a r j/T.a r c):=fun j hj=>(h.1 r j hr hj).div hM (h.1 r c hr hc)
 refine⟨fun i j hi hj => ?_,fun j hj => ?_⟩
 .show Sz _ (if i=r then T.a r j/T.a r c else T.a i j-T.a i c*(T.a r j/T.a r c))
  split
  .refine(hq j hj).mono ?_
   unfold U44;have h2:M*M*1<=M*M*(M*M):=bP _ (Nat.mul_pos hM hM);have e1:M*M*(M*M)=M*(M*(M*M)):=by rw[eE]
   omega
  .exact(h.1 i j hi hj).sub ((h.1 i c hi hc).mul (hq j hj))
 .exact(h.2 j hj).sub ((h.2 c hc).mul (hq j hj))
structure Uni (m C:Nat) (T:Tab):Prop where
 lt:∀ i,i<m->T.B i<C
 unit:∀ i k,i<m->k<m->T.a i (T.B k)=if i=k then 1 else 0
 goal:∀ k,k<m->T.g (T.B k)=0
theorem J44.uni(h:J44 m C R T):Uni m C T:=⟨h.lt,h.unit,h.goal⟩
theorem Uni.inj(h:Uni m C T){i k:Nat}(hi:i<m)(hk:k<m)(e:T.B i=T.B k):i=k:=by
 have h1:=h.unit i k hi hk;have h2:=h.unit i i hi hi;rw[e,h1] at h2
 by_cases g:i=k
 .exact g
 .simp[g] at h2
theorem Uni.pivot{T:Tab}(h:Uni m C T){c r:Nat}(hc:c<C)(hr:r<m)(O:T.a r c≠0):Uni m C (pivot T r c):=by
 have J:T.a r c/T.a r c=1:=by grind
 have hz:∀ k,k<m->k≠r->T.a r (T.B k)/T.a r c=0:=fun k hk E=>by
  rw[h.unit r k hr hk,if_neg (by omega)];grind
 refine⟨fun i hi => ?_,fun i k hi hk => ?_,fun k hk => ?_⟩
 .show(if i=r then c else T.B i)<C
  split
  .exact hc
  .exact h.lt i hi
 .show(if i=r then T.a r (if k=r then c else T.B k)/T.a r c else T.a i (if k=r then c else T.B k)-T.a i c*(T.a r (if k=r then c else T.B k)/T.a r c))=_
  by_cases E:k=r
  .simp only[E,if_true,J]
   split
   .rfl
   .grind
  .simp only[E,if_false,hz k hk E]
   split
   .rename_i e
    rw[if_neg (by omega)]
   .rw[h.unit i k hi hk];grind
 .show T.g (if k=r then c else T.B k)-T.g c*(T.a r (if k=r then c else T.B k)/T.a r c)=0
  by_cases E:k=r
  .simp only[E,if_true,J];grind
  .simp only[E,if_false,hz k hk E,h.goal k hk];grind
structure Eqv (m:Nat) (T T':Tab):Prop where
 to:∀ r,r<m->X23 m T (T'.a r)
 back:∀ r,r<m->X23 m T' (T.a r)
 goal:X23 m T fun j=>T'.g j-T.g j
theorem Eqv.refl(T:Tab):Eqv m T T:=⟨fun r hr=>X23.row hr,fun r hr=>X23.row hr,X23.zero.of fun j=>by grind⟩
theorem Eqv.symm(h:Eqv m T T'):Eqv m T' T:=⟨h.back,h.to,((X23.trans h.back h.goal).smul (-1)).of fun j=>by grind⟩
theorem Eqv.trans{T T' T2:Tab}(h:Eqv m T T')(h':Eqv m T' T2):Eqv m T T2:=
 ⟨fun r hr=>X23.trans h.to (h'.to r hr),fun r hr=>X23.trans h'.back (h.back r hr),(h.goal.add (X23.trans h.to h'.goal)).of fun j=>by grind⟩
theorem Eqv.pivot{T:Tab}{r c:Nat}(hr:r<m)(E:T.a r c≠0):Eqv m T (pivot T r c):=by
 refine⟨fun i hi=>U88 hr hi,fun i hi => ?_,K91 hr⟩;have h0:X23 m (Lp.pivot T r c) ((Lp.pivot T r c).a r):=X23.row hr
 by_cases e:i=r
 .subst e
  refine(h0.smul (T.a i c)).of fun j => ?_
  show T.a i j=T.a i c*(if i=i then T.a i j/T.a i c else _)
  rw[if_pos rfl];grind
 .refine((X23.row (T:=Lp.pivot T r c) hi).add (h0.smul (T.a i c))).of fun j => ?_
  show T.a i j=(if i=r then _ else T.a i j-T.a i c*(T.a r j/T.a r c))+T.a i c*(if r=r then T.a r j/T.a r c else _)
  rw[if_neg e,if_pos rfl];grind
theorem X82(h:Uni m C T){f:Nat->Rat}(hf:X23 m T f):∀ j,f j=Z25 m fun r=>f (T.B r)*T.a r j:=by
 obtain⟨c,hc⟩:=hf;have hk:∀ k,k<m->f (T.B k)=c k:=fun k hk=>by
  rw[hc (T.B k),R71 hk fun r hr hn=>by rw[h.unit r k hr hk,if_neg hn];simp,h.unit k k hk hk,if_pos rfl];grind
 intro j;rw[hc j];exact Q35 fun r hr=>by rw[hk r hr]
theorem R110(a4:C<=N)(J:Uni m C T'):∀(n:Nat),n<=m->∀ {T:Tab} {M:Nat},1<=M->Uni m C T->Eqv m T T'->TSz m N M T ->
  ∃(T1:Tab) (M1:Nat),M1=Z82 M n/\1<=M1/\Uni m C T1/\Eqv m T1 T'/\TSz m N M1 T1/\∀ r,r<n->∃ i,i<m/\T1.B i=T'.B r:=by
 intro n
 induction n with
 | zero=>exact fun _ T M hM hu he hs=>⟨T,M,rfl,hM,hu,he,hs,fun r hr=>by omega⟩
 | succ n ih=>
  intro hn T M hM hu he hs;obtain⟨T1,M1,e1,V,E,O,Z,W⟩:=ih (by omega) hM hu he hs;have eg:U44 M1=Z82 M (n+1):=by rw[e1];rfl
  have a2:=N106 V
  by_cases a0:∃ i,i<m/\T1.B i=T'.B n
  .refine⟨T1,U44 M1,eg,by omega,E,O,Z.mono a2,fun r hr => ?_⟩
   by_cases e:r=n
   .rw[e];exact a0
   .exact W r (by omega)
  ·
   have a1:∃ i,i<m/\(∀ s,s<m->T1.B i≠T'.B s)/\T1.a i (T'.B n)≠0:=by
    refine aI fun a3 => ?_
    have h1:=X82 E (O.to n (by omega)) (T'.B n);rw[J.unit n n (by omega) (by omega),if_pos rfl] at h1;rw[D71 fun i hi => ?_] at h1
    .grind
    .by_cases hw:∃ s,s<m/\T1.B i=T'.B s
     .obtain⟨s,hs,e⟩:=hw
      rw[e,J.unit n s (by omega) hs]
      by_cases e2:n=s
      .subst e2;exact absurd ⟨i,hi,e⟩ a0
      .rw[if_neg e2];grind
     .by_cases h2:T1.a i (T'.B n)=0
      .rw[h2];grind
      .exact absurd ⟨i,hi,fun s hs e=>hw ⟨s,hs,e⟩,h2⟩ a3
   obtain⟨i,hi,Q,U⟩:=a1;have hc:=J.lt n (by omega);refine⟨pivot T1 i (T'.B n),U44 M1,eg,by omega,E.pivot hc hi U,(Eqv.pivot hi U).symm.trans O,Z.pivot V hi (by omega),fun r hr => ?_⟩
   by_cases e:r=n
   .exact⟨i,hi,by rw[e];show(if i=i then _ else _)=_;rw[if_pos rfl]⟩
   .obtain⟨k,hk,e3⟩:=W r (by omega)
    refine⟨k,hk,?_⟩;show(if k=i then _ else T1.B k)=_;rw[if_neg fun e4=>Q r (by omega) (by rw[<- e4];exact e3)];exact e3
theorem U100(V:C<=N)(hM:1<=M)(hT:Uni m C T)(E:Uni m C T')(he:Eqv m T T')(hs:TSz m N M T):TSz m N (Z82 M m) T':=by
 obtain⟨T1,M1,e1,W,J,Q,U,O⟩:=R110 V E m (aD m) hM hT he hs;rw[<- e1];refine⟨fun r j hr hj => ?_,fun j hj => ?_⟩
 .obtain⟨i,hi,e⟩:=O r hr
  have h1:=X82 E (Q.back i hi) j;rw[R71 hr fun s hs hn => ?_,<- e,J.unit i i hi hi,if_pos rfl] at h1
  .have:=U.1 i j hi hj
   rwa [h1,Rat.one_mul] at this
  .obtain⟨k,hk,e2⟩:=O s hs
   rw[<- e2,J.unit i k hi hk,if_neg,Rat.zero_mul];intro e3;subst e3;exact hn (E.inj hs hr (e2.symm.trans e))
 .have h1:=X82 E Q.symm.goal j
  rw[D71 fun s hs => ?_] at h1
  .have:=U.2 j hj
   rwa [show T1.g j=T'.g j by grind] at this
  .obtain⟨k,hk,e2⟩:=O s hs
   rw[E.goal s hs,<- e2,J.goal k hk];grind
theorem N105(e:Nat):U44 (2^e)=2^(4*e+1):=by
 unfold U44;rw[<- Nat.pow_add,<- Nat.pow_add,<- Nat.pow_add,<- Nat.pow_add,show e+(e+(e+e))=4*e by omega,show e+(e+e)+e=4*e by omega,dR];omega
theorem X111{m:Nat}(h:m<=8):Z82 1 m<=2^expN 8:=by
 have E:∀ k,Z82 1 k=2^expN k:=by
  intro k
  induction k with
  | zero=>rfl
  | succ k ih=>
   show U44 (Z82 1 k)=2^(4*expN k+1);rw[ih,N105]
 rw[E];refine aK (by omega) ?_
 match m,h with
 | 0,_=>decide
 | 1,_=>decide
 | 2,_=>decide
 | 3,_=>decide
 | 4,_=>decide
 | 5,_=>decide
 | 6,_=>decide
 | 7,_=>decide
 | 8,_=>decide
end
end Go.Lp
namespace Go.Clo
section
variable {B:Nat->Nat} {H:Y0} {b i m n nx:Nat} {c l:List Value}
theorem D0.both{lo:Nat}{H1:Y0}{n1:Nat}{H2:Y0}{n2:Nat}(a:D0 H lo H1 n1)(b:D0 H1 lo H2 n2):D0 H lo H2 n2:=⟨b.le,fun i hi=>(b.get i hi).trans (a.get i hi)⟩
theorem RR.num{v:Value}{x:Rat}(h:RR H nx v x):∃ c,v = .agg ⟨c⟩/\V7 c:=by
 obtain⟨A0,l0,c0,C0,m0,d0,rfl,_,_⟩:=h.form;exact⟨_,rfl,_,_,_,_,_,_,_,rfl⟩
theorem X15(h:V7 c)(k:VP):B10 c 0 (some 3) k=k (.agg ⟨c⟩):=by
 have:=J22 (css:=[c]) (q:=0) (c:=c) (fun d hd=>by simp at hd;subst hd;exact h.three) rfl k;simpa using this
theorem V7.one{c:List Value}(h:V7 c):Z0 c=true:=by obtain⟨s,A,l,q,C,l',q',rfl⟩:=h;rfl
theorem W81(h:V7 c):∀(q:Nat) (z:Int),c[q]? ≠ some (cD .u32 z):=by
 obtain⟨s,A,l,k,C,l',k',rfl⟩:=h;exact E46 _ _ _ _ _ _ _
theorem NN.boxs{nx i n sl s':Nat}{v:Value}{row row':List Value}(h:NN H nx v n)(hg:J0 H i=some (.cells row sl))(hr:∀(q:Nat)(z:Int),row[q]? ≠ some (cD .u32 z))(hs':s'=0\/s'=1):NN (hs H i (some (.cells row' s'))) nx v n:=by
 obtain⟨A,c,rfl,hD⟩:=h;refine⟨A,c,rfl,?_,?_,hD.small,hD.le⟩
 .intro j x hx
  obtain⟨b,o,E,e1,e2,e3,e4⟩:=hD.sl j x hx
  by_cases hb:b=i
  .subst hb
   have e5:E=row:=by rw[Q5,hg] at e3;exact(fA e3).symm
   subst e5;have:∃ z,x = .int .u32 z:=by
    simp only[K12,cP,bU] at hx;obtain⟨d,_,rfl⟩:=hx;exact⟨_,rfl⟩
   obtain⟨z,rfl⟩:=this;exact absurd e4 (hr _ z)
  .exact⟨b,o,E,e1,e2,by rw[Q5,Z1 _ hb];exact e3,e4⟩
 .rcases hD.sk with e | ⟨b,o,E,e1,e2,e3⟩
  .exact .inl e
  .by_cases hb:b=i
   .subst hb
    exact .inr ⟨b,o,row',e1,e2,.inr ⟨s',hs',Z11 _ _ _⟩⟩
   .exact .inr ⟨b,o,E,e1,e2,by rw[Z1 _ hb];exact e3⟩
theorem RR.boxs{H:Y0}{nx i sl s':Nat}{v:Value}{x:Rat}{row row':List Value}(h:RR H nx v x)(hg:J0 H i=some (.cells row sl))(hr:∀(q:Nat)(z:Int),row[q]? ≠ some (cD .u32 z))(hs':s'=0\/s'=1):RR (hs H i (some (.cells row' s'))) nx v x:=
 let ⟨a,b,h1,h2,h3⟩:=h;⟨a,b,h1,NN.boxs h2 hg hr hs',NN.boxs h3 hg hr hs'⟩
theorem RO.first{X:Nat->Rat}(h:RO H nx b n X)(hn:0<n):∃ css:List (List Value),J0 H b=some (.cells css.flatten 0)/\∃ s,css.flatten[0]? = some (.bool s):=by
 obtain⟨css,hg,hb,hl,hx⟩:=h;refine⟨css,hg,?_⟩
 match css,hl with
 | [],hl=>simp at hl;omega
 | c :: css,_=>
  obtain⟨s,A,l,k,C,l',k',rfl⟩:=hx.tri c (by simp);exact⟨s,by simp⟩
theorem RO.ne{q sl:Nat}{X:Nat->Rat}(h:RO H nx b n X)(hn:0<n)(hg:J0 H q=some (.cells l sl))(h0:∀ s,l[0]? ≠ some (.bool s)):b≠q:=by
 rintro rfl;obtain⟨css,E,s,hs⟩:=h.first hn;rw[hg] at E
 cases E
 exact h0 s hs
theorem RO.boxs{H:Y0}{nx b n q sl s':Nat}{X:Nat->Rat}{l l':List Value}(h:RO H nx b n X)(J:b≠q)(hg:J0 H q=some (.cells l sl))(hr:∀(q:Nat)(z:Int),l[q]? ≠ some (cD .u32 z))(hs':s'=0\/s'=1):
  RO (hs H q (some (.cells l' s'))) nx b n X:=by
 obtain⟨css,E,hb,hl,hx⟩:=h;exact⟨css,by rw[Z1 _ J];exact E,hb,hl,fun i c hc=>(hx i c hc).boxs hg hr hs'⟩
theorem RO.more{H:Y0}{nx nx' b n:Nat}{X:Nat->Rat}(h:RO H nx b n X)(e:nx<=nx'):RO H nx' b n X:=h.ext (D0.self e)
def slR(N:Nat)(bs:List Nat):List Value:=bs.map fun b => .slice (some ⟨b,0,none⟩) N N
theorem G75(N:Nat)(bs:List Nat):(slR N bs).length=bs.length:=by simp[slR]
theorem G71{N:Nat}{bs:List Nat}(h:bs[i]? = some b):(slR N bs)[i]? = some (.slice (some ⟨b,0,none⟩) N N):=by simp[slR,h]
theorem M97(N:Nat)(bs:List Nat)(i b:Nat):(slR N bs).set i (.slice (some ⟨b,0,none⟩) N N)=slR N (bs.set i b):=by unfold slR;rw[List.map_set]
theorem D88(N:Nat)(bs:List Nat):∀(q:Nat) (z:Int),(slR N bs)[q]? ≠ some (cD .u32 z):=by
 intro q z h;simp only[slR,cP,bU] at h;obtain⟨_,_,h⟩:=h
 cases h
theorem E85(N:Nat)(bs:List Nat):∀ s,(slR N bs)[0]? ≠ some (.bool s):=by
 intro s h;simp only[slR,cP,bU] at h;obtain⟨_,_,h⟩:=h
 cases h
def Z57(m:Nat)(B:Nat->Nat):List Value:=(aY m).map fun i => .int .i64 (B i:Int)
theorem B78(m:Nat)(B:Nat->Nat):(Z57 m B).length=m:=by simp[Z57]
theorem K73{B:Nat->Nat}{i:Nat}(h:i<m):(Z57 m B)[i]? = some (.int .i64 (B i:Int)):=by simp[Z57,h]
theorem G104{c:Nat}:(Z57 m B).set i (.int .i64 (c:Int))=Z57 m fun k=>if k=i then c else B k:=by
 apply dH;intro k;simp only[Z57,cQ,cP,gM,List.length_range]
 by_cases h:i=k
 .subst h
  by_cases h2:i<m
  .simp[h2]
  .simp[h2]
 .by_cases h2:k<m
  .simp[h,h2,show ¬ k=i by omega]
  .simp[h,h2]
theorem G98(m:Nat)(B:Nat->Nat):∀(q:Nat) (z:Int),(Z57 m B)[q]? ≠ some (cD .u32 z):=by
 intro q z h;simp only[Z57,cP,bU] at h;obtain⟨_,_,h⟩:=h
 cases h
theorem B95(m:Nat)(B:Nat->Nat):∀ s,(Z57 m B)[0]? ≠ some (.bool s):=by
 intro s h;simp only[Z57,cP,bU] at h;obtain⟨_,_,h⟩:=h
 cases h
def Q60(n m br cr gb bb cb:Nat):List Value:=[.int .i64 (n:Int),.int .i64 (m:Int),.slice (some ⟨br,0,none⟩) m cr,.slice (some ⟨gb,0,none⟩) (n+m+2) (n+m+2),.slice (some ⟨bb,0,none⟩) m cb]
theorem U90(n m br cr gb bb cb:Nat):∀(q:Nat) (z:Int),(Q60 n m br cr gb bb cb)[q]? ≠ some (cD .u32 z):=by
 intro q z h;unfold Q60 at h
 match q,h with
 | 0,h=>simp at h
 | 1,h=>simp at h
 | 2,h=>simp at h
 | 3,h=>simp at h
 | 4,h=>simp at h
theorem E87(n m br cr gb bb cb:Nat):∀ s,(Q60 n m br cr gb bb cb)[0]? ≠ some (.bool s):=by
 intro s h;simp[Q60] at h
theorem G78{b b' sl E:Nat}{l':List Value}(h:J0 H b=some (.cells l sl))(h':J0 H b'=some (.cells l' E))(i:Nat)(e:l[i]? ≠ l'[i]?):b≠b':=by
 rintro rfl;rw[h] at h'
 cases h'
 exact e rfl
structure TV (H:Y0) (nx lo p n m br cr gb bb cb sr sb:Nat) (bs:List Nat) (T:Lp.Tab):Prop where
 hp:J0 H p=some (.cells (Q60 n m br cr gb bb cb) 0)
 hr:J0 H br=some (.cells (slR (n+m+2) bs) sr)
 hb:J0 H bb=some (.cells (Z57 m T.B) sb)
 len:bs.length=m
 rows:∀ i b,bs[i]? = some b->RO H nx b (n+m+2) (T.a i)
 goal:RO H nx gb (n+m+2) T.g
 lop:lo<=p
 lor:lo<=br
 lob:lo<=bb
 pn:p<nx
 rn:br<nx
 bn:bb<nx
 sr1:sr=0\/sr=1
 sb1:sb=0\/sb=1
theorem TV.ext{H:Y0}{nx lo p n m br cr gb bb cb sr sb:Nat}{bs:List Nat}{T:Lp.Tab}{H':Y0}{nx':Nat}(h:TV H nx lo p n m br cr gb bb cb sr sb bs T)(e:D0 H nx H' nx'):TV H' nx' lo p n m br cr gb bb cb sr sb bs T:=by
 have:=e.le;have:=h.pn;have:=h.rn;have:=h.bn;exact⟨(e.get p h.pn).trans h.hp,(e.get br h.rn).trans h.hr,(e.get bb h.bn).trans h.hb,h.len,fun i b hb=>(h.rows i b hb).ext e,h.goal.ext e,h.lop,h.lor,h.lob,by omega,by omega,by omega,h.sr1,h.sb1⟩
section
variable {H:Y0} {nx lo p n m br cr gb bb cb sr sb:Nat} {bs:List Nat} {T:Lp.Tab}
theorem TV.pr(h:TV H nx lo p n m br cr gb bb cb sr sb bs T)(hm:0<m):p≠br:=by
 refine G78 h.hp h.hr 0 ?_;obtain⟨b,hb⟩:∃ b,bs[0]? = some b:=⟨bs[0]'(by have:=h.len;omega),aE _⟩
 rw[G71 hb];simp[Q60]
theorem TV.pb(h:TV H nx lo p n m br cr gb bb cb sr sb bs T):p≠bb:=by
 refine G78 h.hp h.hb 2 ?_
 by_cases h2:2<m
 .rw[K73 h2];simp[Q60]
 .rw[aT (l:=Z57 m T.B) (by rw[B78];omega)];simp[Q60]
theorem TV.rb(h:TV H nx lo p n m br cr gb bb cb sr sb bs T)(hm:0<m):br≠bb:=by
 refine G78 h.hr h.hb 0 ?_;obtain⟨b,hb⟩:∃ b,bs[0]? = some b:=⟨bs[0]'(by have:=h.len;omega),aE _⟩
 rw[G71 hb,K73 hm];simp
theorem TV.row(h:TV H nx lo p n m br cr gb bb cb sr sb bs T)(hi:i<m):∃ b,bs[i]? = some b/\RO H nx b (n+m+2) (T.a i):=by
 have:=h.len;exact⟨bs[i],aE _,h.rows i _ (aE _)⟩
theorem TV.congr{T':Lp.Tab}(h:TV H nx lo p n m br cr gb bb cb sr sb bs T)(ha:∀ i q,i<m->q<n+m+2->T'.a i q=T.a i q)(hg:∀ q,q<n+m+2->T'.g q=T.g q)(hB:∀ i,i<m->T'.B i=T.B i):TV H nx lo p n m br cr gb bb cb sr sb bs T':=by
 refine⟨h.hp,h.hr,?_,h.len,fun i b hb => ?_,h.goal.congr hg,h.lop,h.lor,h.lob,h.pn,h.rn,h.bn,h.sr1,h.sb1⟩
 .have e:Z57 m T'.B=Z57 m T.B:=List.map_congr_left fun i hi=>by rw[hB i (cW.1 hi)]
  rw[e];exact h.hb
 .have hi:=(aJ.1 hb).1
  exact(h.rows i b hb).congr fun q hq=>ha i q (by have:=h.len;omega) hq
theorem TV.setRow{X:Nat->Rat}(h:TV H nx lo p n m br cr gb bb cb sr sb bs T)(hi:i<m)(hX:RO H nx b (n+m+2) X):
  TV (hs H br (some (.cells (slR (n+m+2) (bs.set i b)) sr))) nx lo p n m br cr gb bb cb sr sb (bs.set i b) ⟨fun k=>if k=i then X else T.a k,T.g,T.B⟩:=by
 have J:=h.pr (by omega);have E:=h.rb (by omega);refine⟨by rw[Z1 _ J];exact h.hp,Z11 _ _ _,by rw[Z1 _ (eT E)];exact h.hb,by rw[dO];exact h.len,fun k d hk => ?_,h.goal.boxs (h.goal.ne (by omega) h.hr (E85 _ _)) h.hr (D88 _ _) h.sr1,h.lop,h.lor,h.lob,h.pn,h.rn,h.bn,h.sr1,h.sb1⟩
 by_cases e:k=i
 .subst e
  rw[dG (by have:=h.len;omega)] at hk
  cases hk
  show RO _ _ _ _ (if k=k then X else T.a k);rw[if_pos rfl];exact hX.boxs (hX.ne (by omega) h.hr (E85 _ _)) h.hr (D88 _ _) h.sr1
 .rw[bL (by omega)] at hk
  show RO _ _ _ _ (if k=i then X else T.a k);rw[if_neg e];have:=h.rows k d hk;exact this.boxs (this.ne (by omega) h.hr (E85 _ _)) h.hr (D88 _ _) h.sr1
theorem TV.setGoal{X:Nat->Rat}(h:TV H nx lo p n m br cr gb bb cb sr sb bs T)(hm:0<m)(hX:RO H nx b (n+m+2) X):
  TV (hs H p (some (.cells (Q60 n m br cr b bb cb) 0))) nx lo p n m br cr b bb cb sr sb bs ⟨T.a,X,T.B⟩:=by
 have E:=h.pr hm;have J:=h.pb;refine⟨Z11 _ _ _,by rw[Z1 _ (eT E)];exact h.hr,by rw[Z1 _ (eT J)];exact h.hb,h.len,fun k d hk => ?_,hX.boxs (hX.ne (by omega) h.hp (E87 _ _ _ _ _ _ _)) h.hp (U90 _ _ _ _ _ _ _) (.inl rfl),h.lop,h.lor,h.lob,h.pn,h.rn,h.bn,h.sr1,h.sb1⟩;have:=h.rows k d hk;exact this.boxs (this.ne (by omega) h.hp (E87 _ _ _ _ _ _ _)) h.hp (U90 _ _ _ _ _ _ _) (.inl rfl)
theorem TV.setBas(h:TV H nx lo p n m br cr gb bb cb sr sb bs T)(hm:0<m):
  TV (hs H bb (some (.cells (Z57 m B) sb))) nx lo p n m br cr gb bb cb sr sb bs ⟨T.a,T.g,B⟩:=by
 have E:=h.rb hm;have J:=h.pb;refine⟨by rw[Z1 _ J];exact h.hp,by rw[Z1 _ E];exact h.hr,Z11 _ _ _,h.len,fun k d hk => ?_,h.goal.boxs (h.goal.ne (by omega) h.hb (B95 _ _)) h.hb (G98 _ _) h.sb1,h.lop,h.lor,h.lob,h.pn,h.rn,h.bn,h.sr1,h.sb1⟩;have:=h.rows k d hk;exact this.boxs (this.ne (by omega) h.hb (B95 _ _)) h.hb (G98 _ _) h.sb1
end
end
end Go.Clo
namespace Go.Proofs.YtoiioigihocgbaaGreatDoor
open Go.Clo
theorem E104{H:Y0}{nx lo p n m br cr gb bb cb sr sb r c M:Nat}{bs:List Nat}{T:Lp.Tab}(h:TV H nx lo p n m br cr gb bb cb sr sb bs T)(hn:n<=20)(hm:m<=20)(hr:r<m)(hc:c<n+m+2)(d4:T.a r c≠0)
  (hM:1<=M)(hS:∀ x,Lp.Sz (M*(M*M)) x->U15 x 100000)(hT:Lp.TSz m (n+m+2) M T)(cp:lo<=nx):
  Q2 Tryz.prog 137 [.pointer (some ⟨p,0,none⟩),.int .i64 (r:Int),.int .i64 (c:Int)] H nx fun v H' nx'=>v = .tuple ⟨[]⟩/\nx<=nx'/\D0 H lo H' nx' /\
   ∃ d8 Q,TV H' nx' lo p n m br cr d8 bb cb sr sb Q (Lp.pivot T r c):=by
 have ce:M<=M*(M*M):=by
  have:M*1<=M*(M*M):=bP M (Nat.mul_pos hM hM);omega
 have ao:M*M<=M*(M*M):=bP M (by have:M*1<=M*M:=bP M hM;omega);have sA:∀ i q,i<m->q<n+m+2->U15 (T.a i q) 100000:=fun i q hi hq=>hS _ ((hT.1 i q hi hq).mono ce)
 have zY:∀ q,q<n+m+2->Lp.Sz (M*M) (T.a r q/T.a r c):=fun q hq=>(hT.1 r q hr hq).div hM (hT.1 r c hr hc)
 have sG:∀ q,q<n+m+2->U15 (T.g q) 100000:=fun q hq=>hS _ ((hT.2 q hq).mono ce)
 obtain⟨b,c6,b8⟩:=h.row hr;obtain⟨css,hg,dy,hl,hx⟩:=id b8;have bx:css.flatten.length=3*(n+m+2):=by rw[W26 hx.three,hl]
 have d3:(aF (n+m+2) Z29).flatten.length=3*(n+m+2):=by
  rw[W26 (fun d hd=>by rw[(List.mem_replicate.1 hd).2];rfl),List.length_replicate]
 have av:=h.hp;unfold Q60 at av;have dn:=h.pn;have dr:=h.rn;obtain⟨cc,ba⟩:∃ cc,css[c]? = some cc:=⟨css[c]'(by omega),aE _⟩
 have al:=hx c cc ba;have a6:=al.tri;refine spec137 ?_;unfold F137;simp(disch:=first|omega|assumption)only[W0,Q0.val,av,h.hr,G71 c6];rw[M27 (by omega),show [dU false,.slice none 0 0,.slice none 0 0]=Z29 from rfl,Z83];have co:J0 (hs H nx (some (.cells (aF (n+m+2) Z29).flatten 0))) p=_:=(Z1 _ (by omega)).trans av;have cq:J0 (hs H nx (some (.cells (aF (n+m+2) Z29).flatten 0))) br=_:=(Z1 _ (by omega)).trans h.hr;have d7:J0 (hs H nx (some (.cells (aF (n+m+2) Z29).flatten 0))) b=_:=(Z1 _ (by omega)).trans hg;simp(disch:=first|omega|assumption)only[W0];rw[J79 (sl:=0) (row:=(aF (n+m+2) Z29).flatten) (Z11 _ _ _) (J9 (m:=n+m+2) d7 (by rw[bx];omega) (by omega)) (aD _) (Y82 hx.tri) (by omega),
  G24 (by rw[bx,d3])]
 have az:D0 H nx (hs (hs H nx (some (.cells (aF (n+m+2) Z29).flatten 0))) nx (some (.cells css.flatten 0))) (nx+1):=((D0.refl H nx).new _ (aD _) (m:=nx+1) (by omega)).new _ (by omega) (by omega);have g2:J0 (hs (hs H nx (some (.cells (aF (n+m+2) Z29).flatten 0))) nx (some (.cells css.flatten 0))) nx=some (.cells css.flatten 0):=Z11 _ _ _;generalize hs (hs H nx (some (.cells (aF (n+m+2) Z29).flatten 0))) nx (some (.cells css.flatten 0))=H2 at *
 have cn:Z29.length=3:=rfl;simp(disch:=first|omega|assumption)only[W0,g2,J22 hx.three ba,a6.three,a6.one,G24 (show cc.length=Z29.length from a6.three),cn];have c4:D0 H nx (hs (hs H2 (nx+1) (some (.cells Z29 0))) (nx+1) (some (.cells cc 0))) (nx+1+1):=(az.new _ (by omega) (m:=nx+1+1) (by omega)).new _ (by omega) (by omega);have g3:J0 (hs (hs H2 (nx+1) (some (.cells Z29 0))) (nx+1) (some (.cells cc 0))) nx=some (.cells css.flatten 0):=by rw[Z1 _ (by omega),Z1 _ (by omega)];exact g2
 have d2:J0 (hs (hs H2 (nx+1) (some (.cells Z29 0))) (nx+1) (some (.cells cc 0))) (nx+1)=some (.cells cc 0):=Z11 _ _ _;generalize hs (hs H2 (nx+1) (some (.cells Z29 0))) (nx+1) (some (.cells cc 0))=H3 at *
 refine B1 (m:=n+m+2) (fun k L H' nx'=>∃(j:Nat) (ds:List (List Value)),k+j=n+m+2/\L=[.int .i64 (j:Int)]/\ds.length=n+m+2/\RX H' nx' ds (fun q=>if q<j then T.a r q/T.a r c else T.a r q) /\
  J0 H' nx=some (.cells ds.flatten 0)/\J0 H' (nx+1)=some (.cells cc 0)/\D0 H nx H' nx'/\nx+2<=nx') ?_ ⟨0,css,by omega,rfl,hl,fun q c hc=>by simpa using (hx q c hc).ext c4,g3,d2,c4,by omega⟩
 rintro k ih L H5 b4 ⟨j,ds,hk,rfl,a8,aa,g5,cf,ab,cx⟩ bw
 by_cases hj:j<n+m+2
 .have ay:(j:Int)<((n+m+2:Nat):Int):=by omega
  have ae:ds[j]? = some ds[j]:=aE (by omega);have ag:=aa j _ ae;dsimp only at ag;rw[if_neg (by omega)] at ag;simp(disch:=first|omega|assumption)only[W0,N13,ay,g5,J22 aa.three ae];refine R0 (E74 ag ⟨by have:=(sA r j hr hj).1;omega,by have:=(sA r j hr hj).2;omega⟩) ?_;rintro _ H7 c3 ⟨rfl,a1⟩;have di:=a1.le;have g7:=(a1.get nx (by omega)).trans g5;have bz:=(a1.get (nx+1) (by omega)).trans cf;have ap:=aa.ext a1
  by_cases hz:T.a r j=0
  .have e:=sign_zero.2 hz
   simp(disch:=first|omega|assumption)only[W0,e];refine bw (k-1) _ _ _ (by omega) ⟨j+1,ds,by omega,by simp,a8,fun q d hd => ?_,g7,bz,ab.trans a1,by omega⟩;have:=ap q d hd;dsimp only at this ⊢
   by_cases h1:q<j
   .rw[if_pos (by omega)];rw[if_pos h1] at this;exact this
   .rw[if_neg h1] at this
    by_cases h2:q=j
    .subst h2
     rw[if_pos (by omega),hz,Lp.zdiv];rw[hz] at this;exact this
    .rw[if_neg (by omega)];exact this
  have e:¬ (T.a r j).num.sign=0:=fun h=>hz (sign_zero.1 h)
  simp(disch:=first|omega|assumption)only[W0,e,ne_eq,not_false_eq_true,g7,bz,X15 a6,J22 ap.three ae];have ac:D0 H7 c3 H7 (c3+13):=D0.self (by omega);refine R0 (M101 (ag.ext (a1.trans ac)) (al.ext ((ab.trans a1).trans ac)) (sA r j hr hj) (sA r c hr hc) (fun e=>d4 (C87.1 e))) ?_;rintro _ H9 d9 ⟨⟨u,rfl,hu⟩,bu⟩;have dl:=bu.le;have a7:D0 H5 b4 H9 d9:=(a1.trans ac).trans bu;have g9:=(a7.get nx (by omega)).trans g5;have de:=(a7.get (nx+1) (by omega)).trans cf;have b3:=aa.ext a7;obtain⟨uc,rfl,au⟩:=hu.num;have e3:j*3=3*j:=by omega
  have ep:B12 ds.flatten (j*3) uc=(ds.set j uc).flatten:=by rw[e3];exact M78 b3.three au.three (by omega)
  have el:j*3+3<=3*ds.length:=by omega
  simp(disch:=first|omega|assumption)only[W0,au.three,au.one,g9,W26 b3.three,ep,el];refine bw (k-1) _ _ _ (by omega) ⟨j+1,ds.set j uc,by omega,by simp,by simp[a8],b3.put g9 hu (by omega) (by rw[if_pos (by omega)]) (fun q hq => ?_),Z11 _ _ _,?_,(ab.trans a7).hs (by omega),by omega⟩
  .by_cases h1:q<j
   .rw[if_pos h1,if_pos (by omega)]
   .rw[if_neg h1,if_neg (by omega)]
  .rw[Z1 _ (by omega)];exact de
 obtain rfl:j=n+m+2:=by omega
 have ay:¬ ((n+m+2:Nat):Int)<((n+m+2:Nat):Int):=by omega
 have h5:=h.ext ab;have da:RO H5 b4 nx (n+m+2) (fun q=>T.a r q/T.a r c):=⟨ds,g5,by omega,a8,fun q d hd=>by
  have:=aa q d hd;dsimp only at this;rwa [if_pos (by have:=(aJ.1 hd).1;omega)] at this⟩
 have c9:=h5.hp;unfold Q60 at c9;have bt:D0 H lo H5 b4:=ab.less cp;simp(disch:=first|omega|assumption)only[W0,ay,c9];refine B1 (m:=m) (fun k L H' nx'=>∃(i:Nat) (Q:List Nat),k+i=m/\L=[.int .i64 (i:Int)]/\nx+2<=nx'/\D0 H lo H' nx'/\RO H' nx' nx (n+m+2) (fun q=>T.a r q/T.a r c) /\
  TV H' nx' lo p n m br cr gb bb cb sr sb Q ⟨fun k=>if k<i/\k≠r then(Lp.pivot T r c).a k else T.a k,T.g,T.B⟩) ?_
  ⟨0,bs,by omega,rfl,cx,bt,da,h5.congr (fun i q hi hq=>by simp) (fun q hq=>rfl) (fun i hi=>rfl)⟩
 rintro k1 dx L1 a9 U ⟨i,Q,dt,rfl,bh,a4,a0,O⟩ an;have a5:=O.hp;unfold Q60 at a5
 by_cases hi:i<m
 .have ad:(i:Int)<(m:Int):=by omega
  by_cases ax:i=r
  .subst ax
   simp(disch:=first|omega|assumption)only[W0,N13,ad,ne_eq,not_true_eq_false];refine an (k1-1) _ _ _ (by omega) ⟨i+1,Q,by omega,by simp,bh,a4,a0,O.congr (fun q t hq ht => ?_) (fun q hq=>rfl) (fun i hi=>rfl)⟩;show(if q<i+1/\q≠i then(Lp.pivot T i c).a q else T.a q) t=(if q<i/\q≠i then(Lp.pivot T i c).a q else T.a q) t
   by_cases h1:q<i/\q≠i
   .rw[if_pos h1,if_pos ⟨by omega,h1.2⟩]
   .rw[if_neg h1,if_neg (by omega)]
  have bo:¬ (i:Int)=(r:Int):=by omega
  obtain⟨bi,bd,Z⟩:=O.row hi;have Z:RO a9 U bi (n+m+2) (T.a i):=Z.congr fun q hq=>by simp
  obtain⟨bf,cj,dh,dp,aq⟩:=id Z;obtain⟨ci,b5⟩:∃ ci,bf[c]? = some ci:=⟨bf[c]'(by omega),aE _⟩
  have cd:=aq c ci b5;simp(disch:=first|omega|assumption)only[W0,N13,ad,bo,ne_eq,not_false_eq_true,a5,O.hr,G71 bd,cj,J22 aq.three b5];have E:D0 a9 U a9 (U+26):=D0.self (by omega);refine R0 (X86 (Z.ext E) (a0.ext E) (cd.ext E) (by omega) (by omega) (fun q hq=>sA i q hi hq) (fun q hq=>hS _ ((zY q hq).mono ao)) (sA i c hi hc) (fun q hq=>hS _ ((hT.1 i c hi hc).mul (zY q hq)))) ?_;rintro _ dq dg ⟨b',rfl,cu,a3,c7⟩;have V:=E.trans c7;have a2:=O.ext V;have ct:=V.le;have ai:=a2.hp;unfold Q60 at ai;have aj:=a0.ext V;have aw:=a2.len;simp(disch:=first|omega|assumption)only[W0,ai,a2.hr,Q87 (show i<(slR (n+m+2) Q).length by rw[G75];omega),M97,G75,show i+1<=Q.length by omega];have db:=a2.setRow hi a3;refine an (k1-1) _ _ _ (by omega) ⟨i+1,Q.set i b',by omega,by simp,by omega,(a4.both (V.less (by have:=a4.le;omega))).hs O.lor,aj.boxs (aj.ne (by omega) a2.hr (E85 _ _)) a2.hr (D88 _ _) a2.sr1,db.congr (fun q t hq ht => ?_) (fun q hq=>rfl) (fun i hi=>rfl)⟩;show(if q<i+1/\q≠r then(Lp.pivot T r c).a q else T.a q) t=(if q=i then(fun q=>T.a i q-T.a i c*(T.a r q/T.a r c)) else if q<i/\q≠r then(Lp.pivot T r c).a q else T.a q) t
  by_cases h1:q=i
  .subst h1
   rw[if_pos ⟨by omega,ax⟩,if_pos rfl];show(if q=r then _ else _)=_;rw[if_neg ax]
  .rw[if_neg h1]
   by_cases h2:q<i/\q≠r
   .rw[if_pos h2,if_pos ⟨by omega,h2.2⟩]
   .rw[if_neg h2,if_neg (by omega)]
 obtain rfl:i=m:=by omega
 have ad:¬ (i:Int)<(i:Int):=by omega
 obtain⟨bc,d1,dm,du,bg⟩:=id O.goal;obtain⟨cg,ck⟩:∃ cg,bc[c]? = some cg:=⟨bc[c]'(by omega),aE _⟩
 have c8:=bg c cg ck;simp(disch:=first|omega|assumption)only[W0,ad,a5,d1,J22 bg.three ck];have E:D0 a9 U a9 (U+17):=D0.self (by omega);refine R0 (X86 (O.goal.ext E) (a0.ext E) (c8.ext E) (by omega) (by omega) (fun q hq=>sG q hq) (fun q hq=>hS _ ((zY q hq).mono ao)) (sG c hc) (fun q hq=>hS _ ((hT.2 c hc).mul (zY q hq)))) ?_;rintro _ dc dk ⟨b',rfl,cu,a3,bv⟩;have W:=E.trans bv;have J:=O.ext W;have cv:=W.le;have ak:=J.hp;unfold Q60 at ak;have ah:=a0.ext W;have aw:=J.len;have d5:=J.setGoal (by omega) a3;have ca:=ah.boxs (s':=0) (l':=Q60 n i br cr b' bb cb) (ah.ne (by omega) J.hp (E87 _ _ _ _ _ _ _)) J.hp (U90 _ _ _ _ _ _ _) (.inl rfl);have d6:=d5.setRow hr ca;have cz:=d6.setBas (B:=fun k=>if k=r then c else T.B k) (by omega);have df:=J.pr (by omega);have dd:=J.pb;have d0:=J.rb (by omega);have dv:=eT df;have dw:=eT dd;have dj:=eT d0;have bk:∀(v:Value),B12 [cD .i64 (n:Int),.int .i64 (i:Int),.slice (some ⟨br,0,none⟩) i cr,.slice (some ⟨gb,0,none⟩) (n+i+2) (n+i+2),.slice (some ⟨bb,0,none⟩) i cb] 3 [v] =
   [cD .i64 (n:Int),.int .i64 (i:Int),.slice (some ⟨br,0,none⟩) i cr,v,.slice (some ⟨bb,0,none⟩) i cb]:=fun v=>rfl
 have cy:J0 dc bb=some (.cells (Z57 i T.B) sb):=J.hb;simp(disch:=first|omega|assumption)only[W0,Nat.reduceAdd,ak,bk,J.hr,cy,Q87 (show r<(slR (n+i+2) Q).length by rw[G75];omega),M97,G75,show r+1<=Q.length by omega,Q87 (show r<(Z57 i T.B).length by rw[B78];omega),G104,B78,show r+1<=i by omega,show 3+1<=5 by omega];have az:=a4.both (W.less (show lo<=U by omega));refine⟨by omega,((az.hs J.lop).hs J.lor).hs J.lob,_,_,cz.congr (fun q t hq ht => ?_) (fun q hq=>rfl) (fun i hi=>rfl)⟩;show(if q=r then T.a r t/T.a r c else T.a q t-T.a q c*(T.a r t/T.a r c))=(if q=r then(fun q=>T.a r q/T.a r c) else if q<i/\q≠r then(Lp.pivot T r c).a q else T.a q) t
 by_cases h1:q=r
 .rw[if_pos h1,if_pos h1]
 .rw[if_neg h1,if_neg h1,if_pos ⟨hq,h1⟩]
  show _=(if q=r then _ else _)
  rw[if_neg h1]
end Go.Proofs.YtoiioigihocgbaaGreatDoor
namespace Go.Clo
section
variable {H H':Y0} {P:Program} {Q k:EP} {args:List Value} {f:FuncId} {nx nx' p q:Nat} {v:Value}
def Top(H:Y0)(nx:Nat):Prop:=∀ i,nx<=i->J0 H i=none
theorem M90(f:Nat->Option V3)(n:Nat):∃ H',(∀ i,i<n->J0 H' i=f i)/\Top H' n:=by
 induction n with
 | zero=>exact⟨.leaf,fun i hi=>by omega,fun i _=>C40 i⟩
 | succ n ih=>
  obtain⟨H',h1,h2⟩:=ih;refine⟨hs H' n (f n),fun i hi => ?_,fun i hi => ?_⟩
  .rw[N7]
   by_cases e:i=n
   .rw[if_pos e,e]
   .rw[if_neg e];exact h1 i (by omega)
  .rw[N7,if_neg (by omega)];exact h2 i (by omega)
theorem CS.cut(h:CS P f args H nx v H' nx'){H2:Y0}(e:∀ i,i<nx'->J0 H2 i=J0 H' i)(ht:Top H2 nx'):CS P f args H nx v H2 nx':=by
 refine⟨h.1,fun F E w hr hv=>(h.2 F E w hr hv).mono fun ex w' => ?_⟩;rintro⟨v',F',h1,h2,h3⟩;refine⟨v',F',h1,h2,h3.congr fun i => ?_⟩;rcases aW i nx' with g | g
 .exact e i g
 .rw[ht i g,h3.hr.top i g]
theorem CS.beside{P:Program}{f:FuncId}{args:List Value}{E H:Y0}{nx:Nat}{v:Value}{H0:Y0}{nx':Nat}(h:CS P f args E nx v H0 nx')(J:∀ i b,J0 E i=some b->J0 H i=some b)(U:nx<=nx'){H2:Y0}
  (e:∀ i,i<nx'->J0 H2 i=if i<nx/\J0 E i=none/\(J0 H i).isSome=true then J0 H i else J0 H0 i)(ht:Top H2 nx'):CS P f args H nx v H2 nx':=by
 refine⟨h.1,fun F O w hr hv=>(h.2 F O w (hr.sub J) hv).mono fun ex w' => ?_⟩;rintro⟨v',F',h1,h2,h3⟩;refine⟨v',F',h1,h2,h3.beside hr (fun i b _=>J i b) fun i => ?_⟩;rcases aW i nx' with g | g
 .exact e i g
 .rw[ht i g,if_neg (by omega),h3.hr.top i g]
theorem Q103(h:Q2 P f args H nx Q)(hk:∀ v H' nx' H0,Q v H0 nx'->D0 H0 nx' H' nx'->Top H' nx'->k v H' nx'):Y2 P f args H nx k:=by
 obtain⟨v,H0,nx',hc,hq⟩:=h;obtain⟨H',h1,h2⟩:=M90 (J0 H0) nx';exact .inr ⟨v,H',nx',hc.cut h1 h2,hk v H' nx' H0 hq ⟨aD _,h1⟩ h2⟩
def Sub(E:Y0)(nx:Nat)(H:Y0):Prop:=∀ i b,i<nx->J0 E i=some b->J0 H i=some b
theorem G84{E:Y0}(J:∀ i b,J0 E i=some b->J0 H i=some b)(h:Q2 P f args E nx Q)(hQ:∀ v H0 nx',Q v H0 nx'->D0 E nx H0 nx')
  (hk:∀ v H' nx' H0,Q v H0 nx'->D0 H nx H' nx'->Sub H0 nx' H'->Top H' nx'->k v H' nx'):Y2 P f args H nx k:=by
 obtain⟨v,H0,nx',hc,hq⟩:=h;have hE:=hQ _ _ _ hq;obtain⟨H',h1,h2⟩:=M90 (fun i=>if i<nx/\J0 E i=none/\(J0 H i).isSome=true then J0 H i else J0 H0 i) nx';refine .inr ⟨v,H',nx',hc.beside J hE.le h1 h2,hk v H' nx' H0 hq ⟨hE.le,fun i hi => ?_⟩ (fun i b hi hb => ?_) h2⟩
 .rw[h1 i (aO hi hE.le)]
  split
  .rfl
  .rename_i hn
   rw[hE.get i hi]
   cases hg:J0 E i with
   | some b=>rw[J i b hg]
   | none=>
    cases O:J0 H i with
    | none=>rfl
    | some b=>exact absurd ⟨hi,hg,by rw[O];rfl⟩ hn
 .rw[h1 i hi,if_neg]
  .exact hb
  .rintro⟨g1,g2,_⟩
   rw[hE.get i g1,g2] at hb
   cases hb
def er2(H:Y0)(p q:Nat):Y0:=hs (hs H p none) q none
theorem U48{i:Nat}(hp:i≠p)(hq:i≠q):J0 (er2 H p q) i=J0 H i:=by unfold er2;rw[Z1 _ hq,Z1 _ hp]
theorem V79:J0 (er2 H p q) p=none:=by
 unfold er2;rw[N7]
 split
 .rfl
 .exact Z11 _ _ _
theorem X80:J0 (er2 H p q) q=none:=Z11 _ _ _
theorem V97:∀ i b,J0 (er2 H p q) i=some b->J0 H i=some b:=by
 intro i b h
 by_cases hp:i=p
 .rw[hp,V79] at h;cases h
 .by_cases hq:i=q
  .rw[hq,X80] at h;cases h
  .rwa [U48 hp hq] at h
theorem G85 (e:D0 H nx H' nx'):D0 (er2 H p q) nx (er2 H' p q) nx':=by
 refine⟨e.le,fun i hi => ?_⟩
 by_cases hp:i=p
 .rw[hp,V79,V79]
 .by_cases hq:i=q
  .rw[hq,X80,X80]
  .rw[U48 hp hq,U48 hp hq];exact e.get i hi
theorem R76 (hp:p<nx) (hq:q<nx) (h:Q2 P f args (er2 H p q) nx Q) (hQ:∀ v H0 nx',Q v H0 nx'->D0 (er2 H p q) nx H0 nx')
  (hk:∀ v H' nx' H0,Q v H0 nx'->D0 H nx H' nx'->Sub H0 nx' (er2 H' p q)->Top H' nx'->k v H' nx'):Y2 P f args H nx k:=by
 refine G84 V97 h hQ fun v H' nx' H0 hq' hE hS hT=>hk v H' nx' H0 hq' hE (fun i b hi hb => ?_) hT
 have hE0:=hQ _ _ _ hq'
 have h1:i≠p:=by rintro rfl;rw[hE0.get i hp,V79] at hb;cases hb
 have h2:i≠q:=by rintro rfl;rw[hE0.get i hq,X80] at hb;cases hb
 rw[U48 h1 h2]
 exact hS i b hi hb
def R5(d:Nat):Value->Nat
 | .slice (some A) _ _=>A.block
 | _=>d
theorem E72 {lo:Nat} {size bytes d:Nat} {n:Nat} {c:List Value} {x:Value} {m:Nat} {l:List Value} (hsz:0<size) (hA:Acc lo H nx size v n c) (hx:Src H size x m l) (hm:0<m) (ho:Z0 l=true)
  (hb1:(2*(n+m)+1000)*bytes<=281474976710656) (hb2:n+m<=1000000000)
  (hk:∀ H',J0 H' nx=some (.cells (c++l) size)->(∀ i,i≠nx->i≠R5 d v->J0 H' i=J0 H i)->k (.slice (some ⟨nx,0,none⟩) (n+m) (n+m)) H' (nx+1)):B5 v x size bytes H nx k:=by
 obtain⟨hl,hA⟩:=hA
 have hlen:(c++l).length=(n+m)*size:=by rw[List.length_append,hl,hx.size,Nat.add_mul]
 unfold B5 Z22
 rcases hA with ⟨rfl,rfl⟩ | ⟨b,h1,h2,rfl,h4⟩
 .have hc:c=[]:=by simp at hl;exact hl
  subst hc
  rw[hx.len]
  dsimp only
  rw[G1,V6 hb1,V6 hb2]
  simp only[Bool.and_self,cond_true]
  rw[hx.first,ho,E27 (show 0<0+m by omega)]
  simp only[cond_true,cond_false]
  show spine ([]++l) _
  rw[V14]
  have e:([]++l).length=(0+m)*size:=hlen
  rw[e,D13]
  simp only[cond_true,D22,K11]
  rw[G1,G1,G4]
  exact hk _ (Z11 _ _ _) fun i hi _=>Z1 _ hi
 .rw[hx.len]
  dsimp only
  rw[G1,V6 hb1,V6 hb2]
  simp only[Bool.and_self,cond_true]
  rw[hx.first,ho,E27 (show n<n+m by omega)]
  simp only[cond_true,cond_false]
  have hold:∀ k:List Value->Prop,Z5 H size n (.slice (some ⟨b,0,none⟩) n n) False k=k c:=by
   intro k
   rcases Nat.eq_zero_or_pos n with h0 | h0
   .subst h0
    simp at hl;subst hl
    unfold Z5 B19
    dsimp only
    rw[Y4,h4]
    simp only[Option.elim_some,Nat.zero_mul,G5]
    exact V14 _ _
   .exact (J9 h4 hl (Nat.mul_pos h0 hsz)).first k
  rw[hold,V14,hlen,D13]
  simp only[cond_true,D22]
  rw[Y4,h4]
  simp only[Option.elim_some]
  have hls:N8 (.cells c size) 0 n size=some true:=by
   simp only[N8]
   rw[K43 (show size≠0 by omega),D13]
   simp only[cond_false,cond_true]
   rw[hl,Nat.zero_add,D13]
  rw[hls]
  dsimp only
  rw[G4]
  simp only[K11]
  rw[G1,G1,G4]
  exact hk _ (Z11 _ _ _) fun i hi hne=>by rw[Z1 _ hi,Z1 _ (show i≠b from hne)]
end
end Go.Clo
namespace Go.Lp
section
variable {T:Tab} {c j k r:Nat}
variable {m C R:Nat}
theorem Enters.unique{c':Nat}(h:Enters C T c)(h':Enters C T c'):c=c':=by
 rcases Nat.lt_trichotomy c c' with g | g | g
 .have:=h'.2.2 c g;have:=h.2.1;grind
 .exact g
 .have:=h.2.2 c' g;have:=h'.2.1;grind
theorem Leaves.unique(hT:J44 m C R T){r':Nat}(h:Leaves m R T c r)(h':Leaves m R T c r'):r=r':=by
 have h1:=h.2.2 r' h'.1 h'.2.1;have h2:=h'.2.2 r h.1 h.2.1;refine hT.inj h.1 h'.1 ?_;rcases h1 with a | ⟨a,a'⟩
 .rcases h2 with b | ⟨b,b'⟩
  .grind
  .rw[b] at a;grind
 .rcases h2 with b | ⟨b,b'⟩
  .rw[a] at b;grind
  .omega
open Classical in
def nxt(m C R:Nat)(T:Tab):Tab:=if h:∃ T',U95 m C R T T' then h.choose else T
theorem J89(hT:J44 m C R T)(hc:Enters C T c)(hr:Leaves m R T c r):nxt m C R T=pivot T r c:=by
 have h:∃ T',U95 m C R T T':=⟨_,c,r,hc,hr,rfl⟩
 unfold nxt;rw[dif_pos h];obtain⟨c',r',J,E,e⟩:=h.choose_spec;rw[e];obtain rfl:=J.unique hc;obtain rfl:=E.unique hT hr
 rfl
def W72(m C R:Nat)(T:Tab)(k:Nat):Tab:=k.rec T fun _ s=>nxt m C R s
theorem C83:W72 m C R T (k+1)=nxt m C R (W72 m C R T k):=rfl
def G76(m C R:Nat)(T:Tab):Prop:=¬ ∃ T',U95 m C R T T'
theorem ends(hT:J44 m C R T):∃ K,G76 m C R (W72 m C R T K)/\∀ k,k<K->¬ G76 m C R (W72 m C R T k):=by
 have Q:∃ k,G76 m C R (W72 m C R T k):=by
  refine aI fun J => ?_
  have J:∀ k,∃ T',U95 m C R (W72 m C R T k) T':=fun k=>aI fun h=>J ⟨k,h⟩
  have O:∀ k,J44 m C R (W72 m C R T k):=by
   intro k
   induction k with
   | zero=>exact hT
   | succ k ih=>
    obtain⟨T',c,r,hc,hr,e⟩:=J k;rw[C83,J89 ih hc hr];exact ih.pivot hc hr
  have h1:∀ k,∃ q:Nat × Nat,Enters C (W72 m C R T k) q.1/\Leaves m R (W72 m C R T k) q.1 q.2:=fun k=>by
   obtain⟨T',c,r,hc,hr,e⟩:=J k;exact⟨(c,r),hc,hr⟩
  exact Run.false (m:=m) (C:=C) (R:=R) (T:=fun k=>W72 m C R T k) (e:=fun k=>(h1 k).choose.1) (l:=fun k=>(h1 k).choose.2)
   ⟨hT,fun k=>(h1 k).choose_spec.1,fun k=>(h1 k).choose_spec.2,fun k=>by rw[C83,J89 (O k) (h1 k).choose_spec.1 (h1 k).choose_spec.2]⟩
 have:∀ n,(∃ k,k<=n/\G76 m C R (W72 m C R T k))->∃ K,G76 m C R (W72 m C R T K)/\∀ k,k<K->¬ G76 m C R (W72 m C R T k):=by
  intro n
  induction n with
  | zero=>rintro⟨k,hk,h⟩;obtain rfl:k=0:=(by omega);exact⟨0,h,fun k hk=>by omega⟩
  | succ n ih=>
   rintro⟨k,hk,h⟩
   by_cases E:∃ k,k<=n/\G76 m C R (W72 m C R T k)
   .exact ih E
   .obtain rfl:k=n+1:=by
     rcases aW n k with g | g
     .omega
     .exact absurd ⟨k,g,h⟩ E
    exact⟨n+1,h,fun q hq hs=>E ⟨q,by omega,hs⟩⟩
 obtain⟨k,h⟩:=Q;exact this k ⟨k,aD _,h⟩
def U58(n m:Nat)(s:Nat->Nat->Bool):Tab where
 a r j:=if j<n then(if s r j then 1 else 0) else if j<n+m then(if j=n+r then 1 else 0) else if j=n+m then -1 else 1
 g j:=if j<n then -1 else 0
 B r:=n+r
section
variable {n m:Nat} {s:Nat->Nat->Bool}
theorem G73:J44 m (n+m) (n+m+1) (U58 n m s):=by
 refine⟨fun i hi=>by show n+i<n+m;omega,fun i k hi hk => ?_,fun k hk => ?_,fun i hi => ?_⟩
 .show(if n+k<n then _ else if n+k<n+m then(if n+k=n+i then(1:Rat) else 0) else _)=_
  rw[if_neg (by omega),if_pos (by omega)]
  by_cases e:i=k
  .rw[if_pos (by omega),if_pos e]
  .rw[if_neg (by omega),if_neg e]
 .show(if n+k<n then(-1:Rat) else 0)=0
  rw[if_neg (by omega)]
 .show(0:Rat)<=(if n+m+1<n then(if s i (n+m+1) then(1:Rat) else 0) else if n+m+1<n+m then(if n+m+1=n+i then(1:Rat) else 0) else if n+m+1=n+m then -1 else 1)
  rw[if_neg (by omega),if_neg (by omega),if_neg (by omega)]
  decide
theorem sz0:Sz 1 0:=⟨by decide,by decide⟩
theorem sz1:Sz 1 1:=⟨by decide,by decide⟩
theorem U75:Sz 1 (-1):=⟨by decide,by decide⟩
theorem X108(N:Nat):TSz m N 1 (U58 n m s):=by
 refine⟨fun i j _ _ => ?_,fun j _ => ?_⟩
 .show Sz 1 (if j<n then(if s i j then 1 else 0) else if j<n+m then(if j=n+i then 1 else 0) else if j=n+m then -1 else 1)
  repeat' split
  all_goals first | exact sz0 | exact sz1 | exact U75
 .show Sz 1 (if j<n then -1 else 0)
  split
  .exact U75
  .exact sz0
theorem C80{i:Nat}(hj:j<n+m):0<=(U58 n m s).a i j:=by
 show(0:Rat)<=(if j<n then(if s i j then(1:Rat) else 0) else if j<n+m then(if j=n+i then(1:Rat) else 0) else if j=n+m then -1 else 1)
 by_cases h:j<n
 .rw[if_pos h]
  split
  .decide
  .decide
 .rw[if_neg h,if_pos hj]
  split
  .decide
  .decide
theorem Y104(E:∀ v,v<n->∃ r,r<m/\s r v=true)(hj:j<n+m):∃ r,r<m/\(U58 n m s).a r j=1:=by
 by_cases h:j<n
 .obtain⟨r,hr,hs⟩:=E j h
  exact⟨r,hr,by show(if j<n then(if s r j then(1:Rat) else 0) else _)=1;rw[if_pos h,hs];rfl⟩
 .exact⟨j-n,by omega,by show(if j<n then _ else if j<n+m then(if j=n+(j-n) then(1:Rat) else 0) else _)=1;rw[if_neg h,if_pos hj,if_pos (by omega)]⟩
theorem bounded (hcov:∀ v,v<n->∃ r,r<m/\s r v=true) (hT:J44 m (n+m) (n+m+1) T) (he:Eqv m (U58 n m s) T) (hc:c<n+m):∃ i,i<m/\0<T.a i c:=by
 refine Classical.byContradiction fun hno => ?_
 have hno:∀ i,i<m->T.a i c<=0:=fun i hi=>Classical.byContradiction fun h=>hno ⟨i,hi,by grind⟩
 obtain⟨r,hr,h1⟩:=Y104 (m:=m) (s:=s) hcov hc
 have h2:=X94 hT (s:=c) (he.back r hr)
 unfold dir at h2
 rw[h1] at h2
 have h3:0<=Z25 m fun k=>(-1:Rat)*((U58 n m s).a r (T.B k)*T.a k c):=Q80 fun k hk=>by
  have a1:=C80 (m:=m) (s:=s) (n:=n) (i:=r) (hT.lt k hk)
  have a2:=hno k hk
  have:=Rat.mul_nonneg a1 (b := -T.a k c) (by grind)
  grind
 rw[W74] at h3
 grind
theorem J87{T:Tab}(hT:J44 m C R T){K:Nat}(hK:∀ k,k<K->¬ G76 m C R (W72 m C R T k)):∀ {k:Nat},k<=K->J44 m C R (W72 m C R T k)/\Eqv m T (W72 m C R T k)
 | 0,_=>⟨hT,Eqv.refl T⟩
 | k+1,hk=>by
  obtain⟨h1,h2⟩:=J87 hT hK (k:=k) (by omega);have h3:=hK k (by omega);have h3:∃ T',U95 m C R (W72 m C R T k) T':=aI h3;obtain⟨T',c,r,hc,hr,e⟩:=h3;have E:(W72 m C R T k).a r c≠0:=by have:=hr.2.1;grind
  rw[C83,J89 h1 hc hr];exact⟨h1.pivot hc hr,h2.trans (Eqv.pivot hr.1 E)⟩
def steps(n m:Nat)(s:Nat->Nat->Bool):Nat:=(ends (G73 (n:=n) (m:=m) (s:=s))).choose
def tabK(n m:Nat)(s:Nat->Nat->Bool)(k:Nat):Tab:=W72 m (n+m) (n+m+1) (U58 n m s) k
theorem U89:G76 m (n+m) (n+m+1) (tabK n m s (steps n m s)):=(ends (G73 (n:=n) (m:=m) (s:=s))).choose_spec.1
theorem U87(h:k<steps n m s):¬ G76 m (n+m) (n+m+1) (tabK n m s k):=(ends (G73 (n:=n) (m:=m) (s:=s))).choose_spec.2 k h
theorem tabK_can(h:k<=steps n m s):J44 m (n+m) (n+m+1) (tabK n m s k):=(J87 G73 (fun _ h=>U87 h) h).1
theorem tabK_eqv(h:k<=steps n m s):Eqv m (U58 n m s) (tabK n m s k):=(J87 G73 (fun _ h=>U87 h) h).2
theorem tabK_sz(hm:m<=8)(h:k<=steps n m s):TSz m (n+m+2) (2^expN 8) (tabK n m s k):=
 (U100 (by omega) (aD 1) G73.uni (tabK_can h).uni (tabK_eqv h) (X108 _)).mono (X111 hm)
theorem tabK_next (h:k<=steps n m s) (hc:Enters (n+m) (tabK n m s k) c) (hr:Leaves m (n+m+1) (tabK n m s k) c r):k<steps n m s/\tabK n m s (k+1)=pivot (tabK n m s k) r c:=by
 refine⟨?_,J89 (tabK_can h) hc hr⟩
 rcases Nat.lt_or_ge k (steps n m s) with g | g
 .exact g
 .obtain rfl:k=steps n m s:=by omega
  exact absurd ⟨_,c,r,hc,hr,rfl⟩ U89
theorem tabK_last(h:k<=steps n m s)(hn:∀ j,j<n+m->0<=(tabK n m s k).g j):k=steps n m s:=by
 rcases aW k (steps n m s) with g | g
 .refine absurd ?_ (U87 g)
  rintro⟨T',c,r,hc,hr,e⟩;have:=hn c hc.1;have:=hc.2.1
  grind
 .omega
end
end
end Go.Lp
namespace Go.Clo
theorem NN.boxn{H:Y0}{nx i n s':Nat}{v:Value}{row':List Value}(h:NN H nx v n)(hg:J0 H i=none):NN (hs H i (some (.cells row' s'))) nx v n:=by
 obtain⟨A,c,rfl,hD⟩:=h;refine⟨A,c,rfl,?_,?_,hD.small,hD.le⟩
 .intro j x hx
  obtain⟨b,o,E,e1,e2,e3,e4⟩:=hD.sl j x hx;have hb:b≠i:=by
   rintro rfl;rw[Q5,hg] at e3;cases e3
  exact⟨b,o,E,e1,e2,by rw[Q5,Z1 _ hb];exact e3,e4⟩
 .rcases hD.sk with e | ⟨b,o,E,e1,e2,e3⟩
  .exact .inl e
  .have hb:b≠i:=by
    rintro rfl;rw[hg] at e3;rcases e3 with e3 | ⟨_,_,e3⟩<;>cases e3
   exact .inr ⟨b,o,E,e1,e2,by rw[Z1 _ hb];exact e3⟩
theorem RR.boxn{H:Y0}{nx i s':Nat}{v:Value}{x:Rat}{row':List Value}(h:RR H nx v x)(hg:J0 H i=none):RR (hs H i (some (.cells row' s'))) nx v x:=
 let ⟨a,b,h1,h2,h3⟩:=h;⟨a,b,h1,NN.boxn h2 hg,NN.boxn h3 hg⟩
theorem X98{x:Rat}:x.num.sign<=0<->x<=0:=by
 rw[Int.sign_nonpos_iff];have h1:=@Rat.num_nonneg x;have h2:=@Rat.num_eq_zero x
 constructor
 .intro h
  by_cases h0:x.num=0
  .rw[h2.1 h0];exact Rat.le_refl
  .have:¬ 0<=x:=fun hh=>by have:=h1.2 hh;omega
   grind
 .intro h
  by_cases h0:0<=x
  .have:x=0:=by grind
   rw[h2.2 this];omega
  .have:¬ 0<=x.num:=fun hh=>h0 (h1.1 hh)
   omega
theorem D77{x y:Rat}:N70 x y<0<->x<y:=by
 unfold N70
 split
 .simp[*]
 .split<;>simp[*]
theorem D97{x y:Rat}:N70 x y=0<->x=y:=by
 unfold N70
 split
 .rename_i h
  simp only[Int.reduceNeg,Int.neg_eq_zero,Int.reduceEq,false_iff];intro e;rw[e] at h;exact absurd h (Rat.lt_irrefl)
 .split
  .rename_i h
   simp only[Int.reduceEq,false_iff];intro e;rw[e] at h;exact absurd h (Rat.lt_irrefl)
  .simp only[true_iff]
   grind
end Go.Clo
namespace Go.Proofs.YtoiioigihocgbaaGreatDoor
open Go.Clo
theorem C99{H:Y0}{nx lo p n m br cr gb bb cb sr sb c M:Nat}{bs:List Nat}{T:Lp.Tab}(h:TV H nx lo p n m br cr gb bb cb sr sb bs T)(hn:n<=20)(hm:m<=20)(hc:c<n+m+2)
  (hM:1<=M)(hS:∀ x,Lp.Sz (M*(M*M)) x->U15 x 100000)(hT:Lp.TSz m (n+m+2) M T):
  Q2 Tryz.prog 140 [.pointer (some ⟨p,0,none⟩),.int .i64 (c:Int)] H nx fun v H' nx'=>D0 H nx H' nx' /\
   ((v = .int .i64 (-1)/\∀ i,i<m->T.a i c<=0)\/∃ r:Nat,v = .int .i64 (r:Int)/\Lp.Leaves m (n+m+1) T c r):=by
 have c3:M<=M*(M*M):=by
  have:M*1<=M*(M*M):=bP M (Nat.mul_pos hM hM);omega
 have b3:M*M<=M*(M*M):=bP M (by have:M*1<=M*M:=bP M hM;omega);have sA:∀ i q,i<m->q<n+m+2->U15 (T.a i q) 100000:=fun i q hi hq=>hS _ ((hT.1 i q hi hq).mono c3)
 have sR:∀ i,i<m->U15 (T.a i (n+m+1)/T.a i c) 100000:=fun i hi=>hS _ (((hT.1 i _ hi (by omega)).div hM (hT.1 i c hi hc)).mono b3)
 have ah:=h.hp;unfold Q60 at ah;have bx:=h.pn;have b8:=h.rn;have cd:=h.bn;refine spec140 ?_;unfold F140;have bv:J0 (hs H nx (some (.cells [.bool false,.slice none 0 0,.slice none 0 0] 0))) p=_:=(Z1 _ (by omega)).trans ah;simp(disch:=first|omega|assumption)only[W0,Q0.val,bv];have c4:D0 H nx (hs H nx (some (.cells [.bool false,.slice none 0 0,.slice none 0 0] 0))) (nx+1):=(D0.refl H nx).new _ (aD _) (by omega);refine B1 (m:=m) (fun k L H' nx'=>∃(i:Nat) (best:Int) (bc:List Value),k+i=m/\L=[.int .i64 best,.int .i64 (i:Int)]/\J0 H' nx=some (.cells bc 0)/\V7 bc/\nx<nx'/\D0 H nx H' nx' /\
  ((best = -1/\∀ k,k<i->T.a k c<=0)\/∃ r:Nat,best=(r:Int)/\r<i/\0<T.a r c/\RR H' nx' (.agg ⟨bc⟩) (T.a r (n+m+1)/T.a r c) /\
   ∀ k,k<i->0<T.a k c->T.a r (n+m+1)/T.a r c<T.a k (n+m+1)/T.a k c\/(T.a r (n+m+1)/T.a r c=T.a k (n+m+1)/T.a k c/\T.B r<=T.B k))) ?_
  ⟨0,-1,_,by omega,rfl,Z11 _ _ _,⟨_,_,_,_,_,_,_,rfl⟩,by omega,c4,.inl ⟨rfl,fun k hk=>by omega⟩⟩
 rintro k ih L H2 nx2 ⟨i,best,bc,hk,rfl,g2,a4,c8,hE,U⟩ aj
 by_cases hi:i<m
 case neg=>
  have ae:¬ (i:Int)<(m:Int):=by omega
  obtain rfl:i=m:=by omega
  simp(disch:=first|omega|assumption)only[W0,ae];refine⟨hE,?_⟩;rcases U with ⟨rfl,h1⟩ | ⟨r,rfl,h1,h2,h3,h4⟩
  .exact .inl ⟨rfl,h1⟩
  .exact .inr ⟨r,rfl,h1,h2,h4⟩
 have ae:(i:Int)<(m:Int):=by omega
 obtain⟨b,bt,ak⟩:=h.row hi;obtain⟨css,hg,bd,hl,hx⟩:=id (ak.ext hE);have c7:=(hE.get br b8).trans h.hr;have bk:=(hE.get p bx).trans ah;have ca:=(hE.get bb cd).trans h.hb;obtain⟨cc,a8⟩:∃ cc,css[c]? = some cc:=⟨css[c]'(by omega),aE _⟩
 obtain⟨cR,ag⟩:∃ cR,css[n+m+1]? = some cR:=⟨css[n+m+1]'(by omega),aE _⟩
 have ac:=hx c cc a8;have b4:=hx _ cR ag;rw[N13];simp(disch:=first|omega|assumption)only[W0,ae,c7,G71 bt,hg,J22 hx.three a8];refine Q103 (E74 ac ⟨by have:=(sA i c hi hc).1;omega,by have:=(sA i c hi hc).2;omega⟩) ?_;rintro _ H4 E H0 ⟨rfl,c6⟩ ax az;have Q:=c6.trans ax;have cg:=Q.le;have cj:=hE.le;have g4:=(Q.get nx c8).trans g2;have aw:=(Q.get p (by omega)).trans bk;have al:=(Q.get b bd).trans hg;have c9:=(Q.get bb (by omega)).trans ca
 by_cases a1:(T.a i c).num.sign<=0
 .have bz:=X98.1 a1
  simp(disch:=first|omega|assumption)only[W0,a1];refine aj (k-1) _ _ _ (by omega) ⟨i+1,best,bc,by omega,by simp,g4,a4,by omega,hE.trans Q,?_⟩;rcases U with ⟨rfl,h1⟩ | ⟨r,rfl,h1,h2,h3,h4⟩
  .refine .inl ⟨rfl,fun q hq => ?_⟩
   by_cases e:q=i
   .rw[e];exact bz
   .exact h1 q (by omega)
  .refine .inr ⟨r,rfl,by omega,h2,h3.ext Q,fun q hq a2 => ?_⟩
   by_cases e:q=i
   .rw[e] at a2;grind
   .exact h4 q (by omega) a2
 have ce:0<T.a i c:=by
  have:¬ T.a i c<=0:=fun hh=>a1 (X98.2 hh)
  grind
 simp(disch:=first|omega|assumption)only[W0,a1];refine R0 (Y76 (r:=[.slice (some ⟨br,0,none⟩) m cr,.slice (some ⟨gb,0,none⟩) (n+m+2) (n+m+2),.slice (some ⟨bb,0,none⟩) m cb]) aw (by omega) (by omega)) ?_;rintro _ H4 aq ⟨rfl,rfl,cf⟩;simp(disch:=first|omega|assumption)only[W0,al,J22 hx.three a8,J22 hx.three ag];have ab:D0 H4 E H4 aq:=D0.self (by omega);have av:(T.a i c).num≠0:=fun e=>by
  have:=C87.1 e;grind
 refine R0 (M101 ((b4.ext Q).ext ab) ((ac.ext Q).ext ab) (sA i _ hi (by omega)) (sA i c hi hc) av) ?_;rintro _ H7 ad ⟨⟨u,rfl,hu⟩,a9⟩;have ci:=a9.le;obtain⟨uc,rfl,V⟩:=hu.num;have bo:J0 H7 (E+13)=none:=(a9.get _ (by omega)).trans (az _ (by omega));have bg:=(a9.get nx (by omega)).trans g4;simp(disch:=first|omega|assumption)only[W0,Nat.reduceAdd,V.three,V.one,G24 (show uc.length=[dU false,.slice none 0 0,.slice none 0 0].length from V.three),bg,X15 a4,X15 V];have ai:D0 H4 E (hs (hs H7 (E+13) (some (.cells [.bool false,.slice none 0 0,.slice none 0 0] 0))) (E+13) (some (.cells uc 0))) ad:=((a9.less (show E<=aq by omega)).hs (by omega)).hs (by omega);have bw:J0 (hs (hs H7 (E+13) (some (.cells [.bool false,.slice none 0 0,.slice none 0 0] 0))) (E+13) (some (.cells uc 0))) (E+13)=some (.cells uc 0):=Z11 _ _ _;have ap:RR (hs (hs H7 (E+13) (some (.cells [.bool false,.slice none 0 0,.slice none 0 0] 0))) (E+13) (some (.cells uc 0))) ad (.agg ⟨uc⟩) (T.a i (n+m+1)/T.a i c):=
  (hu.boxn bo).boxs (Z11 _ _ _) (E46 _ _ _ _ _ _ _) (.inl rfl)
 generalize hs (hs H7 (E+13) (some (.cells [.bool false,.slice none 0 0,.slice none 0 0] 0))) (E+13) (some (.cells uc 0))=H9 at *
 have ck:=ai.le;refine N5 (fun L a0 O=>∃ o:Int,L=[.int .i64 o]/\D0 H9 ad a0 O/\((best = -1/\o = -1)\/∃ r:Nat,best=(r:Int)/\o=N70 (T.a i (n+m+1)/T.a i c) (T.a r (n+m+1)/T.a r c))) ?_ ?_
 .intro tj a3
  rcases U with ⟨rfl,h1⟩ | ⟨r,rfl,h1,h2,h3,h4⟩
  .have hb:¬ (0:Int) <= -1:=by omega
   simp(disch:=first|omega|assumption)only[W0,hb];exact a3 _ _ _ ⟨-1,rfl,D0.refl _ _,.inl ⟨rfl,rfl⟩⟩
  .have hb:(0:Int)<=(r:Int):=by omega
   simp(disch:=first|omega|assumption)only[W0,hb];refine R0 (X81 ap ((h3.ext Q).ext ai) (sR i hi) (sR r (by omega))) ?_;rintro _ a0 O ⟨rfl,W⟩;exact a3 _ _ _ ⟨_,rfl,W,.inr ⟨r,rfl,rfl⟩⟩
 rintro L a0 O ⟨o,rfl,W,ho⟩;have J:=ai.trans W;have bh:=J.le;have a5:=(J.get nx (by omega)).trans g4;have au:=(W.get (E+13) (by omega)).trans bw;have ao:=(J.get p (by omega)).trans aw;have b5:=(J.get bb (by omega)).trans c9;have a6:=hE.trans (Q.trans J);refine N5 (fun L bu ay=>∃ t:Bool,L=[.bool t]/\a0=bu/\O+23=ay/\(t=true<->o<0\/o=0/\∀ r:Nat,best=(r:Int)->T.B i<T.B r)) ?_ ?_
 .intro tj a3
  by_cases a7:o<0
  .simp(disch:=first|omega|assumption)only[W0,a7]
   exact a3 _ _ _ ⟨true,rfl,rfl,rfl,by simp[a7]⟩
  by_cases aa:o=0
  .rcases U with ⟨rfl,h1⟩ | ⟨r,rfl,h1,h2,h3,h4⟩
   .rcases ho with ⟨_,rfl⟩ | ⟨r,h5,_⟩
    .omega
    .omega
   .have cn:(r:Int)<(m:Int):=by omega
    simp(disch:=first|omega|assumption)only[W0,aa,ao,b5,K73 hi,K73 (show r<m by omega)];refine a3 _ _ _ ⟨_,rfl,rfl,rfl,?_⟩
    constructor
    .intro h
     refine .inr ⟨aa,fun r' ba => ?_⟩;have:r=r':=by omega
     subst this;have:=of_decide_eq_true h;omega
    .rintro (h | ⟨_,h⟩)
     .omega
     .have:=h r rfl
      exact decide_eq_true (by omega)
  .simp(disch:=first|omega|assumption)only[W0,a7,aa]
   exact a3 _ _ _ ⟨false,rfl,rfl,rfl,by simp[a7,aa]⟩
 rintro L _ _ ⟨t,rfl,rfl,rfl,ht⟩
 cases t with
 | true=>
  simp(disch:=first|omega|assumption)only[W0,au,X15 V,V.three,V.one,a5,G24 (show uc.length=bc.length by rw[V.three,a4.three]),a4.three];have Z:D0 a0 O a0 (O+23+4):=D0.self (by omega);refine aj (k-1) _ _ _ (by omega) ⟨i+1,(i:Int),uc,by omega,by simp,Z11 _ _ _,V,by omega,(a6.trans Z).hs (aD _),.inr ⟨i,rfl,by omega,ce,((ap.ext W).ext Z).boxs a5 (W81 a4) (.inl rfl),fun q hq a2 => ?_⟩⟩
  by_cases e:q=i
  .subst e;exact .inr ⟨rfl,aD _⟩
  have ht:=ht.1 rfl;have bf:q<i:=by clear ho U ht;omega
  rcases U with ⟨rfl,h1⟩ | ⟨r,rfl,h1,h2,h3,h4⟩
  .have:=h1 q bf
   clear ho ht
   grind
  .rcases ho with ⟨h5,_⟩ | ⟨r',h5,rfl⟩
   .omega
   have:r=r':=by omega
   subst this;have h6:=h4 q (by omega) a2;rcases ht with ht | ⟨ht,ht2⟩
   .have:=D77.1 ht
    left;rcases h6 with h6 | ⟨h6,_⟩
    .grind
    .rw[<- h6];exact this
   .have h7:=D97.1 ht
    have h8:=ht2 r rfl;rw[h7];rcases h6 with h6 | ⟨h6,h9⟩
    .exact .inl h6
    .exact .inr ⟨h6,by omega⟩
 | false=>
  simp(disch:=first|omega|assumption)only[W0];have Z:D0 a0 O a0 (O+23):=D0.self (by omega);rcases U with ⟨rfl,h1⟩ | ⟨r,rfl,h1,h2,h3,h4⟩
  .rcases ho with ⟨_,rfl⟩ | ⟨r,h5,_⟩
   .simp at ht
   .omega
  rcases ho with ⟨h5,_⟩ | ⟨r',h5,rfl⟩
  .omega
  have:r=r':=by omega
  subst this;refine aj (k-1) _ _ _ (by omega) ⟨i+1,(r:Int),bc,by omega,by simp,a5,a4,by omega,a6.trans Z,.inr ⟨r,rfl,by omega,h2,((h3.ext Q).ext J).ext Z,fun q hq a2 => ?_⟩⟩
  by_cases e:q=i
  .subst e
   have an:¬ (N70 (T.a q (n+m+1)/T.a q c) (T.a r (n+m+1)/T.a r c)<0\/N70 (T.a q (n+m+1)/T.a q c) (T.a r (n+m+1)/T.a r c)=0/\∀ r':Nat,(r:Int)=(r':Int)->T.B q<T.B r'):=fun hh=>absurd (ht.2 hh) (by decide)
   by_cases h6:T.a q (n+m+1)/T.a q c=T.a r (n+m+1)/T.a r c
   .refine .inr ⟨h6.symm,?_⟩
    refine aI fun h7=>an (.inr ⟨D97.2 h6,fun r' ba => ?_⟩)
    have:r=r':=by omega
    subst this;omega
   .left
    have h7:¬ T.a q (n+m+1)/T.a q c<T.a r (n+m+1)/T.a r c:=fun hh=>an (.inl (D77.2 hh))
    grind
  .exact h4 q (by omega) a2
end Go.Proofs.YtoiioigihocgbaaGreatDoor
namespace Go.Clo
theorem W108{k K:Nat}(hk:k<32*K):2^k<4294967296^K:=by
 rw[show(4294967296:Nat)=2^32 from rfl,<- Nat.pow_mul];exact Nat.pow_lt_pow_right (by omega) hk
theorem R87 {x:Rat} {k:Nat} (h:Lp.Sz (2^k) x) (hk:k<32*99998):U15 x 100000:=by
 have hlt:=W108 hk
 exact⟨by have:=E29 (Nat.lt_of_le_of_lt h.1 hlt);omega,by have:=E29 (Nat.lt_of_le_of_lt h.2 hlt);omega⟩
theorem X97{x:Rat}(h:Lp.Sz (2^Lp.expN 8*(2^Lp.expN 8*2^Lp.expN 8)) x):U15 x 100000:=by
 rw[<- Nat.pow_add,<- Nat.pow_add] at h;have h8:Lp.expN 8=21845:=rfl;exact R87 h (by omega)
theorem W97{x:Rat}:0<=x.num.sign<->0<=x:=by
 rw[<- Rat.num_nonneg,Int.sign_nonneg_iff]
end Go.Clo
namespace Go.Proofs.YtoiioigihocgbaaGreatDoor
open Go.Clo
theorem G96{H:Y0}{nx lo p n m br cr gb bb cb sr sb:Nat}{bs:List Nat}{s:Nat->Nat->Bool}(h:TV H nx lo p n m br cr gb bb cb sr sb bs (Lp.tabK n m s 0))(hn:n<=20)(hm:m<=8)
  (ad:∀ v,v<n->∃ r,r<m/\s r v=true)(au:lo<=nx):
  Q2 Tryz.prog 124 [.pointer (some ⟨p,0,none⟩),.int .i64 ((n+m:Nat):Int)] H nx fun v H' nx'=>v = .tuple ⟨[.int .i64 0,.bool true]⟩/\nx<=nx'/\D0 H lo H' nx' /\
   ∃ Z U,TV H' nx' lo p n m br cr Z bb cb sr sb U (Lp.tabK n m s (Lp.steps n m s)):=by
 have hM:1<=2^Lp.expN 8:=aQ _;refine spec124 ?_;unfold F124;refine B1 (m:=Lp.steps n m s) (fun M L H' nx'=>∃(k Z:Nat) (U:List Nat),M+k=Lp.steps n m s/\nx<=nx'/\D0 H lo H' nx'/\TV H' nx' lo p n m br cr Z bb cb sr sb U (Lp.tabK n m s k)) ?_
  ⟨0,gb,bs,by omega,aD _,D0.self au,h⟩
 rintro M bk L1 H1 ax ⟨k,av,aw,bc,ay,a7,h1⟩ ac;have hk:k<=Lp.steps n m s:=by omega
 have a5:=Lp.tabK_can hk;have V:=Lp.tabK_sz hm hk;have an:=Lp.tabK_eqv hk;refine B1 (m:=n+m) (fun q L H' nx'=>∃ j:Nat,q+j=n+m/\L=[.int .i64 (j:Int)]/\D0 H1 ax H' nx'/\∀ i,i<j->0<=(Lp.tabK n m s k).g i) ?_ ⟨0,by omega,rfl,D0.refl _ _,fun i hi=>by omega⟩;rintro q bd L2 H2 nx2 ⟨j,hq,rfl,O,hj⟩ a8;have h2:=h1.ext O;have b4:=O.le;have E:D0 H lo H2 nx2:=a7.trans (O.less (by have:=a7.le;omega))
 by_cases ag:j<n+m
 case neg=>
  have W:¬ (j:Int)<((n+m:Nat):Int):=by omega
  obtain rfl:j=n+m:=by omega
  have a1:=Lp.tabK_last hk hj;simp(disch:=first|omega|assumption)only[W0,W];refine⟨by omega,E,av,aw,?_⟩;rw[<- a1];exact h2
 have W:(j:Int)<((n+m:Nat):Int):=by omega
 have ab:=h2.hp;unfold Q60 at ab;obtain⟨css,hg,bh,hl,hx⟩:=id h2.goal;obtain⟨cc,a4⟩:∃ cc,css[j]? = some cc:=⟨css[j]'(by omega),aE _⟩
 have aa:=hx j cc a4;have a6:=R87 (V.2 j (by omega)) (show Lp.expN 8<32*99998 by decide);simp(disch:=first|omega|assumption)only[W0,W,ab,hg,J22 hx.three a4];refine R0 (E74 aa ⟨by have:=a6.1;omega,by have:=a6.2;omega⟩) ?_;rintro _ H3 bg ⟨rfl,J⟩;have h3:=h2.ext J;have az:=J.le
 by_cases hs:0<=((Lp.tabK n m s k).g j).num.sign
 .have ai:=W97.1 hs
  simp(disch:=first|omega|assumption)only[W0,hs];refine a8 (q-1) _ _ _ (by omega) ⟨j+1,by omega,by simp,O.trans J,fun i hi => ?_⟩
  by_cases e:i=j
  .rw[e];exact ai
  .exact hj i (by omega)
 have ak:(Lp.tabK n m s k).g j<0:=by
  have:¬ 0<=(Lp.tabK n m s k).g j:=fun hh=>hs (W97.2 hh)
  grind
 have a9:Lp.Enters (n+m) (Lp.tabK n m s k) j:=⟨ag,ak,hj⟩
 simp(disch:=first|omega|assumption)only[W0,hs];refine R0 (C99 h3 hn (by omega) (show j<n+m+2 by omega) hM (fun _=>X97) V) ?_;rintro _ H4 ap ⟨a3,⟨rfl,ae⟩ | ⟨r,rfl,a2⟩⟩
 .obtain⟨i,hi,b5⟩:=Lp.bounded ad a5 an ag
  have:=ae i hi
  grind
 have h4:=h3.ext a3;have ba:=a3.le;have aj:¬ (r:Int)<0:=by omega
 simp(disch:=first|omega|assumption)only[W0,aj];have al:(Lp.tabK n m s k).a r j≠0:=by have:=a2.2.1;grind
 have Q:D0 H lo H4 ap:=(E.trans (J.less (by have:=E.le;omega))).trans (a3.less (by have:=E.le;omega));obtain⟨b3,a0⟩:=Lp.tabK_next hk a9 a2;refine R0 (E104 h4 hn (by omega) a2.1 (show j<n+m+2 by omega) al hM (fun _=>X97) V (by have:=Q.le;omega)) ?_;rintro _ H5 bf ⟨rfl,b8,aq,ah,ao,h5⟩;refine ac (M-1) _ _ _ (by omega) ⟨k+1,ah,ao,by omega,by omega,Q.both aq,?_⟩;rw[a0];exact h5
end Go.Proofs.YtoiioigihocgbaaGreatDoor
