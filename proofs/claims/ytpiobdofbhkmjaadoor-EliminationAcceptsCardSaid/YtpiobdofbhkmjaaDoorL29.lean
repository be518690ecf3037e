/-
  Contract: simplex.combined.
  Plain: the simplex algorithm with Bland's rule ends (tableaus as functions;no program in sight).
-/
import Derived.Test.YtpiobdofbhkmjaaDoorL28
set_option linter.unusedSimpArgs false
set_option linter.unusedVariables false
set_option linter.unusedSectionVars false
namespace Go.Clo
theorem V47 {x:Rat}:x.num=0<->x=0:=Rat.num_eq_zero
theorem sign_zero {x:Rat}:x.num.sign=0<->x=0:=by rw[Int.sign_eq_zero_iff_zero,V47]
end Go.Clo
namespace Go.Proofs.YtpiobdofbhkmjaaDoor
open Go.Clo
theorem X46 {H:Y0} {nx b c n cap cap':Nat} {X Y:Nat->Rat} {fv:Value} {z:Rat} (hx:RO H nx b n X) (hy:RO H nx c n Y) (hz:RR H nx fv z) (hn0:0<n) (hn:n<=1000)
  (sX:∀ q,q<n->X4 (X q) 100000) (sY:∀ q,q<n->X4 (Y q) 100000) (sz:X4 z 100000) (sM:∀ q,q<n->X4 (z*Y q) 100000):
  J2 Tryd.prog 96 [.slice (some ⟨b,0,none⟩) n cap,.slice (some ⟨c,0,none⟩) n cap',fv] H nx fun v H' nx'=>∃ b',v = .slice (some ⟨b',0,none⟩) n n/\nx<=b'/\RO H' nx' b' n (fun q=>X q-z*Y q)/\D0 H nx H' nx':=by
 obtain⟨zc,hzc,htz⟩:∃ zc,fv = .agg ⟨zc⟩/\G9 zc:=by
  obtain⟨A0,l0,c0,C0,m0,d0,rfl,_,_⟩:=hz.form
  exact⟨_,rfl,_,_,_,_,_,_,_,rfl⟩
 subst hzc
 have hoz:Z0 zc=true:=by obtain⟨s,A,l,q,C,l',q',rfl⟩:=htz;rfl
 have ldz:∀ k:VP,N9 zc 0 (some 3) k=k (.agg ⟨zc⟩):=fun k=>by
  have:=U6 (css:=[zc]) (q:=0) (c:=zc) (fun d hd=>by simp at hd;subst hd;exact htz.three) rfl k
  simpa using this
 obtain⟨cx,hgx,hbx,hlx,hxx⟩:=hx
 obtain⟨cy,hgy,hby,hly,hyy⟩:=hy
 have hzl:(List.replicate n D8).flatten.length=3*n:=by
  rw[Q8 (fun d hd=>by rw[(List.mem_replicate.1 hd).2];rfl),List.length_replicate]
 have hxl:cx.flatten.length=3*n:=by rw[Q8 hxx.three,hlx]
 refine spec96 ?_
 unfold F96
 simp (disch:=first|omega|assumption) only[W0,B0.val,hoz]
 rw[V12 (by omega),show [Value.bool false,.slice none 0 0,.slice none 0 0]=D8 from rfl,V38]
 have hE0:D0 H nx (hs (hs H nx (some (.cells zc 0))) (nx+1) (some (.cells (List.replicate n D8).flatten 0))) (nx+1+1):=((D0.refl H nx).new _ (Nat.le_refl _) (m:=nx+1) (by omega)).new _ (by omega) (by omega)
 rw[W32 (sl:=0) (row:=(List.replicate n D8).flatten) (Q0 _ _ _) (Z8 (m:=n) ((hE0.get b hbx).trans hgx) (by rw[hxl];omega) (by omega)) (Nat.le_refl _) (K37 hxx.tri) (by omega),
  Z5 (by rw[hxl,hzl])]
 have g0:X0 (hs (hs (hs H nx (some (.cells zc 0))) (nx+1) (some (.cells (List.replicate n D8).flatten 0))) (nx+1) (some (.cells cx.flatten 0))) nx=some (.cells zc 0):=by
  rw[W7,if_neg (by omega),W7,if_neg (by omega),Q0]
 have g1:X0 (hs (hs (hs H nx (some (.cells zc 0))) (nx+1) (some (.cells (List.replicate n D8).flatten 0))) (nx+1) (some (.cells cx.flatten 0))) (nx+1)=some (.cells cx.flatten 0):=Q0 _ _ _
 have hE:=hE0.hs (b:=some (.cells cx.flatten 0)) (show nx<=nx+1 by omega)
 generalize hs (hs (hs H nx (some (.cells zc 0))) (nx+1) (some (.cells (List.replicate n D8).flatten 0))) (nx+1) (some (.cells cx.flatten 0))=H3 at *
 simp (disch:=first|omega|assumption) only[W0,g0,ldz]
 have hz3:=hz.ext hE
 refine K0 (J22 hz3 ⟨by have:=sz.1;omega,by have:=sz.2;omega⟩) ?_
 rintro _ H4 nx4 ⟨rfl,hE4⟩
 have hle4:=hE4.le
 have g04:=(hE4.get nx (by omega)).trans g0
 have g14:=(hE4.get (nx+1) (by omega)).trans g1
 have hE':=hE.trans hE4
 by_cases hz0:z=0
 .have e:=sign_zero.2 hz0
  simp (disch:=first|omega|assumption) only[W0,e]
  refine⟨nx+1,rfl,by omega,⟨cx,g14,by omega,hlx,fun q c hc => ?_⟩,hE'⟩
  have:=(hxx q c hc).ext hE'
  show RR _ _ _ (X q-z*Y q)
  rw[hz0,Rat.zero_mul,show X q-0=X q by grind]
  exact this
 have e:¬ z.num.sign=0:=fun h=>hz0 (sign_zero.1 h)
 simp (disch:=first|omega|assumption) only[W0,e]
 refine E1 (m:=n) (fun m L H' nx'=>∃ (i:Nat) (css:List (List Value)),m+i=n/\L=[.int .i64 (i:Int)]/\css.length=n/\RX H' nx' css (fun q=>if q<i then X q-z*Y q else X q) /\
  X0 H' nx=some (.cells zc 0)/\X0 H' (nx+1)=some (.cells css.flatten 0)/\D0 H nx H' nx'/\nx+1<nx') ?_ ⟨0,cx,by omega,rfl,hlx,fun q c hc=>by simpa using (hxx q c hc).ext hE',g04,g14,hE',by omega⟩
 rintro m ih L H5 nx5 ⟨i,css,hm,rfl,hlen,hX5,g05,g15,hE5,hn5⟩ hih
 by_cases hi:i<n
 case neg=>
  have hi':¬ (i:Int)<(n:Int):=by omega
  simp (disch:=first|omega|assumption) only[W0,hi']
  refine⟨nx+1,rfl,by omega,⟨css,g15,by omega,hlen,fun q c hc => ?_⟩,hE5⟩
  have hq:=(List.getElem?_eq_some_iff.1 hc).1
  have:=hX5 q c hc
  dsimp only at this ⊢
  rw[if_pos (by omega)] at this
  exact this
 have hi':(i:Int)<(n:Int):=by omega
 have gy5:=(hE5.get c hby).trans hgy
 have hcy:cy[i]? = some cy[i]:=List.getElem?_eq_getElem (by omega)
 have hcx:css[i]? = some css[i]:=List.getElem?_eq_getElem (by omega)
 have hyi:=(hyy i _ hcy).ext hE5
 have hxi:=hX5 i _ hcx
 dsimp only at hxi
 rw[if_neg (by omega)] at hxi
 have hy3:=hyy.three
 have hx3:=hX5.three
 simp (disch:=first|omega|assumption) only[W0,K3,hi',gy5,U6 hy3 hcy]
 refine K0 (J22 hyi ⟨by have:=(sY i hi).1;omega,by have:=(sY i hi).2;omega⟩) ?_
 rintro _ H7 nx7 ⟨rfl,hE7⟩
 have hle7:=hE7.le
 have g07:=(hE7.get nx (by omega)).trans g05
 have g17:=(hE7.get (nx+1) (by omega)).trans g15
 by_cases hy0:Y i=0
 .have e:=sign_zero.2 hy0
  simp (disch:=first|omega|assumption) only[W0,e]
  refine hih (m-1) _ _ _ (by omega) ⟨i+1,css,by omega,by simp,hlen,fun q c hc => ?_,g07,g17,hE5.trans hE7,by omega⟩
  have:=(hX5 q c hc).ext hE7
  dsimp only at this ⊢
  by_cases hq:q<i
  .rw[if_pos (by omega)];rw[if_pos hq] at this;exact this
  .rw[if_neg hq] at this
   by_cases hqi:q=i
   .subst hqi
    rw[if_pos (by omega),hy0,Rat.mul_zero,show X q-0=X q by grind];exact this
   .rw[if_neg (by omega)];exact this
 have e:¬ (Y i).num.sign=0:=fun h=>hy0 (sign_zero.1 h)
 have gy7:=(hE7.get c (by have:=hE5.le;omega)).trans gy5
 simp (disch:=first|omega|assumption) only[W0,e,ne_eq,not_false_eq_true,g17,g07,gy7,ldz,U6 hy3 hcy,U6 hx3 hcx]
 have hE57:D0 H5 nx5 H7 (nx7+15):=hE7.trans (D0.self (by omega))
 refine K0 (Y80 ((hz.ext hE5).ext hE57) (hyi.ext hE57) sz (sY i hi)) ?_
 rintro r1 H9 nx9 ⟨hr1,hE9⟩
 have hle9:=hE9.le
 have hxi9:=(hxi.ext hE57).ext hE9
 refine K0 (Z95 hxi9 hr1 (sX i hi) (sM i hi)) ?_
 rintro r2 H10 nx10 ⟨hr2,hE10⟩
 have hle10:=hE10.le
 have hE510:=(hE57.trans hE9).trans hE10
 have g010:=(hE510.get nx (by omega)).trans g05
 have g110:=(hE510.get (nx+1) (by omega)).trans g15
 have g19:=(hE9.get (nx+1) (by omega)).trans g17
 have hX10:=hX5.ext hE510
 obtain⟨zz,rfl⟩:∃ zz,r2 = .agg ⟨zz⟩:=by
  obtain⟨A0,l0,c0,C0,m0,d0,rfl,_,_⟩:=hr2.form;exact⟨_,rfl⟩
 rw[Nat.mul_comm i 3,E21 g110 hX10.tri hr2.tri (by omega),Nat.mul_comm 3 i]
 simp (disch:=first|omega|assumption) only[W0,g19,U6 hx3 hcx]
 refine hih (m-1) _ _ _ (by omega) ⟨i+1,css.set i zz,by omega,by simp,by simp[hlen],hX10.put g110 hr2 (by omega) (by rw[if_pos (by omega)]) (fun q hq => ?_),?_,Q0 _ _ _,(hE5.trans hE510).hs (by omega),by omega⟩
 .by_cases h:q<i
  .rw[if_pos h,if_pos (by omega)]
  .rw[if_neg h,if_neg (by omega)]
 .rw[W7,if_neg (by omega)];exact g010
end Go.Proofs.YtpiobdofbhkmjaaDoor

namespace Go.Lp
variable {c i k n r s v:Nat} {f g:Nat->Rat}
def N5 (n:Nat) (f:Nat->Rat):Rat:=n.rec 0 fun k s=>s+f k
theorem zdiv (x:Rat):0/x=0:=by rw[Rat.div_def];grind
theorem Y26 (f:Nat->Rat):N5 0 f=0:=rfl
theorem N8 (n:Nat) (f:Nat->Rat):N5 (n+1) f=N5 n f+f n:=rfl
theorem Y9 {f g:Nat->Rat}:∀ {n:Nat},(∀ i,i<n->f i=g i)->N5 n f=N5 n g
 | 0,_=>rfl
 | n+1,h=>by rw[N8,N8,Y9 fun i hi=>h i (by omega),h n (by omega)]
theorem V30 {f g:Nat->Rat}:∀ {n:Nat},N5 n (fun i=>f i+g i)=N5 n f+N5 n g
 | 0=>by simp only[Y26];grind
 | n+1=>by rw[N8,N8,N8,V30];grind
theorem E18 {f:Nat->Rat} {c:Rat}:∀ {n:Nat},N5 n (fun i=>c*f i)=c*N5 n f
 | 0=>by simp[Y26]
 | n+1=>by rw[N8,N8,E18];grind
theorem Z13 (h:∀ i,i<n->f i=0):N5 n f=0:=by
 induction n with
 | zero=>rfl
 | succ n ih=>rw[N8,ih fun i hi=>h i (by omega),h n (by omega)];grind
theorem U34 {f:Nat->Rat}:∀ {n:Nat},(∀ i,i<n->0<=f i)->0<=N5 n f
 | 0,_=>by simp[Y26]
 | n+1,h=>by
  rw[N8]
  have h1:=U34 (n:=n) fun i hi=>h i (by omega)
  have h2:=h n (by omega)
  grind
theorem W48 {f:Nat->Rat}:∀ {n:Nat} {r:Nat},r<n->(∀ i,i<n->0<=f i)->0<f r->0<N5 n f
 | 0,_,h,_,_=>by omega
 | n+1,r,hr,h,hp=>by
  rw[N8]
  have h2:=h n (by omega)
  by_cases e:r=n
  .subst e
   have h1:=U34 (n:=r) fun i hi=>h i (by omega)
   grind
  .have h1:=W48 (n:=n) (r:=r) (by omega) (fun i hi=>h i (by omega)) hp
   grind
theorem U15 (hr:r<n) (h:∀ i,i<n->i≠r->f i=0):N5 n f=f r:=by
 induction n with
 | zero=>omega
 | succ n ih=>
  rw[N8]
  by_cases e:r=n
  .subst e
   rw[Z13 fun i hi=>h i (by omega) (by omega)];grind
  .rw[ih (by omega) fun i hi hn=>h i (by omega) hn,h n (by omega) (by omega)];grind
theorem R80 {m:Nat} {f:Nat->Nat->Rat}:N5 n (fun i=>N5 m fun k=>f i k)=N5 m fun k=>N5 n fun i=>f i k:=by
 induction n with
 | zero=>simp only[Y26];exact (Z13 fun _ _=>rfl).symm
 | succ n ih=>simp only[N8];rw[ih,V30]
structure Tab where
 a:Nat->Nat->Rat
 g:Nat->Rat
 B:Nat->Nat
section
variable (m C R:Nat)
def pivot (T:Tab) (r c:Nat):Tab where
 a i j:=if i=r then T.a r j/T.a r c else T.a i j-T.a i c*(T.a r j/T.a r c)
 g j:=T.g j-T.g c*(T.a r j/T.a r c)
 B i:=if i=r then c else T.B i
structure Y10 (T:Tab):Prop where
 lt:∀ i,i<m->T.B i<C
 unit:∀ i k,i<m->k<m->T.a i (T.B k)=if i=k then 1 else 0
 goal:∀ k,k<m->T.g (T.B k)=0
 rhs:∀ i,i<m->0<=T.a i R
def Enters (T:Tab) (c:Nat):Prop:=c<C/\T.g c<0/\∀ j,j<c->0<=T.g j
def Leaves (T:Tab) (c r:Nat):Prop:=r<m/\0<T.a r c/\∀ i,i<m->0<T.a i c->T.a r R/T.a r c<T.a i R/T.a i c\/(T.a r R/T.a r c=T.a i R/T.a i c/\T.B r<=T.B i)
def V63 (T T':Tab):Prop:=∃ c r,Enters C T c/\Leaves m R T c r/\T'=pivot T r c
variable {m C R}
theorem Y10.inj {T:Tab} (h:Y10 m C R T) (hi:i<m) (hk:k<m) (e:T.B i=T.B k):i=k:=by
 have h1:=h.unit i k hi hk
 have h2:=h.unit i i hi hi
 rw[e,h1] at h2
 by_cases g:i=k
 .exact g
 .simp[g] at h2
theorem Y10.fresh {T:Tab} (h:Y10 m C R T) (hc:T.g c<0) (hi:i<m):T.B i≠c:=by
 intro e
 have:=h.goal i hi
 rw[e] at this
 grind
theorem Y10.pivot {T:Tab} (h:Y10 m C R T) {c r:Nat} (hc:Enters C T c) (hl:Leaves m R T c r):Y10 m C R (pivot T r c):=by
 obtain⟨hr,hp,hmin⟩:=hl
 have hne:T.a r c≠0:=by grind
 have hdiv:T.a r c/T.a r c=1:=by grind
 have hz:∀ k,k<m->k≠r->T.a r (T.B k)/T.a r c=0:=fun k hk hkr=>by
  rw[h.unit r k hr hk,if_neg (by omega)];grind
 refine⟨fun i hi => ?_,fun i k hi hk => ?_,fun k hk => ?_,fun i hi => ?_⟩
 .show (if i=r then c else T.B i)<C
  split
  .exact hc.1
  .exact h.lt i hi
 .show (if i=r then T.a r (if k=r then c else T.B k)/T.a r c else T.a i (if k=r then c else T.B k)-T.a i c*(T.a r (if k=r then c else T.B k)/T.a r c))=_
  by_cases hkr:k=r
  .simp only[hkr,if_true,hdiv]
   split
   .rfl
   .grind
  .simp only[hkr,if_false,hz k hk hkr]
   split
   .rename_i e
    rw[if_neg (by omega)]
   .rw[h.unit i k hi hk];grind
 .show T.g (if k=r then c else T.B k)-T.g c*(T.a r (if k=r then c else T.B k)/T.a r c)=0
  by_cases hkr:k=r
  .simp only[hkr,if_true,hdiv];grind
  .simp only[hkr,if_false,hz k hk hkr,h.goal k hk];grind
 .show 0<=(if i=r then T.a r R/T.a r c else T.a i R-T.a i c*(T.a r R/T.a r c))
  have hrr:=h.rhs r hr
  have hq:0<=T.a r R/T.a r c:=by
   have:=Rat.mul_nonneg hrr (Rat.le_of_lt (Rat.inv_pos.2 hp))
   rwa [Rat.div_def]
  split
  .exact hq
  .have hir:=h.rhs i hi
   by_cases hpos:0<T.a i c
   .have hle:T.a r R/T.a r c<=T.a i R/T.a i c:=by
     rcases hmin i hi hpos with h1 | ⟨h1,_⟩
     .exact Rat.le_of_lt h1
     .rw[h1];exact Rat.le_refl
    have h2:=Rat.mul_le_mul_of_nonneg_left hle (Rat.le_of_lt hpos)
    have h3:T.a i c*(T.a i R/T.a i c)=T.a i R:=by grind
    grind
   .have h2:T.a i c*(T.a r R/T.a r c)<=0:=by
     have h4:0 <= -T.a i c:=by grind
     have:=Rat.mul_nonneg h4 hq
     grind
    grind
variable (m) in
def K6 (T:Tab) (f:Nat->Rat):Prop:=∃ c:Nat->Rat,∀ j,f j=N5 m fun r=>c r*T.a r j
theorem K6.add {T:Tab} (h:K6 m T f) (h':K6 m T g):K6 m T fun j=>f j+g j:=by
 obtain⟨c,hc⟩:=h
 obtain⟨d,hd⟩:=h'
 refine⟨fun r=>c r+d r,fun j => ?_⟩
 show f j+g j=_
 rw[hc,hd,<- V30]
 exact Y9 fun i _=>by grind
theorem K6.smul {T:Tab} {f:Nat->Rat} (h:K6 m T f) (k:Rat):K6 m T fun j=>k*f j:=by
 obtain⟨c,hc⟩:=h
 refine⟨fun r=>k*c r,fun j => ?_⟩
 show k*f j=_
 rw[hc,<- E18]
 exact Y9 fun i _=>by grind
theorem K6.of {T:Tab} (h:K6 m T f) (e:∀ j,g j=f j):K6 m T g:=by rw[show g=f from funext e];exact h
theorem K6.row {T:Tab} (hr:r<m):K6 m T (T.a r):=by
 refine⟨fun i=>if i=r then 1 else 0,fun j => ?_⟩
 rw[U15 hr fun i _ hn=>by simp[hn]]
 simp
theorem K6.zero {T:Tab}:K6 m T fun _=>0:=⟨fun _=>0,fun j=>(Z13 fun _ _=>by simp).symm⟩
theorem K6.trans {T T':Tab} (hT:∀ r,r<m->K6 m T (T'.a r)) (h:K6 m T' f):K6 m T f:=by
 obtain⟨c,hc⟩:=h
 have:∀ n,n<=m->K6 m T fun j=>N5 n fun r=>c r*T'.a r j:=by
  intro n
  induction n with
  | zero=>exact fun _=>K6.zero
  | succ n ih=>exact fun hn=>(ih (by omega)).add ((hT n (by omega)).smul (c n))
 obtain⟨d,hd⟩:=this m (Nat.le_refl m)
 exact⟨d,fun j=>by rw[hc];exact hd j⟩
theorem R53 {T:Tab} (hr:r<m) (hi:i<m):K6 m T ((pivot T r c).a i):=by
 have h1:K6 m T fun j=>T.a r j/T.a r c:=by
  have:=(K6.row (T:=T) hr).smul (T.a r c)⁻¹
  exact this.of fun j=>by rw[Rat.div_def];grind
 by_cases e:i=r
 .subst e
  exact h1.of fun j=>by simp[pivot]
 .exact ((K6.row (T:=T) hi).add (h1.smul (-T.a i c))).of fun j=>by simp only[pivot,e,if_false];grind
theorem B59 {T:Tab} (hr:r<m):K6 m T fun j=>(pivot T r c).g j-T.g j:=by
 have h1:K6 m T fun j=>T.a r j/T.a r c:=by
  have:=(K6.row (T:=T) hr).smul (T.a r c)⁻¹
  exact this.of fun j=>by rw[Rat.div_def];grind
 exact (h1.smul (-T.g c)).of fun j=>by simp only[pivot];grind
theorem J60 {T T':Tab} (h:Y10 m C R T) (h':Y10 m C R T') (hB:∀ i,i<m->T.B i=T'.B i) (hs:∀ r,r<m->K6 m T (T'.a r)) (hg:K6 m T fun j=>T'.g j-T.g j):(∀ i,i<m->∀ j,T'.a i j=T.a i j)/\∀ j,T'.g j=T.g j:=by
 constructor
 .intro i hi j
  obtain⟨c,hc⟩:=hs i hi
  have hk:∀ k,k<m->c k=if i=k then 1 else 0:=by
   intro k hk
   have h1:=hc (T.B k)
   rw[hB k hk,h'.unit i k hi hk,U15 hk fun r hr hn=>by rw[<- hB k hk,h.unit r k hr hk,if_neg hn];simp] at h1
   rw[<- hB k hk,h.unit k k hk hk,if_pos rfl] at h1
   grind
  rw[hc j,U15 hi fun r hr hn=>by rw[hk r hr,if_neg (by omega)];simp,hk i hi,if_pos rfl]
  grind
 .intro j
  obtain⟨c,hc⟩:=hg
  have hk:∀ k,k<m->c k=0:=by
   intro k hk
   have h1:T'.g (T.B k)-T.g (T.B k)=_:=hc (T.B k)
   rw[U15 hk fun r hr hn=>by rw[h.unit r k hr hk,if_neg hn];simp] at h1
   rw[h.goal k hk,hB k hk,h'.goal k hk,<- hB k hk,h.unit k k hk hk,if_pos rfl] at h1
   grind
  have:=hc j
  rw[Z13 fun r hr=>by rw[hk r hr];simp] at this
  grind
end
section
variable {m C R:Nat} {T:Nat->Tab} {e l:Nat->Nat}
structure Run (m C R:Nat) (T:Nat->Tab) (e l:Nat->Nat):Prop where
 canon:Y10 m C R (T 0)
 enters:∀ k,Enters C (T k) (e k)
 leaves:∀ k,Leaves m R (T k) (e k) (l k)
 next:∀ k,T (k+1)=pivot (T k) (l k) (e k)
theorem Run.can (h:Run m C R T e l):∀ k,Y10 m C R (T k)
 | 0=>h.canon
 | k+1=>by rw[h.next];exact (h.can k).pivot (h.enters k) (h.leaves k)
theorem Run.span (h:Run m C R T e l):∀ {k:Nat},i<=k->(∀ r,r<m->K6 m (T i) ((T k).a r))/\K6 m (T i) fun j=>(T k).g j-(T i).g j:=by
 intro k
 induction k with
 | zero=>
  intro hk
  obtain rfl:i=0:=by omega
  exact⟨fun r hr=>K6.row hr,K6.zero.of fun j=>by grind⟩
 | succ k ih=>
  intro hk
  by_cases e1:i=k+1
  .subst e1
   exact⟨fun r hr=>K6.row hr,K6.zero.of fun j=>by grind⟩
  .obtain⟨h1,h2⟩:=ih (by omega)
   rw[h.next k]
   refine⟨fun r hr=>K6.trans h1 (R53 (h.leaves k).1 hr),?_⟩
   have h3:=K6.trans h1 (B59 (T:=T k) (r:=l k) (c:=e k) (h.leaves k).1)
   exact (h2.add h3).of fun j=>by grind
theorem Run.value (h:Run m C R T e l) (k:Nat):(T k).g R<=(T (k+1)).g R/\((T (k+1)).g R=(T k).g R->(T k).a (l k) R=0):=by
 have h1:=(h.enters k).2.1
 obtain⟨hr,hp,_⟩:=h.leaves k
 have h3:=(h.can k).rhs (l k) hr
 have hv:(T (k+1)).g R=(T k).g R-(T k).g (e k)*((T k).a (l k) R/(T k).a (l k) (e k)):=by rw[h.next];rfl
 have hq:0<=(T k).a (l k) R/(T k).a (l k) (e k):=by
  have:=Rat.mul_nonneg h3 (Rat.le_of_lt (Rat.inv_pos.2 hp))
  rwa [Rat.div_def]
 have hm:=Rat.mul_nonneg (a := -(T k).g (e k)) (by grind) hq
 refine⟨by rw[hv];grind,fun e1 => ?_⟩
 rw[hv] at e1
 have h0:(T k).g (e k)*((T k).a (l k) R/(T k).a (l k) (e k))=0:=by grind
 rcases Rat.mul_eq_zero.1 h0 with h4 | h4
 .grind
 .rw[Rat.div_def] at h4
  rcases Rat.mul_eq_zero.1 h4 with h5 | h5
  .exact h5
  .have h6:(T k).a (l k) (e k)*((T k).a (l k) (e k))⁻¹=1:=Rat.mul_inv_cancel _ (by grind)
   rw[h5] at h6;grind
theorem Run.value_le (h:Run m C R T e l):∀ {k:Nat},i<=k->(T i).g R<=(T k).g R:=by
 intro k
 induction k with
 | zero=>intro hk;obtain rfl:i=0:=(by omega);exact Rat.le_refl
 | succ k ih=>
  intro hk
  by_cases e1:i=k+1
  .subst e1;exact Rat.le_refl
  .have:=ih (by omega)
   have:=(h.value k).1
   grind
def InB (m:Nat) (T:Tab) (v:Nat):Prop:=∃ r,r<m/\T.B r=v
theorem Run.inB_next (h:Run m C R T e l) (hv:v≠e k) (hl:v≠(T k).B (l k)):InB m (T (k+1)) v<->InB m (T k) v:=by
 rw[h.next]
 constructor
 .rintro⟨r,hr,hB⟩
  have hB:(if r=l k then e k else (T k).B r)=v:=hB
  split at hB
  .exact absurd hB.symm hv
  .exact⟨r,hr,hB⟩
 .rintro⟨r,hr,hB⟩
  refine⟨r,hr,?_⟩
  show (if r=l k then e k else (T k).B r)=v
  rw[if_neg (fun e1=>hl (by rw[<- e1];exact hB.symm))]
  exact hB
theorem Run.inB_new (h:Run m C R T e l):InB m (T (k+1)) (e k):=by
 rw[h.next]
 exact⟨l k,(h.leaves k).1,by show (if l k=l k then e k else (T k).B (l k))=e k;rw[if_pos rfl]⟩
theorem Run.inB_old (h:Run m C R T e l):¬ InB m (T k) (e k):=by
 rintro⟨r,hr,hB⟩
 exact (h.can k).fresh (h.enters k).2.1 hr hB
theorem Run.out (h:Run m C R T e l) (h0:¬ InB m (T i) v):∀ {k:Nat},i<=k->(∀ q,i<=q->q<k->e q≠v)->¬ InB m (T k) v:=by
 intro k
 induction k with
 | zero=>intro hk _;obtain rfl:i=0:=(by omega);exact h0
 | succ k ih=>
  intro hk hq
  by_cases e1:i=k+1
  .subst e1;exact h0
  .have h1:=ih (by omega) fun q a b=>hq q a (by omega)
   intro h2
   by_cases e2:v=(T k).B (l k)
   .exact h1 ⟨l k,(h.leaves k).1,e2.symm⟩
   .exact h1 ((h.inB_next (hq k (by omega) (by omega)).symm e2).1 h2)
theorem Run.stay (h:Run m C R T e l) (h0:InB m (T i) v):∀ {k:Nat},i<=k->(∀ q,i<=q->q<k->(T q).B (l q)≠v)->InB m (T k) v:=by
 intro k
 induction k with
 | zero=>intro hk _;obtain rfl:i=0:=(by omega);exact h0
 | succ k ih=>
  intro hk hq
  by_cases e1:i=k+1
  .subst e1;exact h0
  .have h1:=ih (by omega) fun q a b=>hq q a (by omega)
   by_cases e2:v=e k
   .rw[e2];exact h.inB_new
   .exact (h.inB_next e2 (hq k (by omega) (by omega)).symm).2 h1
def dir (m:Nat) (T:Tab) (s:Nat) (f:Nat->Rat):Rat:=f s-N5 m fun r=>f (T.B r)*T.a r s
theorem K69 {T:Tab}:dir m T s (fun j=>f j+g j)=dir m T s f+dir m T s g:=by
 unfold dir
 rw[show (N5 m fun r=>(f (T.B r)+g (T.B r))*T.a r s)=N5 m (fun r=>f (T.B r)*T.a r s)+N5 m fun r=>g (T.B r)*T.a r s by rw[<- V30];exact Y9 fun i _=>by grind]
 grind
theorem D88 {T:Tab} {k:Rat}:dir m T s (fun j=>k*f j)=k*dir m T s f:=by
 unfold dir
 rw[show (N5 m fun r=>k*f (T.B r)*T.a r s)=k*N5 m fun r=>f (T.B r)*T.a r s by rw[<- E18];exact Y9 fun i _=>by grind]
 grind
theorem X92 {T:Tab} (h:Y10 m C R T) (hr:r<m):dir m T s (T.a r)=0:=by
 unfold dir
 rw[U15 hr fun i hi hn=>by rw[h.unit r i hr hi,if_neg (fun e=>hn e.symm)];simp,h.unit r r hr hr,if_pos rfl]
 grind
theorem R87 {T:Tab}:dir m T s (fun _=>0)=0:=by
 unfold dir
 rw[Z13 fun _ _=>by simp];grind
theorem V64 {T:Tab} (h:Y10 m C R T) (hf:K6 m T f):dir m T s f=0:=by
 obtain⟨c,hc⟩:=hf
 have e1:f=fun j=>N5 m fun r=>c r*T.a r j:=funext hc
 have:∀ n,n<=m->dir m T s (fun j=>N5 n fun r=>c r*T.a r j)=0:=by
  intro n
  induction n with
  | zero=>exact fun _=>R87
  | succ n ih=>
   intro hn
   have:=K69 (m:=m) (T:=T) (s:=s) (f:=fun j=>N5 n fun r=>c r*T.a r j) (g:=fun j=>c n*T.a n j)
   rw[ih (by omega),D88,X92 h (by omega)] at this
   simp only[N8]
   rw[this];grind
 rw[e1];exact this m (Nat.le_refl m)
theorem V87 {T:Tab} (h:Y10 m C R T):dir m T s T.g=T.g s:=by
 unfold dir
 rw[Z13 fun r hr=>by rw[h.goal r hr];simp];grind
theorem Run.no_cycle (h:Run m C R T e l) {j:Nat} (hij:i<j) (hB:∀ r,r<m->(T i).B r=(T j).B r):False:=by
 obtain⟨hs1,hs2⟩:=h.span (Nat.le_of_lt hij)
 obtain⟨sa,sg⟩:=J60 (h.can i) (h.can j) hB hs1 hs2
 have hval:∀ k,i<=k->k<=j->(T k).g R=(T i).g R:=fun k h1 h2=>by
  have a1:=h.value_le h1
  have a2:=h.value_le h2
  rw[sg R] at a2
  grind
 have hdeg:∀ k,i<=k->k<j->(T k).a (l k) R=0:=fun k h1 h2=>(h.value k).2 (by rw[hval k h1 (by omega),hval (k+1) (by omega) (by omega)])
 have hrhs:∀ k,i<=k->k<=j->∀ r,r<m->(T k).a r R=(T i).a r R:=by
  intro k
  induction k with
  | zero=>intro h1 _ r _;obtain rfl:i=0:=(by omega);rfl
  | succ k ih=>
   intro h1 h2 r hr
   by_cases e1:i=k+1
   .rw[<- e1]
   .have hk:=ih (by omega) (by omega)
    have hd:=hdeg k (by omega) (by omega)
    rw[h.next]
    show (if r=l k then (T k).a (l k) R/(T k).a (l k) (e k) else (T k).a r R-(T k).a r (e k)*((T k).a (l k) R/(T k).a (l k) (e k)))=_
    rw[hd,zdiv]
    split
    .rename_i e2
     rw[e2,<- hk _ (h.leaves k).1,hd]
    .rw[<- hk r hr];grind
 have hrow:∀ r,r<m->(∃ k,i<=k/\k<j/\l k=r)->∀ q,i<=q->q<=j->(T q).a r R=0:=by
  rintro r hr ⟨k,h1,h2,rfl⟩ q h3 h4
  rw[hrhs q h3 h4 _ hr,<- hrhs k h1 (by omega) _ hr];exact hdeg k h1 h2
 have hbas:∀ v,InB m (T i) v<->InB m (T j) v:=fun v=>⟨fun⟨r,hr,e1⟩=>⟨r,hr,by rw[<- hB r hr];exact e1⟩,fun⟨r,hr,e1⟩=>⟨r,hr,by rw[hB r hr];exact e1⟩⟩
 obtain⟨k1,h11,h12,hmax⟩:∃ k1,i<=k1/\k1<j/\∀ k,i<=k->k<j->e k<=e k1:=by
  have:∀ n,i+n+1<=j->∃ k1,i<=k1/\k1<=i+n/\∀ k,i<=k->k<=i+n->e k<=e k1:=by
   intro n
   induction n with
   | zero=>exact fun _=>⟨i,Nat.le_refl _,by omega,fun k a b=>by obtain rfl:k=i:=(by omega);exact Nat.le_refl _⟩
   | succ n ih=>
    intro hn
    obtain⟨k1,a,b,c⟩:=ih (by omega)
    by_cases hle:e (i+n+1)<=e k1
    .refine⟨k1,a,by omega,fun k p q => ?_⟩
     by_cases e1:k=i+n+1
     .rw[e1];exact hle
     .exact c k p (by omega)
    .refine⟨i+n+1,by omega,by omega,fun k p q => ?_⟩
     by_cases e1:k=i+n+1
     .rw[e1];exact Nat.le_refl _
     .have:=c k p (by omega);omega
  obtain⟨k1,a,b,c⟩:=this (j-i-1) (by omega)
  exact⟨k1,a,by omega,fun k p q=>c k p (by omega)⟩
 generalize ht:e k1=t at hmax
 obtain⟨k2,h21,h22,hleave⟩:∃ k2,i<=k2/\k2<j/\(T k2).B (l k2)=t:=by
  refine Classical.byContradiction fun hno => ?_
  have hno:∀ k,i<=k->k<j->(T k).B (l k)≠t:=fun k a b c=>hno ⟨k,a,b,c⟩
  have h3:InB m (T j) t:=h.stay (i:=k1+1) (by rw[<- ht];exact h.inB_new) (by omega) fun q a b=>hno q (by omega) b
  have h4:InB m (T k1) t:=h.stay (i:=i) ((hbas t).2 h3) h11 fun q a b=>hno q a (by omega)
  rw[<- ht] at h4
  exact h.inB_old h4
 have hconst:∀ v,(∀ k,i<=k->k<j->e k≠v)->∀ k k',i<=k->k<=j->i<=k'->k'<=j->InB m (T k) v->InB m (T k') v:=by
  intro v hv k k' a b c d hin
  have hi:InB m (T i) v:=Classical.byContradiction fun hn=>h.out hn a (fun q x y=>hv q x (by omega)) hin
  refine Classical.byContradiction fun hn => ?_
  exact h.out hn d (fun q x y=>hv q (by omega) y) ((hbas v).1 hi)
 have hspan:K6 m (T k2) fun q=>(T k1).g q-(T k2).g q:=by
  by_cases hle:k2<=k1
  .exact (h.span hle).2
  .have s1:=h.span (i:=i) (k:=k1) h11
   have s2:=h.span (i:=k2) (k:=j) (by omega)
   have s3:∀ r,r<m->K6 m (T k2) ((T i).a r):=fun r hr=>by
    have:=s2.1 r hr
    rwa [show (T j).a r=(T i).a r from funext fun q=>sa r hr q] at this
   have s4:=K6.trans s3 s1.2
   exact (s2.2.add s4).of fun q=>by rw[sg q];grind
 generalize hsc:e k2=s at *
 have hdir:dir m (T k2) s (T k1).g=(T k2).g s:=by
  have h1:=K69 (m:=m) (T:=T k2) (s:=s) (f:=fun q=>(T k1).g q-(T k2).g q) (g:=(T k2).g)
  rw[V64 (h.can k2) hspan,V87 (h.can k2)] at h1
  rw[show (fun q=>((T k1).g q-(T k2).g q)+(T k2).g q)=(T k1).g from funext fun q=>by grind] at h1
  rw[h1];grind
 have hneg:(T k2).g s<0:=by rw[<- hsc];exact (h.enters k2).2.1
 have ht1:(T k1).g t<0:=by rw[<- ht];exact (h.enters k1).2.1
 have hsmall:∀ v,v<t->0<=(T k1).g v:=fun v hv=>(h.enters k1).2.2 v (by rw[ht];exact hv)
 obtain⟨hl2,hp2,hmin2⟩:=h.leaves k2
 rw[hsc] at hp2 hmin2
 have hst:s<t:=by
  have h1:s<=t:=by rw[<- hsc];exact hmax k2 h21 h22
  have h2:s≠t:=fun e1=>h.inB_old (k:=k2) ⟨l k2,hl2,by rw[hsc,e1];exact hleave⟩
  omega
 have hterm:∀ r,r<m->(T k1).g ((T k2).B r)*(T k2).a r s<=0:=by
  intro r hr
  by_cases hrl:r=l k2
  .rw[hrl,hleave]
   have:=Rat.mul_nonneg (a := -(T k1).g t) (b:=(T k2).a (l k2) s) (by grind) (Rat.le_of_lt hp2)
   grind
  .by_cases hE:∃ k,i<=k/\k<j/\e k=(T k2).B r
   .obtain⟨k,a,b,c⟩:=hE
    have hvt:(T k2).B r<t:=by
     have h1:(T k2).B r<=t:=by rw[<- c];exact hmax k a b
     have h2:(T k2).B r≠t:=fun e1=>hrl ((h.can k2).inj hr hl2 (e1.trans hleave.symm))
     omega
    have hpiv:∃ q,i<=q/\q<j/\l q=r:=by
     refine Classical.byContradiction fun hno => ?_
     have hno:∀ q,i<=q->q<j->l q≠r:=fun q x y z=>hno ⟨q,x,y,z⟩
     have hsame:∀ q,i<=q->q<=j->(T q).B r=(T i).B r:=by
      intro q
      induction q with
      | zero=>intro x _;obtain rfl:i=0:=(by omega);rfl
      | succ q ih=>
       intro x y
       by_cases e1:i=q+1
       .rw[<- e1]
       .rw[h.next]
        show (if r=l q then e q else (T q).B r)=_
        rw[if_neg (fun e2=>hno q (by omega) (by omega) e2.symm)]
        exact ih (by omega) (by omega)
     exact h.inB_old (k:=k) ⟨r,hr,by rw[c,hsame k a (by omega),hsame k2 h21 (by omega)]⟩
    have hz:=hrow r hr hpiv k2 h21 (by omega)
    have hz2:=hdeg k2 h21 h22
    have hle:(T k2).a r s<=0:=by
     refine Classical.byContradiction fun hn => ?_
     have hpos:0<(T k2).a r s:=by grind
     rcases hmin2 r hr hpos with h1 | ⟨_,h1⟩
     .rw[hz,hz2,zdiv,zdiv] at h1;grind
     .rw[hleave] at h1;omega
    have:=Rat.mul_nonneg (hsmall _ hvt) (b := -(T k2).a r s) (by grind)
    grind
   .have hin:InB m (T k1) ((T k2).B r):=hconst _ (fun k a b c=>hE ⟨k,a,b,c⟩) k2 k1 h21 (by omega) h11 (by omega) ⟨r,hr,rfl⟩
    obtain⟨r1,hr1,e1⟩:=hin
    rw[<- e1,(h.can k1).goal r1 hr1];simp
 have hlast:(T k1).g ((T k2).B (l k2))*(T k2).a (l k2) s<0:=by
  rw[hleave]
  have:=Rat.mul_pos (a := -(T k1).g t) (b:=(T k2).a (l k2) s) (by grind) hp2
  grind
 have hsum:0<N5 m fun r=>(-1:Rat)*((T k1).g ((T k2).B r)*(T k2).a r s):=W48 hl2 (fun r hr=>by have:=hterm r hr;grind) (by grind)
 rw[E18] at hsum
 unfold dir at hdir
 have h0:=hsmall s hst
 grind
def U9 (C:Nat) (B:Nat->Nat) (n:Nat):Nat:=n.rec 0 fun k s=>s*C+B k
theorem Z71 {C:Nat} {B:Nat->Nat}:∀ {n:Nat},(∀ i,i<n->B i<C)->U9 C B n<C^n
 | 0,_=>Nat.lt_succ_self 0
 | n+1,h=>by
  have h1:=Z71 (n:=n) fun i hi=>h i (by omega)
  have h2:=h n (by omega)
  show U9 C B n*C+B n<C^(n+1)
  rw[Nat.pow_succ]
  have h3:(U9 C B n+1)*C<=C^n*C:=Nat.mul_le_mul_right C h1
  rw[Nat.add_mul,Nat.one_mul] at h3
  omega
theorem W67 {C:Nat} {B B':Nat->Nat}:∀ {n:Nat},(∀ i,i<n->B i<C)->(∀ i,i<n->B' i<C)->U9 C B n=U9 C B' n->∀ i,i<n->B i=B' i
 | 0,_,_,_,i,hi=>by omega
 | n+1,h,h',e1,i,hi=>by
  have e1:U9 C B n*C+B n=U9 C B' n*C+B' n:=e1
  have h1:=h n (by omega)
  have h2:=h' n (by omega)
  have hq:U9 C B n=U9 C B' n:=by
   have a:(U9 C B n*C+B n)/C=(U9 C B' n*C+B' n)/C:=by rw[e1]
   rw[Nat.mul_comm,Nat.mul_comm (U9 C B' n),Nat.mul_add_div (by omega),Nat.mul_add_div (by omega),Nat.div_eq_of_lt h1,Nat.div_eq_of_lt h2] at a
   simpa using a
  have hr:B n=B' n:=by rw[hq] at e1;omega
  by_cases e2:i=n
  .rw[e2];exact hr
  .exact W67 (n:=n) (fun i hi=>h i (by omega)) (fun i hi=>h' i (by omega)) hq i (by omega)
theorem Q94 {N:Nat} {f:Nat->Nat} (h:∀ k,f k<N):∃ i j,i<j/\f i=f j:=by
 refine Classical.byContradiction fun hno => ?_
 have hno:∀ i j,i<j->f i≠f j:=fun i j a b=>hno ⟨i,j,a,b⟩
 have:∀ N,∀ s:Nat->Nat,(∀ i j,i<j->s i<s j)->(∀ k,f (s k)<N)->False:=by
  intro N
  induction N with
  | zero=>intro s _ h;exact absurd (h 0) (by omega)
  | succ N ih=>
   intro s hs h
   by_cases hx:∃ k,f (s k)=N
   .obtain⟨k,hk⟩:=hx
    refine ih (fun i=>s (k+1+i)) (fun i j hij=>hs _ _ (by omega)) fun q => ?_
    have h1:=h (k+1+q)
    have h2:=hno (s k) (s (k+1+q)) (hs _ _ (by omega))
    rw[hk] at h2
    omega
   .exact ih s hs fun k=>by
     have h1:=h k
     have h2:f (s k)≠N:=fun e1=>hx ⟨k,e1⟩
     omega
 exact this N id (fun i j hij=>hij) h
theorem Run.false (h:Run m C R T e l):False:=by
 obtain⟨i,j,hij,e1⟩:=Q94 (f:=fun k=>U9 C (T k).B m) fun k=>Z71 (h.can k).lt
 exact h.no_cycle hij fun r hr=>W67 (h.can i).lt (h.can j).lt e1 r hr
end
end Go.Lp
