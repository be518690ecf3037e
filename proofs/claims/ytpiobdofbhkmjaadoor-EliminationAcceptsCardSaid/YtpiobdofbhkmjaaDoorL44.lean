/-
  Plain: the value of a packing problem: at least 1,at most 1 if one set holds everything,and exactly 1 only then.
  Plain: least widths as orders;the bag of a solver by reachability.
  Plain: Best's permutation is the first one of least width.
-/
import Derived.Test.YtpiobdofbhkmjaaDoorL31
import Derived.Test.YtpiobdofbhkmjaaDoorL43
set_option linter.unusedSimpArgs false
set_option linter.unusedVariables false
set_option linter.unusedSectionVars false
namespace Go.Lp
variable {j r:Nat}
theorem V80 {m R:Nat} {T:Tab} {c:Nat} (h:∃ i,i<m/\0<T.a i c):∃ r,Leaves m R T c r:=by
 have key:∀ k,(∃ i,i<k/\0<T.a i c)->∃ r,r<k/\0<T.a r c/\∀ i,i<k->0<T.a i c->T.a r R/T.a r c<T.a i R/T.a i c\/(T.a r R/T.a r c=T.a i R/T.a i c/\T.B r<=T.B i):=by
  intro k
  induction k with
  | zero=>rintro⟨i,h,_⟩;omega
  | succ k ih=>
   rintro⟨i,hi,hp⟩
   by_cases hk:0<T.a k c
   .by_cases hex:∃ i,i<k/\0<T.a i c
    .obtain⟨r,hr,h1,h2⟩:=ih hex
     by_cases hb:T.a r R/T.a r c<T.a k R/T.a k c\/(T.a r R/T.a r c=T.a k R/T.a k c/\T.B r<=T.B k)
     .refine⟨r,by omega,h1,fun j hj hjp => ?_⟩
      by_cases e:j=k
      .subst e;exact hb
      .exact h2 j (by omega) hjp
     .refine⟨k,by omega,hk,fun j hj hjp => ?_⟩
      by_cases e:j=k
      .subst e;exact .inr ⟨rfl,Nat.le_refl _⟩
      .have h3:=h2 j (by omega) hjp
       generalize T.a r R/T.a r c=x at *
       generalize T.a k R/T.a k c=y at *
       generalize T.a j R/T.a j c=z at *
       have h4:¬ x<y:=fun h=>hb (.inl h)
       have h5:x=y->T.B k<T.B r:=fun h=>by
        refine Nat.lt_of_not_le fun hle=>hb (.inr ⟨h,hle⟩)
       by_cases e2:x=y
       .have:=h5 e2
        rcases h3 with h3 | ⟨h3,h6⟩
        .exact .inl (by rw[<- e2];exact h3)
        .exact .inr ⟨by rw[<- e2];exact h3,by omega⟩
       .left
        have h7:y<x:=by grind
        rcases h3 with h3 | ⟨h3,_⟩
        .grind
        .rw[<- h3];exact h7
    .refine⟨k,by omega,hk,fun j hj hjp => ?_⟩
     by_cases e:j=k
     .subst e;exact .inr ⟨rfl,Nat.le_refl _⟩
     .exact absurd ⟨j,by omega,hjp⟩ hex
   .obtain⟨r,hr,h1,h2⟩:=ih ⟨i,by
     by_cases e:i=k
     .subst e;exact absurd hp hk
     .omega,hp⟩
    refine⟨r,by omega,h1,fun j hj hjp => ?_⟩
    by_cases e:j=k
    .subst e;exact absurd hjp hk
    .exact h2 j (by omega) hjp
 obtain⟨r,h1,h2,h3⟩:=key m h
 exact⟨r,h1,h2,h3⟩
theorem X57 {C:Nat} {g:Nat->Rat}:∀ {k:Nat},(∃ j,j<k/\g j<0)->∃ c,c<k/\g c<0/\∀ j,j<c->0<=g j
 | 0,h=>by obtain⟨j,h,_⟩:=h;omega
 | k+1,h=>by
  by_cases hex:∃ j,j<k/\g j<0
  .obtain⟨c,h1,h2,h3⟩:=X57 (C:=C) hex
   exact⟨c,by omega,h2,h3⟩
  .obtain⟨j,h1,h2⟩:=h
   have:j=k:=by
    refine Classical.byContradiction fun hn=>hex ⟨j,by omega,h2⟩
   subst this
   exact⟨j,by omega,h2,fun i hi=>Classical.byContradiction fun hn=>hex ⟨i,hi,by grind⟩⟩
section
variable {n m:Nat} {s:Nat->Nat->Bool}
noncomputable def Z10 (n m:Nat) (s:Nat->Nat->Bool):Tab:=tabK n m s (steps n m s)
theorem D45 (hcov:∀ v,v<n->∃ r,r<m/\s r v=true) (hj:j<n+m):0<=(Z10 n m s).g j:=by
 refine Classical.byContradiction fun hn => ?_
 have hc:=tabK_can (n:=n) (m:=m) (s:=s) (Nat.le_refl _)
 have he:=tabK_eqv (n:=n) (m:=m) (s:=s) (Nat.le_refl _)
 obtain⟨c,h1,h2,h3⟩:=X57 (C:=n+m) (g:=(Z10 n m s).g) (k:=n+m) ⟨j,hj,by grind⟩
 obtain⟨r,hr⟩:=V80 (R:=n+m+1) (bounded hcov hc he h1)
 exact N51 (n:=n) (m:=m) (s:=s) ⟨_,c,r,⟨h1,h2,h3⟩,hr,rfl⟩
noncomputable def valT (n m:Nat) (s:Nat->Nat->Bool):Rat:=(Z10 n m s).g (n+m+1)
theorem V53 {k:Nat} (hk:k<m):(M11 n m s).a r (n+k)=if k=r then 1 else 0:=by
 show (if n+k<n then _ else if n+k<n+m then (if n+k=n+r then (1:Rat) else 0) else _)=_
 rw[if_neg (by omega),if_pos (by omega)]
 by_cases e:k=r
 .rw[if_pos e,if_pos (by omega)]
 .rw[if_neg e,if_neg (by omega)]
theorem D46 {v:Nat} (hv:v<n):(M11 n m s).a r v=if s r v=true then 1 else 0:=by
 show (if v<n then (if s r v then (1:Rat) else 0) else _)=_
 rw[if_pos hv]
theorem V50:(M11 n m s).a r (n+m+1)=1:=by
 show (if n+m+1<n then _ else if n+m+1<n+m then _ else if n+m+1=n+m then (-1:Rat) else 1)=1
 rw[if_neg (by omega),if_neg (by omega),if_neg (by omega)]
theorem M31:(M11 n m s).g j=if j<n then -1 else 0:=rfl
theorem U54 (hcov:∀ v,v<n->∃ r,r<m/\s r v=true):∃ y:Nat->Rat,(∀ r,r<m->0<=y r)/\valT n m s=N5 m y/\(∀ v,v<n->1<=N5 m fun r=>y r*(if s r v=true then 1 else 0)) /\
  ∀ j,(Z10 n m s).g j-(M11 n m s).g j=N5 m fun r=>y r*(M11 n m s).a r j:=by
 have he:=tabK_eqv (n:=n) (m:=m) (s:=s) (Nat.le_refl _)
 obtain⟨y,hy⟩:=he.goal
 have hy:∀ j,(Z10 n m s).g j-(M11 n m s).g j=N5 m fun r=>y r*(M11 n m s).a r j:=hy
 refine⟨y,fun r hr => ?_,?_,fun v hv => ?_,hy⟩
 .have h1:=hy (n+r)
  have h2:=D45 (s:=s) hcov (j:=n+r) (by omega)
  rw[M31,if_neg (by omega),U15 hr fun i hi hn=>by rw[V53 hr,if_neg (Ne.symm hn)];grind,V53 hr,if_pos rfl] at h1
  grind
 .have h1:=hy (n+m+1)
  rw[M31,if_neg (by omega),Y9 (g:=y) fun i hi=>by rw[V50];grind] at h1
  unfold valT;grind
 .have h1:=hy v
  have h2:=D45 (s:=s) hcov (j:=v) (by omega)
  rw[M31,if_pos hv,Y9 (g:=fun r=>y r*(if s r v=true then 1 else 0)) fun i hi=>by rw[D46 hv]] at h1
  grind
theorem N35 {f g:Nat->Rat}:∀ {n:Nat},(∀ i,i<n->f i<=g i)->N5 n f<=N5 n g
 | 0,_=>by simp[Y26]
 | n+1,h=>by
  rw[N8,N8]
  have h1:=N35 (n:=n) fun i hi=>h i (by omega)
  have h2:=h n (by omega)
  grind
theorem val_ge (hcov:∀ v,v<n->∃ r,r<m/\s r v=true) (hn:0<n):1<=valT n m s:=by
 obtain⟨y,h1,h2,h3,_⟩:=U54 hcov
 have h4:=h3 0 hn
 have h5:N5 m (fun r=>y r*(if s r 0=true then 1 else 0))<=N5 m y:=N35 fun r hr=>by
  have:=h1 r hr
  split<;>grind
 rw[h2];grind
theorem val_one (hcov:∀ v,v<n->∃ r,r<m/\s r v=true) (hn:0<n) (hv:valT n m s<=1):∃ r,r<m/\∀ v,v<n->s r v=true:=by
 obtain⟨y,h1,h2,h3,_⟩:=U54 hcov
 have hge:=val_ge hcov hn
 have hsum:N5 m y=1:=by grind
 have hpos:∃ r,r<m/\0<y r:=by
  refine Classical.byContradiction fun hno => ?_
  have:N5 m y=0:=Z13 fun i hi=>by
   have a1:=h1 i hi
   have a2:¬ 0<y i:=fun h=>hno ⟨i,hi,h⟩
   grind
  grind
 obtain⟨r,hr,hp⟩:=hpos
 refine⟨r,hr,fun v hv => ?_⟩
 refine Classical.byContradiction fun hns => ?_
 have h4:=h3 v hv
 have h5:0<N5 m fun i=>y i-y i*(if s i v=true then 1 else 0):=W48 hr (fun i hi=>by
  have:=h1 i hi
  split<;>grind) (by rw[if_neg hns];grind)
 have h6:N5 m (fun i=>y i-y i*(if s i v=true then 1 else 0))=N5 m y+(-1)*N5 m fun i=>y i*(if s i v=true then 1 else 0):=by
  rw[<- E18,<- V30]
  exact Y9 fun i hi=>by grind
 grind
theorem C59 (hcov:∀ v,v<n->∃ r,r<m/\s r v=true):∃ (B:Nat->Nat) (b:Nat->Rat),(∀ i,i<m->0<=b i)/\(∀ r,r<m->(N5 m fun i=>(M11 n m s).a r (B i)*b i)=1) /\
  valT n m s=(N5 m fun i=>(if B i<n then 1 else 0)*b i)/\∀ i,i<m->B i<n+m:=by
 have hc:=tabK_can (n:=n) (m:=m) (s:=s) (Nat.le_refl _)
 have he:=tabK_eqv (n:=n) (m:=m) (s:=s) (Nat.le_refl _)
 have hev:∀ r,r<m->(N5 m fun i=>(M11 n m s).a r ((Z10 n m s).B i)*(Z10 n m s).a i (n+m+1))=1:=by
  intro r hr
  obtain⟨c,hcx⟩:=he.back r hr
  have hcx:∀ j,(M11 n m s).a r j=N5 m fun k=>c k*(Z10 n m s).a k j:=hcx
  have h1:∀ i,i<m->(M11 n m s).a r ((Z10 n m s).B i)=c i:=fun i hi=>by
   rw[hcx,U15 hi fun k hk hn=>by
    have h2:(Z10 n m s).a k ((Z10 n m s).B i)=if k=i then 1 else 0:=hc.unit k i hk hi
    rw[h2,if_neg hn];grind]
   have h2:(Z10 n m s).a i ((Z10 n m s).B i)=if i=i then 1 else 0:=hc.unit i i hi hi
   rw[h2,if_pos rfl];grind
  rw[Y9 (g:=fun k=>c k*(Z10 n m s).a k (n+m+1)) fun i hi=>by rw[h1 i hi],<- hcx,V50]
 refine⟨(Z10 n m s).B,fun i=>(Z10 n m s).a i (n+m+1),fun i hi=>hc.rhs i hi,hev,?_,hc.lt⟩
 obtain⟨y,h1,h2,h3,h4⟩:=U54 hcov
 have h5:∀ i,i<m->(0:Rat)-(if (Z10 n m s).B i<n then -1 else 0)=N5 m fun r=>y r*(M11 n m s).a r ((Z10 n m s).B i):=fun i hi=>by
  have h6:=h4 ((Z10 n m s).B i)
  have h7:(Z10 n m s).g ((Z10 n m s).B i)=0:=hc.goal i hi
  rw[h7,M31] at h6
  exact h6
 have h8:(N5 m fun i=>(N5 m fun r=>y r*(M11 n m s).a r ((Z10 n m s).B i))*(Z10 n m s).a i (n+m+1))=N5 m y:=by
  rw[Y9 (g:=fun i=>N5 m fun r=>y r*((M11 n m s).a r ((Z10 n m s).B i)*(Z10 n m s).a i (n+m+1))) fun i hi=>by
   rw[Rat.mul_comm,<- E18]
   exact Y9 fun r hr=>by grind,R80]
  exact Y9 fun r hr=>by rw[E18,hev r hr];grind
 rw[h2,<- h8]
 exact Y9 fun i hi=>by
  rw[<- h5 i hi]
  split<;>grind
theorem val_le (hcov:∀ v,v<n->∃ r,r<m/\s r v=true) (hr:r<m) (hall:∀ v,v<n->s r v=true):valT n m s<=1:=by
 obtain⟨B,b,h1,h2,h3,h4⟩:=C59 hcov
 have key:N5 m (fun i=>(if B i<n then 1 else 0)*b i)<=N5 m fun i=>(M11 n m s).a r (B i)*b i := ?_
 .rw[h2 r hr] at key;rw[h3];exact key
 refine N35 fun i hi => ?_
 have hb:=h1 i hi
 by_cases e:B i<n
 .rw[if_pos e,D46 e,hall _ e,if_pos rfl];exact Rat.le_refl
 .rw[if_neg e]
  have:=Rat.mul_nonneg (Z35 (m:=m) (s:=s) (n:=n) (i:=r) (h4 i hi)) hb
  grind
theorem J53:∀ n:Nat,N5 n (fun _=>1)=(n:Rat)
 | 0=>rfl
 | n+1=>by rw[N8,J53];simp[Rat.natCast_add]
theorem val_small (hcov:∀ v,v<n->∃ r,r<m/\s r v=true):valT n m s<=(m:Rat):=by
 obtain⟨B,b,h1,h2,h3,h4⟩:=C59 hcov
 rw[h3,<- J53]
 refine N35 fun i hi => ?_
 have hb:=h1 i hi
 by_cases e:B i<n
 .rw[if_pos e]
  obtain⟨r,hr,hs⟩:=hcov (B i) e
  have h5:=h2 r hr
  have h6:(M11 n m s).a r (B i)=1:=by rw[D46 e,hs,if_pos rfl]
  have h7:N5 m (fun k=>if k=i then b i else 0)<=N5 m fun k=>(M11 n m s).a r (B k)*b k:=N35 fun k hk=>by
   by_cases e2:k=i
   .subst e2;rw[if_pos rfl,h6];grind
   .rw[if_neg e2]
    exact Rat.mul_nonneg (Z35 (m:=m) (s:=s) (n:=n) (i:=r) (h4 k hk)) (h1 k hk)
  rw[U15 hi fun k hk hn=>if_neg hn,if_pos rfl,h5] at h7
  grind
 .rw[if_neg e];grind
end
end Go.Lp

namespace Go.Clo
theorem V52 {x y w:Rat}:gr x y<=w<->x<=w/\y<=w:=by
 unfold gr
 split<;>grind
theorem M90 {w c W:Rat} {acc:Option Rat}:(∃ b,G23 w c acc=some b/\b<=W)<->(∃ b,acc=some b/\b<=W)\/(w<=W/\c<=W):=by
 unfold G23
 cases acc with
 | none=>simp[V52]
 | some b=>
  dsimp only
  by_cases h1:b<=w
  .rw[if_pos h1]
   constructor
   .rintro⟨x,hx,h⟩
    cases hx
    exact .inl ⟨_,rfl,h⟩
   .rintro (⟨x,hx,h⟩ | ⟨h2,h3⟩)
    .exact⟨x,hx,h⟩
    .exact⟨b,rfl,by grind⟩
  .rw[if_neg h1]
   by_cases h2:gr w c<b
   .rw[if_pos h2]
    constructor
    .rintro⟨x,hx,h⟩
     cases hx
     exact .inr (V52.1 h)
    .rintro (⟨x,hx,h⟩ | h)
     .cases hx
      exact⟨_,rfl,by grind⟩
     .exact⟨_,rfl,V52.2 h⟩
   .rw[if_neg h2]
    constructor
    .rintro⟨x,hx,h⟩
     exact .inl ⟨x,hx,h⟩
    .rintro (⟨x,hx,h⟩ | h)
     .exact⟨x,hx,h⟩
     .have:=V52.2 h
      exact⟨b,rfl,by grind⟩
theorem X69 {N:Nat} {f:Nat->Nat->Rat} {left:Nat} {W:Rat}:∀ i,(∃ b,E13 N f left i=some b/\b<=W)<->∃ v,v<i/\left.testBit v=true/\V10 N f (M2 left (2^v))<=W/\f v left<=W
 | 0=>by simp[E13]
 | i+1=>by
  have ih:=@X69 N f left W i
  rw[Z27]
  by_cases hb:left.testBit i=true
  .rw[if_pos hb,M90,ih]
   constructor
   .rintro (⟨v,h1,h2⟩ | h)
    .exact⟨v,by omega,h2⟩
    .exact⟨i,by omega,hb,h⟩
   .rintro⟨v,h1,h2,h3⟩
    by_cases e:v=i
    .subst e;exact .inr h3
    .exact .inl ⟨v,by omega,h2,h3⟩
  .rw[if_neg hb,ih]
   constructor
   .rintro⟨v,h1,h2⟩
    exact⟨v,by omega,h2⟩
   .rintro⟨v,h1,h2,h3⟩
    refine⟨v,?_,h2,h3⟩
    by_cases e:v=i
    .subst e;exact absurd h2 hb
    .omega
theorem Z56 {N:Nat} {f:Nat->Nat->Rat} {left:Nat} (hl:left<2^N) {W:Rat} (hW:0<=W):V10 N f left<=W<->left=0\/∃ v,left.testBit v=true/\V10 N f (M2 left (2^v))<=W/\f v left<=W:=by
 rw[E29]
 by_cases h0:left=0
 .rw[if_pos h0];simp[h0,hW]
 .rw[if_neg h0]
  obtain⟨u,hu⟩:=W13 h0
  obtain⟨b,hb⟩:=Z40 (N:=N) (f:=f) (left:=left) (i:=N) ⟨u,X11 hl hu,hu⟩
  have:=@X69 N f left W N
  rw[hb] at this ⊢
  simp only[h0,false_or,Option.getD_some]
  constructor
  .intro h
   obtain⟨v,h1,h2⟩:=this.1 ⟨b,rfl,h⟩
   exact⟨v,h2⟩
  .rintro⟨v,h2⟩
   obtain⟨x,hx,h⟩:=this.2 ⟨v,X11 hl h2.1,h2⟩
   cases hx
   exact h
end Go.Clo
namespace Go.Proofs.YtpiobdofbhkmjaaDoor
open Go.Clo
theorem K47 {nb:List Nat} {gone v:Nat} (P:Nat->Prop) (hP:∀ u w,P u->(u=v\/gone.testBit u=true)->(nb.getD u 0).testBit w=true->P w):∀ (f r b:Nat),(∀ w,r.testBit w=true->P w)->b<64->(∀ (u x:Nat),nb[u]? = some x->x<64) ->
  (∀ w,b.testBit w=true->P w)->∀ w,(K12 nb gone v f r b).testBit w=true->P w
 | 0,r,b,hr,_,_,_=>hr
 | f+1,r,b,hr,h64,hnb,hb=>by
  intro w hw
  have hw':(if b=0 then r else if tz b=v\/gone.testBit (tz b)=true then K12 nb gone v f (r ||| 2^tz b) (M2 b (2^tz b) ||| M2 (nb.getD (tz b) 0) (r ||| 2^tz b)) else K12 nb gone v f (r ||| 2^tz b) (M2 b (2^tz b)):Nat).testBit w=true:=hw
  by_cases h0:b=0
  .rw[if_pos h0] at hw';exact hr w hw'
  rw[if_neg h0] at hw'
  have htb:=M35 h64 (by omega)
  have hpt:=hb _ htb
  have hr2:∀ w,(r ||| 2^tz b).testBit w=true->P w:=fun w hw=>by
   rw[Nat.testBit_or,Bool.or_eq_true,Nat.testBit_two_pow] at hw
   rcases hw with h | h
   .exact hr w h
   .have:tz b=w:=by simpa using h
    rw[<- this];exact hpt
  have hb2:∀ w,(M2 b (2^tz b)).testBit w=true->P w:=fun w hw=>by
   rw[N3,Bool.and_eq_true] at hw
   exact hb w hw.1
  have hx64:nb.getD (tz b) 0<64:=by
   rw[List.getD_eq_getElem?_getD]
   cases hg:nb[tz b]? with
   | none=>show 0<64;omega
   | some x=>exact hnb _ _ hg
  have nd64:∀ {a b:Nat},a<64->M2 a b<64:=fun h=>D7 (n:=6) h
  split at hw'
  .rename_i hc
   refine K47 P hP f _ _ hr2 (Nat.or_lt_two_pow (n:=6) (nd64 h64) (nd64 hx64)) hnb (fun w hw => ?_) w hw'
   rw[Nat.testBit_or,Bool.or_eq_true] at hw
   rcases hw with h | h
   .exact hb2 w h
   .rw[N3,Bool.and_eq_true] at h
    exact hP _ w hpt hc h.1
  .exact K47 P hP f _ _ hr2 (nd64 h64) hnb hb2 w hw'
theorem W34 {nb:List Nat} {gone v N:Nat} (hN:N<=6) (hnb:∀ (u x:Nat),nb[u]? = some x->x<2^N):∀ (f r b:Nat),f+(Y4 N r).length=N->r<2^N->b<2^N->(∀ w,b.testBit w=true->r.testBit w=false) ->
  (∀ u w,r.testBit u=true->(u=v\/gone.testBit u=true)->(nb.getD u 0).testBit w=true->r.testBit w=true\/b.testBit w=true) ->
  ∀ u w,(K12 nb gone v f r b).testBit u=true->(u=v\/gone.testBit u=true)->(nb.getD u 0).testBit w=true->(K12 nb gone v f r b).testBit w=true
 | 0,r,b,hf,hr,hb,hd,hc=>by
  have h0:b=0:=M22 hb hd (by omega)
  subst h0
  intro u w hu hg hw
  rcases hc u w hu hg hw with h | h
  .exact h
  .simp at h
 | f+1,r,b,hf,hr,hb,hd,hc=>by
  intro u w hu hg hw
  have hp64:2^N<=64:=Nat.pow_le_pow_right (n:=2) (by omega) hN
  by_cases h0:b=0
  .have e:K12 nb gone v (f+1) r b=r:=if_pos h0
   rw[e] at hu ⊢
   rcases hc u w hu hg hw with h | h
   .exact h
   .rw[h0] at h;simp at h
  have htb:=M35 (x:=b) (by omega) (by omega)
  have hrt:=hd _ htb
  have htN:=J50 (N:=N) (x:=b) (by omega) (by omega) hb
  have hlen:=X44 htN hrt
  have hx:nb.getD (tz b) 0<2^N:=by
   rw[List.getD_eq_getElem?_getD]
   cases hg:nb[tz b]? with
   | none=>exact Nat.two_pow_pos _
   | some x=>exact hnb _ _ hg
  have hd2:∀ w,(M2 b (2^tz b)).testBit w=true->(r ||| 2^tz b).testBit w=false:=fun w hw=>by
   rw[N3,Nat.testBit_two_pow] at hw
   rw[Nat.testBit_or,Nat.testBit_two_pow]
   simp at hw
   rw[hd w hw.1];simp[hw.2]
  have hcl:∀ x y,(r ||| 2^tz b).testBit x=true->x≠tz b->(x=v\/gone.testBit x=true)->(nb.getD x 0).testBit y=true->(r ||| 2^tz b).testBit y=true\/(M2 b (2^tz b)).testBit y=true:=fun x y hx hne hgx hy=>by
   rw[Nat.testBit_or,Bool.or_eq_true,Nat.testBit_two_pow] at hx
   have hx2:r.testBit x=true:=by
    rcases hx with h | h
    .exact h
    .exact absurd (by simpa using h) (Ne.symm hne)
   by_cases e:y=tz b
   .left;rw[Nat.testBit_or,Nat.testBit_two_pow];simp[e]
   .rcases hc x y hx2 hgx hy with h | h
    .left;rw[Nat.testBit_or,h];rfl
    .right
     rw[N3,h,Nat.testBit_two_pow];simp[Ne.symm e]
  by_cases hcond:tz b=v\/gone.testBit (tz b)=true
  .have e:K12 nb gone v (f+1) r b=K12 nb gone v f (r ||| 2^tz b) (M2 b (2^tz b) ||| M2 (nb.getD (tz b) 0) (r ||| 2^tz b)):=by
    show (if b=0 then r else _:Nat)=_
    rw[if_neg h0,if_pos hcond]
   rw[e] at hu ⊢
   refine W34 hN hnb f _ _ (by omega) (N17 hr (V11 htN)) (N17 (D7 hb) (D7 hx)) (fun x hx => ?_) (fun x y hx hgx hy => ?_) u w hu hg hw
   .rw[Nat.testBit_or,Bool.or_eq_true] at hx
    rcases hx with h | h
    .exact hd2 x h
    .rw[N3,Bool.and_eq_true] at h
     simpa using h.2
   .by_cases ex:x=tz b
    .subst ex
     by_cases hy2:(r ||| 2^tz b).testBit y=true
     .exact .inl hy2
     .right
      have hy3:(r ||| 2^tz b).testBit y=false:=by simpa using hy2
      rw[Nat.testBit_or,N3 (nb.getD (tz b) 0),hy,hy3];simp
    .rcases hcl x y hx ex hgx hy with h | h
     .exact .inl h
     .right;rw[Nat.testBit_or,h];rfl
  .have e:K12 nb gone v (f+1) r b=K12 nb gone v f (r ||| 2^tz b) (M2 b (2^tz b)):=by
    show (if b=0 then r else _:Nat)=_
    rw[if_neg h0,if_neg hcond]
   rw[e] at hu ⊢
   refine W34 hN hnb f _ _ (by omega) (N17 hr (V11 htN)) (D7 hb) hd2 (fun x y hx hgx hy => ?_) u w hu hg hw
   have ex:x≠tz b:=fun e=>hcond (e ▸ hgx)
   exact hcl x y hx ex hgx hy
theorem G85 {es:List Nat} {N v comp left:Nat} (hN:N<=6) (hsm:∀ e ∈ es,e<2^N) (hv:v<N) (hvg:(M2 comp left).testBit v=false):∀ w,(Z31 (E4 es N) N v comp left).testBit w=true<->RB es (fun x=>(M2 comp left).testBit x=true) v w:=by
 intro w
 have hp64:2^N<=64:=Nat.pow_le_pow_right (n:=2) (by omega) hN
 have hnb:=R29 (es:=es) (N:=N)
 have hget:∀ u w,((E4 es N).getD u 0).testBit w=true<->R18 es u w:=fun u w=>by
  rw[Z17 (by omega)]
  exact⟨fun h=>h.2.2,fun h=>⟨(X53 hsm h).1,(X53 hsm h).2,h⟩⟩
 generalize hg:M2 comp left=gone at *
 have hcl:=W34 (gone:=gone) (v:=v) hN hnb N 0 (2^v) (by simp[Y4]) (Nat.two_pow_pos _) (V11 hv) (by simp) (by simp)
 have hself:(K12 (E4 es N) gone v N 0 (2^v)).testBit v=true:=by
  obtain⟨n,rfl⟩:∃ n,N=n+1:=⟨N-1,by omega⟩
  show (if 2^v=0 then 0 else _:Nat).testBit v=true
  rw[if_neg (by have:=Nat.two_pow_pos v;omega),N83 v (by omega),if_pos (.inl rfl)]
  refine D39 _ _ v v n _ _ ?_
  rw[Nat.zero_or,Nat.testBit_two_pow];simp
 have hin:∀ u w,(K12 (E4 es N) gone v N 0 (2^v)).testBit u=true->(u=v\/gone.testBit u=true)->E9 (R18 es) (fun x=>gone.testBit x=true) u w->(K12 (E4 es N) gone v N 0 (2^v)).testBit w=true:=by
  intro u w hu hgu hr
  induction hr with
  | one h=>exact hcl _ _ hu hgu ((hget _ _).2 h)
  | more h1 h2 _ ih=>exact ih (hcl _ _ hu hgu ((hget _ _).2 h1)) (.inr h2)
 have hall:=K47 (nb:=E4 es N) (gone:=gone) (v:=v) (fun w=>w=v\/E9 (R18 es) (fun x=>gone.testBit x=true) v w) (fun u w hu hgu hw=>by
  right
  have ha:=(hget u w).1 hw
  rcases hu with rfl | hu
  .exact .one ha
  .rcases hgu with rfl | hgu
   .exact .one ha
   .exact hu.trans hgu (.one ha)) N 0 (2^v) (by simp) (by have:=V11 hv;omega) (fun u x h=>by have:=hnb u x h;omega) (fun w hw=>by
  left
  rw[Nat.testBit_two_pow] at hw
  have:v=w:=by simpa using hw
  exact this.symm)
 unfold Z31 RB
 rw[hg,N3]
 simp only[Bool.and_eq_true,Bool.not_eq_true',Bool.not_eq_true]
 constructor
 .rintro⟨h1,h2⟩
  rcases hall w h1 with h | h
  .exact .inl h
  .exact .inr ⟨h2,h⟩
 .rintro (rfl | ⟨h1,h2⟩)
  .exact⟨hself,hvg⟩
  .exact⟨hin v w hself (.inl rfl) h2,h1⟩
end Go.Proofs.YtpiobdofbhkmjaaDoor

namespace Go.Proofs.YtpiobdofbhkmjaaDoor
open Go.Clo
variable {c v w:Nat} {p:List Nat}
def M9 (c:Nat) (p:List Nat):Nat:=p.foldl (fun l v=>M2 l (2^v)) c
theorem R28:∀ {p:List Nat},(M9 c p).testBit w=true<->c.testBit w=true/\w ∉ p:=by
 intro p
 unfold M9
 induction p generalizing c with
 | nil=>simp
 | cons v p ih=>
  rw[List.foldl_cons,ih,N3,Nat.testBit_two_pow]
  simp only[Bool.and_eq_true,Bool.not_eq_true',decide_eq_false_iff_not,List.mem_cons,not_or]
  constructor
  .rintro⟨⟨h1,h2⟩,h3⟩;exact⟨h1,Ne.symm h2,h3⟩
  .rintro⟨h1,h2,h3⟩;exact⟨⟨h1,Ne.symm h2⟩,h3⟩
theorem J15 (c:Nat) (p:List Nat) (v:Nat):M9 c (p++[v])=M2 (M9 c p) (2^v):=by unfold M9;rw[List.foldl_append];rfl
theorem E24:∀ w,(M9 c p).testBit w=true->c.testBit w=true:=fun w h=>(R28.1 h).1
theorem Z51 {N:Nat} (hc:c<2^N):∀ (p:List Nat),M9 c p<2^N:=by
 intro p
 unfold M9
 induction p generalizing c with
 | nil=>exact hc
 | cons v p ih=>exact ih (D7 hc)
theorem M87 {l:Nat} (h:l.testBit v=false):M2 l (2^v)=l:=by
 apply Nat.eq_of_testBit_eq
 intro w
 rw[N3,Nat.testBit_two_pow]
 by_cases e:v=w
 .subst e;rw[h];rfl
 .simp[e]
section
variable {es nb:List Nat} {N:Nat} {cs:List Nat} {W:Rat}
structure R25 (N:Nat) (cs:List Nat):Prop where
 lt:∀ c ∈ cs,c<2^N
 dis:cs.Pairwise fun c d=>∀ w,c.testBit w=true->d.testBit w=false
def OKp (es nb:List Nat) (N:Nat) (cs:List Nat) (W:Rat) (p:List Nat) (v:Nat):Prop:=∃ c ∈ cs,(M9 c p).testBit v=true/\C6 es nb N c v (M9 c p)<=W/\V10 N (C6 es nb N c) (M2 (M9 c p) (2^v))<=W
def R24 (es nb:List Nat) (N:Nat) (cs:List Nat) (W:Rat) (p:List Nat):Prop:=∀ c ∈ cs,V10 N (C6 es nb N c) (M9 c p)<=W
def Cst (es nb:List Nat) (N:Nat) (cs:List Nat) (W:Rat) (p:List Nat) (v:Nat):Prop:=∃ c ∈ cs,(M9 c p).testBit v=true/\C6 es nb N c v (M9 c p)<=W
def CW (es nb:List Nat) (N:Nat) (cs:List Nat) (W:Rat):List Nat->List Nat->Prop
 | p,[]=>∀ c ∈ cs,M9 c p=0
 | p,v :: q=>Cst es nb N cs W p v/\CW es nb N cs W (p++[v]) q
theorem R25.one (h:R25 N cs) {c d w:Nat} (hc:c ∈ cs) (hd:d ∈ cs) (h1:c.testBit w=true) (h2:d.testBit w=true):c=d:=by
 obtain⟨i,hi,rfl⟩:=List.getElem_of_mem hc
 obtain⟨j,hj,rfl⟩:=List.getElem_of_mem hd
 rcases Nat.lt_trichotomy i j with g | g | g
 .have:=List.pairwise_iff_getElem.1 h.dis i j hi hj g w h1
  rw[h2] at this;cases this
 .subst g;rfl
 .have:=List.pairwise_iff_getElem.1 h.dis j i hj hi g w h2
  rw[h1] at this;cases this
theorem R25.other (h:R25 N cs) {d:Nat} (hc:c ∈ cs) (hd:d ∈ cs) (hne:d≠c) (h1:(M9 c p).testBit w=true):M9 d (p++[w])=M9 d p:=by
 rw[J15]
 refine M87 ?_
 cases hb:(M9 d p).testBit w with
 | false=>rfl
 | true=>exact absurd (h.one hd hc (E24 _ hb) (E24 _ h1)) hne
theorem Q71 (h:R25 N cs) (hW:0<=W):∀ {q p:List Nat},CW es nb N cs W p q->R24 es nb N cs W p
 | [],p,hq=>fun c hc=>by rw[hq c hc,E29,if_pos rfl];exact hW
 | v :: q,p,hq=>by
  obtain⟨⟨c,hc,h1,h2⟩,h3⟩:=hq
  have ih:=Q71 h hW h3
  intro d hd
  by_cases e:d=c
  .subst e
   refine (Z56 (Z51 (h.lt d hd) p) hW).2 (.inr ⟨v,h1,?_,h2⟩)
   rw[<- J15];exact ih d hd
  .rw[<- h.other hc hd e h1];exact ih d hd
theorem K58 (h:R25 N cs) (hp:R24 es nb N cs W p) (hv:OKp es nb N cs W p v):R24 es nb N cs W (p++[v]):=by
 obtain⟨c,hc,h1,h2,h3⟩:=hv
 intro d hd
 by_cases e:d=c
 .subst e;rw[J15];exact h3
 .rw[h.other hc hd e h1];exact hp d hd
theorem C94 (hc:Cst es nb N cs W p v) (hf:R24 es nb N cs W (p++[v])):OKp es nb N cs W p v:=by
 obtain⟨c,h1,h2,h3⟩:=hc
 exact⟨c,h1,h2,h3,by rw[<- J15];exact hf c h1⟩
theorem U81 (h:R25 N cs) (hW:0<=W) (hp:R24 es nb N cs W p) (hc:c ∈ cs) (h0:M9 c p≠0):∃ v,OKp es nb N cs W p v:=by
 rcases (Z56 (Z51 (h.lt c hc) p) hW).1 (hp c hc) with h1 | ⟨v,h1,h2,h3⟩
 .exact absurd h1 h0
 .exact⟨v,c,hc,h1,h3,h2⟩
def Q10:Nat->List Nat->List Nat->List (List Nat)
 | 0,l,_=>[l]
 | n+1,l,rest=>rest.flatMap fun v=>Q10 n (l++[v]) (rest.erase v)
noncomputable def gre (es nb:List Nat) (N:Nat) (cs:List Nat) (W:Rat):Nat->List Nat->List Nat->List Nat
 | 0,l,_=>l
 | n+1,l,rest=>open Classical in match rest.find? fun v=>decide (OKp es nb N cs W l v) with
  | some v=>gre es nb N cs W n (l++[v]) (rest.erase v)
  | none=>l
theorem C42 {α β:Type} {p:β->Bool} {g:α->List β}:∀ {l:List α},(l.flatMap g).find? p=l.findSome? fun a=>(g a).find? p
 | []=>rfl
 | a :: l=>by
  rw[List.flatMap_cons,List.find?_append,C42,List.findSome?_cons]
  cases (g a).find? p<;>rfl
theorem R36 (h:R25 N cs) (hW:0<=W) {good:List Nat->Bool} {goodp:List Nat->Prop} (hnil:∀ l,good l=true<->goodp l/\∀ c ∈ cs,M9 c l=0) (hstep:∀ l v,goodp (l++[v])<->goodp l/\Cst es nb N cs W l v):
  ∀ (n:Nat) (l rest:List Nat),rest.length=n->(∀ v,v ∈ rest<->∃ c ∈ cs,(M9 c l).testBit v=true)->rest.Nodup ->
  (goodp l/\R24 es nb N cs W l->(Q10 n l rest).find? good=some (gre es nb N cs W n l rest)/\(gre es nb N cs W n l rest).length=l.length+n)/\(¬ (goodp l/\R24 es nb N cs W l)->(Q10 n l rest).find? good=none)
 | 0,l,rest,hn,hr,hnd=>by
  have hz:∀ c ∈ cs,M9 c l=0:=fun c hc=>by
   refine Classical.byContradiction fun h0 => ?_
   obtain⟨u,hu⟩:=W13 h0
   have:=(hr u).2 ⟨c,hc,hu⟩
   rw[List.length_eq_zero_iff.1 hn] at this;simp at this
  have hF:R24 es nb N cs W l:=fun c hc=>by rw[hz c hc,E29,if_pos rfl];exact hW
  constructor
  .rintro⟨h1,_⟩
   have hg:=(hnil l).2 ⟨h1,hz⟩
   simp[Q10,gre,hg]
  .intro hno
   have hg:good l=false:=by
    cases hgl:good l with
    | false=>rfl
    | true=>exact absurd ⟨((hnil l).1 hgl).1,hF⟩ hno
   simp[Q10,hg]
 | n+1,l,rest,hn,hr,hnd=>by
  have hsub:∀ v ∈ rest,(∀ u,u ∈ rest.erase v<->∃ c ∈ cs,(M9 c (l++[v])).testBit u=true)/\(rest.erase v).Nodup/\(rest.erase v).length=n:=fun v hv=>by
   refine⟨fun u => ?_,hnd.erase v,by rw[List.length_erase_of_mem hv];omega⟩
   rw[hnd.mem_erase_iff,hr u]
   constructor
   .rintro⟨h1,c,h2,h3⟩
    refine⟨c,h2,?_⟩
    rw[J15,N3,h3,Nat.testBit_two_pow];simp[Ne.symm h1]
   .rintro⟨c,h2,h3⟩
    rw[J15,N3,Nat.testBit_two_pow,Bool.and_eq_true] at h3
    refine⟨fun e => ?_,c,h2,h3.1⟩
    rw[e] at h3;simp at h3
  have hiff:∀ v,goodp l/\R24 es nb N cs W l->(goodp (l++[v])/\R24 es nb N cs W (l++[v])<->OKp es nb N cs W l v):=fun v hl=>by
   constructor
   .rintro⟨h1,h2⟩
    exact C94 ((hstep l v).1 h1).2 h2
   .intro hok
    refine⟨(hstep l v).2 ⟨hl.1,?_⟩,K58 h hl.2 hok⟩
    obtain⟨c,a1,a2,a3,_⟩:=hok
    exact⟨c,a1,a2,a3⟩
  constructor
  .intro hl
   have hex:∃ v ∈ rest,OKp es nb N cs W l v:=by
    obtain⟨r0,hr0⟩:∃ r0,r0 ∈ rest:=by
     cases rest with
     | nil=>simp at hn
     | cons a r=>exact⟨a,by simp⟩
    obtain⟨c,hc,hb⟩:=(hr r0).1 hr0
    obtain⟨v,hv⟩:=U81 h hW hl.2 hc (fun e=>by rw[e] at hb;simp at hb)
    have hv':=hv
    obtain⟨d,hd,hdb,_⟩:=hv'
    exact⟨v,(hr v).2 ⟨d,hd,hdb⟩,hv⟩
   have key:∀ r:List Nat,(∀ v ∈ r,v ∈ rest)->(∃ v ∈ r,OKp es nb N cs W l v)->∃ v,(open Classical in r.find? fun v=>decide (OKp es nb N cs W l v))=some v/\v ∈ rest/\OKp es nb N cs W l v /\
     (r.findSome? fun v=>(Q10 n (l++[v]) (rest.erase v)).find? good)=some (gre es nb N cs W n (l++[v]) (rest.erase v)):=by
    intro r
    induction r with
    | nil=>rintro _ ⟨v,hv,_⟩;simp at hv
    | cons a r ih=>
     intro hsubr hexr
     have ha:=hsubr a (by simp)
     obtain⟨s1,s2,s3⟩:=hsub a ha
     obtain⟨i1,i2⟩:=R36 h hW hnil hstep n (l++[a]) (rest.erase a) s3 s1 s2
     by_cases hok:OKp es nb N cs W l a
     .refine⟨a,by simp[hok],ha,hok,?_⟩
      rw[List.findSome?_cons,(i1 ((hiff a hl).2 hok)).1]
     .obtain⟨v,hv,hvo⟩:=hexr
      have hvr:v ∈ r:=by
       rcases List.mem_cons.1 hv with rfl | hv
       .exact absurd hvo hok
       .exact hv
      obtain⟨x,x1,x2,x3,x4⟩:=ih (fun v hv=>hsubr v (by simp[hv])) ⟨v,hvr,hvo⟩
      refine⟨x,by simp[hok];simpa using x1,x2,x3,?_⟩
      rw[List.findSome?_cons,i2 fun hh=>hok ((hiff a hl).1 hh)]
      exact x4
   obtain⟨v,x1,x2,x3,x4⟩:=key rest (fun v hv=>hv) hex
   obtain⟨s1,s2,s3⟩:=hsub v x2
   obtain⟨i1,_⟩:=R36 h hW hnil hstep n (l++[v]) (rest.erase v) s3 s1 s2
   have eg:gre es nb N cs W (n+1) l rest=gre es nb N cs W n (l++[v]) (rest.erase v):=by
    show (match (open Classical in rest.find? fun v=>decide (OKp es nb N cs W l v)) with | some v=>gre es nb N cs W n (l++[v]) (rest.erase v) | none=>l)=_
    rw[x1]
   rw[eg]
   refine⟨?_,?_⟩
   .show (rest.flatMap fun v=>Q10 n (l++[v]) (rest.erase v)).find? good=_
    rw[C42];exact x4
   .have:=(i1 ((hiff v hl).2 x3)).2
    rw[this];simp;omega
  .intro hno
   show (rest.flatMap fun v=>Q10 n (l++[v]) (rest.erase v)).find? good=none
   rw[C42,List.findSome?_eq_none_iff]
   intro v hv
   obtain⟨s1,s2,s3⟩:=hsub v hv
   refine (R36 h hW hnil hstep n (l++[v]) (rest.erase v) s3 s1 s2).2 fun⟨h1,h2⟩=>hno ⟨((hstep l v).1 h1).1,?_⟩
   obtain⟨c,hc,a1,a2⟩:=((hstep l v).1 h1).2
   intro d hd
   by_cases e:d=c
   .subst e
    refine (Z56 (Z51 (h.lt d hd) l) hW).2 (.inr ⟨v,a1,?_,a2⟩)
    rw[<- J15];exact h2 d hd
   .rw[<- h.other hc hd e a1];exact h2 d hd
end
end Go.Proofs.YtpiobdofbhkmjaaDoor
