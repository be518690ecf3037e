/-
  Plain: every tableau that is reached has numbers of bounded size (no program in sight).
  The tableau in memory.
  Contract: simplex.pivot.
-/
import Derived.Test.YtpiobdofbhkmjaaDoorL29
set_option linter.unusedSimpArgs false
set_option linter.unusedVariables false
set_option linter.unusedSectionVars false
namespace Go.Lp
variable {A B M N:Nat} {T T':Tab} {x y:Rat}
def Sz (M:Nat) (x:Rat):Prop:=x.num.natAbs<=M/\x.den<=M
theorem Sz.mono {M':Nat} (h:Sz M x) (e:M<=M'):Sz M' x:=⟨Nat.le_trans h.1 e,Nat.le_trans h.2 e⟩
theorem Y82 (a:Int) (b:Nat) (hb:b≠0):(mkRat a b).num.natAbs<=a.natAbs/\(mkRat a b).den<=b:=by
 rw[show mkRat a b=Rat.normalize a b hb from by unfold mkRat;rw[dif_neg hb]]
 rw[Rat.normalize_eq]
 refine⟨?_,Nat.div_le_self _ _⟩
 show (a/_).natAbs<=_
 exact Int.natAbs_ediv_le_natAbs _ _
theorem Sz.mul (hx:Sz A x) (hy:Sz B y):Sz (A*B) (x*y):=by
 have h:=Y82 (x.num*y.num) (x.den*y.den) (Nat.mul_ne_zero x.den_nz y.den_nz)
 have e:x*y=mkRat (x.num*y.num) (x.den*y.den):=Rat.mul_def' x y
 rw[e]
 refine⟨Nat.le_trans h.1 ?_,Nat.le_trans h.2 (Nat.mul_le_mul hx.2 hy.2)⟩
 rw[Int.natAbs_mul];exact Nat.mul_le_mul hx.1 hy.1
theorem Sz.inv (hA:1<=A) (hx:Sz A x):Sz A x⁻¹:=by
 by_cases h0:x=0
 .subst h0
  rw[Rat.inv_zero];exact⟨by simp,by simpa using hA⟩
 .refine⟨?_,?_⟩
  .rw[Rat.num_inv,Int.natAbs_mul,Int.natAbs_sign,if_neg (by simpa using h0)]
   simpa using hx.2
  .rw[Rat.den_inv,if_neg (fun e=>h0 (Rat.num_eq_zero.1 e))];exact hx.1
theorem Sz.div (hB:1<=B) (hx:Sz A x) (hy:Sz B y):Sz (A*B) (x/y):=by
 rw[Rat.div_def];exact hx.mul (hy.inv hB)
theorem Sz.sub (hx:Sz A x) (hy:Sz B y):Sz (A*B+B*A) (x-y):=by
 have h:=Y82 (x.num*y.den-y.num*x.den) (x.den*y.den) (Nat.mul_ne_zero x.den_nz y.den_nz)
 have e:x-y=mkRat (x.num*y.den-y.num*x.den) (x.den*y.den):=Rat.sub_def' x y
 rw[e]
 refine⟨Nat.le_trans h.1 ?_,Nat.le_trans h.2 (Nat.le_trans (Nat.mul_le_mul hx.2 hy.2) (Nat.le_add_right _ _))⟩
 have h1:(x.num*y.den-y.num*x.den:Int).natAbs<=(x.num*y.den:Int).natAbs+(y.num*x.den:Int).natAbs:=Int.natAbs_sub_le _ _
 rw[Int.natAbs_mul,Int.natAbs_mul] at h1
 refine Nat.le_trans h1 (Nat.add_le_add (Nat.mul_le_mul hx.1 hy.2) (Nat.mul_le_mul hy.1 hx.2))
variable {m C R:Nat}
def TSz (m N M:Nat) (T:Tab):Prop:=(∀ i j,i<m->j<N->Sz M (T.a i j))/\∀ j,j<N->Sz M (T.g j)
theorem TSz.mono {N M M':Nat} {T:Tab} (h:TSz m N M T) (e:M<=M'):TSz m N M' T:=⟨fun i j hi hj=>(h.1 i j hi hj).mono e,fun j hj=>(h.2 j hj).mono e⟩
def X19 (M:Nat):Nat:=M*(M*(M*M))+M*(M*M)*M
def C38 (M:Nat):Nat->Nat
 | 0=>M
 | n+1=>X19 (C38 M n)
def expN:Nat->Nat
 | 0=>0
 | n+1=>4*expN n+1
theorem K90 (h:1<=M):M<=X19 M:=by
 unfold X19
 have h1:1<=M*(M*M):=Nat.mul_pos h (Nat.mul_pos h h)
 have h2:M*1<=M*(M*(M*M)):=Nat.mul_le_mul_left M h1
 omega
theorem TSz.pivot {N M r c:Nat} {T:Tab} (hM:1<=M) (h:TSz m N M T) (hr:r<m) (hc:c<N):TSz m N (X19 M) (pivot T r c):=by
 have hq:∀ j,j<N->Sz (M*M) (T.a r j/T.a r c):=fun j hj=>(h.1 r j hr hj).div hM (h.1 r c hr hc)
 refine⟨fun i j hi hj => ?_,fun j hj => ?_⟩
 .show Sz _ (if i=r then T.a r j/T.a r c else T.a i j-T.a i c*(T.a r j/T.a r c))
  split
  .refine (hq j hj).mono ?_
   unfold X19
   have h2:M*M*1<=M*M*(M*M):=Nat.mul_le_mul_left _ (Nat.mul_pos hM hM)
   have e1:M*M*(M*M)=M*(M*(M*M)):=by rw[Nat.mul_assoc]
   omega
  .exact (h.1 i j hi hj).sub ((h.1 i c hi hc).mul (hq j hj))
 .exact (h.2 j hj).sub ((h.2 c hc).mul (hq j hj))
structure Uni (m C:Nat) (T:Tab):Prop where
 lt:∀ i,i<m->T.B i<C
 unit:∀ i k,i<m->k<m->T.a i (T.B k)=if i=k then 1 else 0
 goal:∀ k,k<m->T.g (T.B k)=0
theorem Y10.uni (h:Y10 m C R T):Uni m C T:=⟨h.lt,h.unit,h.goal⟩
theorem Uni.inj (h:Uni m C T) {i k:Nat} (hi:i<m) (hk:k<m) (e:T.B i=T.B k):i=k:=by
 have h1:=h.unit i k hi hk
 have h2:=h.unit i i hi hi
 rw[e,h1] at h2
 by_cases g:i=k
 .exact g
 .simp[g] at h2
theorem Uni.pivot {T:Tab} (h:Uni m C T) {c r:Nat} (hc:c<C) (hr:r<m) (hne:T.a r c≠0):Uni m C (pivot T r c):=by
 have hdiv:T.a r c/T.a r c=1:=by grind
 have hz:∀ k,k<m->k≠r->T.a r (T.B k)/T.a r c=0:=fun k hk hkr=>by
  rw[h.unit r k hr hk,if_neg (by omega)];grind
 refine⟨fun i hi => ?_,fun i k hi hk => ?_,fun k hk => ?_⟩
 .show (if i=r then c else T.B i)<C
  split
  .exact hc
  .exact h.lt i hi
 .show (if i=r then T.a r (if k=r then c else T.B k)/T.a r c else T.a i (if k=r then c else T.B k)-T.a i c*(T.a r (if k=r then c else T.B k)/T.a r c))=_
  by_cases hkr:k=r
  .simp only[hkr,if_true,hdiv]
   split
   .rfl
   .grind
  .simp only[hkr,if_false,hz k hk hkr]
   split
   .rename_i e
    rw[if_neg (by omega)]
   .rw[h.unit i k hi hk];grind
 .show T.g (if k=r then c else T.B k)-T.g c*(T.a r (if k=r then c else T.B k)/T.a r c)=0
  by_cases hkr:k=r
  .simp only[hkr,if_true,hdiv];grind
  .simp only[hkr,if_false,hz k hk hkr,h.goal k hk];grind
structure Eqv (m:Nat) (T T':Tab):Prop where
 to:∀ r,r<m->K6 m T (T'.a r)
 back:∀ r,r<m->K6 m T' (T.a r)
 goal:K6 m T fun j=>T'.g j-T.g j
theorem Eqv.refl (T:Tab):Eqv m T T:=⟨fun r hr=>K6.row hr,fun r hr=>K6.row hr,K6.zero.of fun j=>by grind⟩
theorem Eqv.symm (h:Eqv m T T'):Eqv m T' T:=⟨h.back,h.to,((K6.trans h.back h.goal).smul (-1)).of fun j=>by grind⟩
theorem Eqv.trans {T T' T2:Tab} (h:Eqv m T T') (h':Eqv m T' T2):Eqv m T T2:=
 ⟨fun r hr=>K6.trans h.to (h'.to r hr),fun r hr=>K6.trans h'.back (h.back r hr),(h.goal.add (K6.trans h.to h'.goal)).of fun j=>by grind⟩
theorem Eqv.pivot {T:Tab} {r c:Nat} (hr:r<m) (hne:T.a r c≠0):Eqv m T (pivot T r c):=by
 refine⟨fun i hi=>R53 hr hi,fun i hi => ?_,B59 hr⟩
 have h0:K6 m (Lp.pivot T r c) ((Lp.pivot T r c).a r):=K6.row hr
 by_cases e:i=r
 .subst e
  refine (h0.smul (T.a i c)).of fun j => ?_
  show T.a i j=T.a i c*(if i=i then T.a i j/T.a i c else _)
  rw[if_pos rfl];grind
 .refine ((K6.row (T:=Lp.pivot T r c) hi).add (h0.smul (T.a i c))).of fun j => ?_
  show T.a i j=(if i=r then _ else T.a i j-T.a i c*(T.a r j/T.a r c))+T.a i c*(if r=r then T.a r j/T.a r c else _)
  rw[if_neg e,if_pos rfl];grind
theorem J38 (h:Uni m C T) {f:Nat->Rat} (hf:K6 m T f):∀ j,f j=N5 m fun r=>f (T.B r)*T.a r j:=by
 obtain⟨c,hc⟩:=hf
 have hk:∀ k,k<m->f (T.B k)=c k:=fun k hk=>by
  rw[hc (T.B k),U15 hk fun r hr hn=>by rw[h.unit r k hr hk,if_neg hn];simp,h.unit k k hk hk,if_pos rfl];grind
 intro j
 rw[hc j]
 exact Y9 fun r hr=>by rw[hk r hr]
theorem K96 (hCN:C<=N) (hT':Uni m C T'):∀ (n:Nat),n<=m->∀ {T:Tab} {M:Nat},1<=M->Uni m C T->Eqv m T T'->TSz m N M T ->
  ∃ (T1:Tab) (M1:Nat),M1=C38 M n/\1<=M1/\Uni m C T1/\Eqv m T1 T'/\TSz m N M1 T1/\∀ r,r<n->∃ i,i<m/\T1.B i=T'.B r:=by
 intro n
 induction n with
 | zero=>exact fun _ T M hM hu he hs=>⟨T,M,rfl,hM,hu,he,hs,fun r hr=>by omega⟩
 | succ n ih=>
  intro hn T M hM hu he hs
  obtain⟨T1,M1,e1,hM1,hu1,he1,hs1,hb1⟩:=ih (by omega) hM hu he hs
  have eg:X19 M1=C38 M (n+1):=by rw[e1];rfl
  have hle:=K90 hM1
  by_cases hin:∃ i,i<m/\T1.B i=T'.B n
  .refine⟨T1,X19 M1,eg,by omega,hu1,he1,hs1.mono hle,fun r hr => ?_⟩
   by_cases e:r=n
   .rw[e];exact hin
   .exact hb1 r (by omega)
  ·
   have hex:∃ i,i<m/\(∀ s,s<m->T1.B i≠T'.B s)/\T1.a i (T'.B n)≠0:=by
    refine Classical.byContradiction fun hno => ?_
    have h1:=J38 hu1 (he1.to n (by omega)) (T'.B n)
    rw[hT'.unit n n (by omega) (by omega),if_pos rfl] at h1
    rw[Z13 fun i hi => ?_] at h1
    .grind
    .by_cases hw:∃ s,s<m/\T1.B i=T'.B s
     .obtain⟨s,hs,e⟩:=hw
      rw[e,hT'.unit n s (by omega) hs]
      by_cases e2:n=s
      .subst e2;exact absurd ⟨i,hi,e⟩ hin
      .rw[if_neg e2];grind
     .by_cases h2:T1.a i (T'.B n)=0
      .rw[h2];grind
      .exact absurd ⟨i,hi,fun s hs e=>hw ⟨s,hs,e⟩,h2⟩ hno
   obtain⟨i,hi,hfree,hne⟩:=hex
   have hc:=hT'.lt n (by omega)
   refine⟨pivot T1 i (T'.B n),X19 M1,eg,by omega,hu1.pivot hc hi hne,(Eqv.pivot hi hne).symm.trans he1,hs1.pivot hM1 hi (by omega),fun r hr => ?_⟩
   by_cases e:r=n
   .exact⟨i,hi,by rw[e];show (if i=i then _ else _)=_;rw[if_pos rfl]⟩
   .obtain⟨k,hk,e3⟩:=hb1 r (by omega)
    refine⟨k,hk,?_⟩
    show (if k=i then _ else T1.B k)=_
    rw[if_neg fun e4=>hfree r (by omega) (by rw[<- e4];exact e3)]
    exact e3
theorem X83 (hCN:C<=N) (hM:1<=M) (hT:Uni m C T) (hT':Uni m C T') (he:Eqv m T T') (hs:TSz m N M T):TSz m N (C38 M m) T':=by
 obtain⟨T1,M1,e1,hM1,hu1,he1,hs1,hb1⟩:=K96 hCN hT' m (Nat.le_refl m) hM hT he hs
 rw[<- e1]
 refine⟨fun r j hr hj => ?_,fun j hj => ?_⟩
 .obtain⟨i,hi,e⟩:=hb1 r hr
  have h1:=J38 hT' (he1.back i hi) j
  rw[U15 hr fun s hs hn => ?_,<- e,hu1.unit i i hi hi,if_pos rfl] at h1
  .have:=hs1.1 i j hi hj
   rwa [h1,Rat.one_mul] at this
  .obtain⟨k,hk,e2⟩:=hb1 s hs
   rw[<- e2,hu1.unit i k hi hk,if_neg,Rat.zero_mul]
   intro e3
   subst e3
   exact hn (hT'.inj hs hr (e2.symm.trans e))
 .have h1:=J38 hT' he1.symm.goal j
  rw[Z13 fun s hs => ?_] at h1
  .have:=hs1.2 j hj
   rwa [show T1.g j=T'.g j by grind] at this
  .obtain⟨k,hk,e2⟩:=hb1 s hs
   rw[hT'.goal s hs,<- e2,hu1.goal k hk];grind
theorem D87 (e:Nat):X19 (2^e)=2^(4*e+1):=by
 unfold X19
 rw[<- Nat.pow_add,<- Nat.pow_add,<- Nat.pow_add,<- Nat.pow_add,show e+(e+(e+e))=4*e by omega,show e+(e+e)+e=4*e by omega,Nat.pow_succ];omega
theorem U96 {m:Nat} (h:m<=8):C38 1 m<=2^expN 8:=by
 have hstep:∀ k,C38 1 k=2^expN k:=by
  intro k
  induction k with
  | zero=>rfl
  | succ k ih=>
   show X19 (C38 1 k)=2^(4*expN k+1)
   rw[ih,D87]
 rw[hstep]
 refine Nat.pow_le_pow_right (by omega) ?_
 match m,h with
 | 0,_=>decide
 | 1,_=>decide
 | 2,_=>decide
 | 3,_=>decide
 | 4,_=>decide
 | 5,_=>decide
 | 6,_=>decide
 | 7,_=>decide
 | 8,_=>decide
end Go.Lp

namespace Go.Clo
variable {B:Nat->Nat} {H:Y0} {b i m n nx:Nat} {c l:List Value}
theorem D0.both {lo:Nat} {H1:Y0} {n1:Nat} {H2:Y0} {n2:Nat} (a:D0 H lo H1 n1) (b:D0 H1 lo H2 n2):D0 H lo H2 n2:=⟨b.le,fun i hi=>(b.get i hi).trans (a.get i hi)⟩
theorem RR.num {v:Value} {x:Rat} (h:RR H nx v x):∃ c,v = .agg ⟨c⟩/\G9 c:=by
 obtain⟨A0,l0,c0,C0,m0,d0,rfl,_,_⟩:=h.form
 exact⟨_,rfl,_,_,_,_,_,_,_,rfl⟩
theorem Q3 (h:G9 c) (k:VP):N9 c 0 (some 3) k=k (.agg ⟨c⟩):=by
 have:=U6 (css:=[c]) (q:=0) (c:=c) (fun d hd=>by simp at hd;subst hd;exact h.three) rfl k
 simpa using this
theorem G9.one {c:List Value} (h:G9 c):Z0 c=true:=by obtain⟨s,A,l,q,C,l',q',rfl⟩:=h;rfl
theorem D23 (h:G9 c):∀ (q:Nat) (z:Int),c[q]? ≠ some (Value.int .u32 z):=by
 obtain⟨s,A,l,k,C,l',k',rfl⟩:=h
 exact G10 _ _ _ _ _ _ _
theorem NN.boxs {nx i n sl s':Nat} {v:Value} {row row':List Value} (h:NN H nx v n) (hg:X0 H i=some (.cells row sl)) (hr:∀ (q:Nat) (z:Int),row[q]? ≠ some (Value.int .u32 z)) (hs':s'=0\/s'=1):NN (hs H i (some (.cells row' s'))) nx v n:=by
 obtain⟨A,c,rfl,hD⟩:=h
 refine⟨A,c,rfl,?_,?_,hD.small,hD.le⟩
 .intro j x hx
  obtain⟨b,o,rw1,e1,e2,e3,e4⟩:=hD.sl j x hx
  by_cases hb:b=i
  .subst hb
   have e5:rw1=row:=by rw[V3,hg] at e3;exact (Option.some.inj e3).symm
   subst e5
   have:∃ z,x = .int .u32 z:=by
    simp only[N1,List.getElem?_map,Option.map_eq_some_iff] at hx
    obtain⟨d,_,rfl⟩:=hx
    exact⟨_,rfl⟩
   obtain⟨z,rfl⟩:=this
   exact absurd e4 (hr _ z)
  .exact⟨b,o,rw1,e1,e2,by rw[V3,M0 _ hb];exact e3,e4⟩
 .rcases hD.sk with e | ⟨b,o,rw1,e1,e2,e3⟩
  .exact .inl e
  .by_cases hb:b=i
   .subst hb
    exact .inr ⟨b,o,row',e1,e2,.inr ⟨s',hs',Q0 _ _ _⟩⟩
   .exact .inr ⟨b,o,rw1,e1,e2,by rw[M0 _ hb];exact e3⟩
theorem RR.boxs {H:Y0} {nx i sl s':Nat} {v:Value} {x:Rat} {row row':List Value} (h:RR H nx v x) (hg:X0 H i=some (.cells row sl)) (hr:∀ (q:Nat) (z:Int),row[q]? ≠ some (Value.int .u32 z)) (hs':s'=0\/s'=1):RR (hs H i (some (.cells row' s'))) nx v x:=
 let ⟨a,b,h1,h2,h3⟩:=h;⟨a,b,h1,NN.boxs h2 hg hr hs',NN.boxs h3 hg hr hs'⟩
theorem RO.first {X:Nat->Rat} (h:RO H nx b n X) (hn:0<n):∃ css:List (List Value),X0 H b=some (.cells css.flatten 0)/\∃ s,css.flatten[0]? = some (.bool s):=by
 obtain⟨css,hg,hb,hl,hx⟩:=h
 refine⟨css,hg,?_⟩
 match css,hl with
 | [],hl=>simp at hl;omega
 | c :: css,_=>
  obtain⟨s,A,l,k,C,l',k',rfl⟩:=hx.tri c (by simp)
  exact⟨s,by simp⟩
theorem RO.ne {q sl:Nat} {X:Nat->Rat} (h:RO H nx b n X) (hn:0<n) (hg:X0 H q=some (.cells l sl)) (h0:∀ s,l[0]? ≠ some (.bool s)):b≠q:=by
 rintro rfl
 obtain⟨css,hg',s,hs⟩:=h.first hn
 rw[hg] at hg'
 cases hg'
 exact h0 s hs
theorem RO.boxs {H:Y0} {nx b n q sl s':Nat} {X:Nat->Rat} {l l':List Value} (h:RO H nx b n X) (hbq:b≠q) (hg:X0 H q=some (.cells l sl)) (hr:∀ (q:Nat) (z:Int),l[q]? ≠ some (Value.int .u32 z)) (hs':s'=0\/s'=1):
  RO (hs H q (some (.cells l' s'))) nx b n X:=by
 obtain⟨css,hgb,hb,hl,hx⟩:=h
 exact⟨css,by rw[M0 _ hbq];exact hgb,hb,hl,fun i c hc=>(hx i c hc).boxs hg hr hs'⟩
theorem RO.more {H:Y0} {nx nx' b n:Nat} {X:Nat->Rat} (h:RO H nx b n X) (e:nx<=nx'):RO H nx' b n X:=h.ext (D0.self e)
def slR (N:Nat) (bs:List Nat):List Value:=bs.map fun b => .slice (some ⟨b,0,none⟩) N N
theorem V25 (N:Nat) (bs:List Nat):(slR N bs).length=bs.length:=by simp[slR]
theorem G14 {N:Nat} {bs:List Nat} (h:bs[i]? = some b):(slR N bs)[i]? = some (.slice (some ⟨b,0,none⟩) N N):=by simp[slR,h]
theorem N68 (N:Nat) (bs:List Nat) (i b:Nat):(slR N bs).set i (.slice (some ⟨b,0,none⟩) N N)=slR N (bs.set i b):=by unfold slR;rw[List.map_set]
theorem B50 (N:Nat) (bs:List Nat):∀ (q:Nat) (z:Int),(slR N bs)[q]? ≠ some (Value.int .u32 z):=by
 intro q z h
 simp only[slR,List.getElem?_map,Option.map_eq_some_iff] at h
 obtain⟨_,_,h⟩:=h
 cases h
theorem Z44 (N:Nat) (bs:List Nat):∀ s,(slR N bs)[0]? ≠ some (.bool s):=by
 intro s h
 simp only[slR,List.getElem?_map,Option.map_eq_some_iff] at h
 obtain⟨_,_,h⟩:=h
 cases h
def D11 (m:Nat) (B:Nat->Nat):List Value:=(List.range m).map fun i => .int .i64 (B i:Int)
theorem B30 (m:Nat) (B:Nat->Nat):(D11 m B).length=m:=by simp[D11]
theorem Q19 {B:Nat->Nat} {i:Nat} (h:i<m):(D11 m B)[i]? = some (.int .i64 (B i:Int)):=by simp[D11,h]
theorem J84 {c:Nat}:(D11 m B).set i (.int .i64 (c:Int))=D11 m fun k=>if k=i then c else B k:=by
 apply List.ext_getElem?
 intro k
 simp only[D11,List.getElem?_set,List.getElem?_map,List.length_map,List.length_range]
 by_cases h:i=k
 .subst h
  by_cases h2:i<m
  .simp[h2]
  .simp[h2]
 .by_cases h2:k<m
  .simp[h,h2,show ¬ k=i by omega]
  .simp[h,h2]
theorem Q69 (m:Nat) (B:Nat->Nat):∀ (q:Nat) (z:Int),(D11 m B)[q]? ≠ some (Value.int .u32 z):=by
 intro q z h
 simp only[D11,List.getElem?_map,Option.map_eq_some_iff] at h
 obtain⟨_,_,h⟩:=h
 cases h
theorem W65 (m:Nat) (B:Nat->Nat):∀ s,(D11 m B)[0]? ≠ some (.bool s):=by
 intro s h
 simp only[D11,List.getElem?_map,Option.map_eq_some_iff] at h
 obtain⟨_,_,h⟩:=h
 cases h
def N11 (n m br cr gb bb cb:Nat):List Value:=[.int .i64 (n:Int),.int .i64 (m:Int),.slice (some ⟨br,0,none⟩) m cr,.slice (some ⟨gb,0,none⟩) (n+m+2) (n+m+2),.slice (some ⟨bb,0,none⟩) m cb]
theorem Y55 (n m br cr gb bb cb:Nat):∀ (q:Nat) (z:Int),(N11 n m br cr gb bb cb)[q]? ≠ some (Value.int .u32 z):=by
 intro q z h
 unfold N11 at h
 match q,h with
 | 0,h=>simp at h
 | 1,h=>simp at h
 | 2,h=>simp at h
 | 3,h=>simp at h
 | 4,h=>simp at h
theorem M47 (n m br cr gb bb cb:Nat):∀ s,(N11 n m br cr gb bb cb)[0]? ≠ some (.bool s):=by
 intro s h;simp[N11] at h
theorem Y31 {b b' sl sl':Nat} {l':List Value} (h:X0 H b=some (.cells l sl)) (h':X0 H b'=some (.cells l' sl')) (i:Nat) (e:l[i]? ≠ l'[i]?):b≠b':=by
 rintro rfl
 rw[h] at h'
 cases h'
 exact e rfl
structure TV (H:Y0) (nx lo p n m br cr gb bb cb sr sb:Nat) (bs:List Nat) (T:Lp.Tab):Prop where
 hp:X0 H p=some (.cells (N11 n m br cr gb bb cb) 0)
 hr:X0 H br=some (.cells (slR (n+m+2) bs) sr)
 hb:X0 H bb=some (.cells (D11 m T.B) sb)
 len:bs.length=m
 rows:∀ i b,bs[i]? = some b->RO H nx b (n+m+2) (T.a i)
 goal:RO H nx gb (n+m+2) T.g
 lop:lo<=p
 lor:lo<=br
 lob:lo<=bb
 pn:p<nx
 rn:br<nx
 bn:bb<nx
 sr1:sr=0\/sr=1
 sb1:sb=0\/sb=1
theorem TV.ext {H:Y0} {nx lo p n m br cr gb bb cb sr sb:Nat} {bs:List Nat} {T:Lp.Tab} {H':Y0} {nx':Nat} (h:TV H nx lo p n m br cr gb bb cb sr sb bs T) (e:D0 H nx H' nx'):TV H' nx' lo p n m br cr gb bb cb sr sb bs T:=by
 have:=e.le
 have:=h.pn;have:=h.rn;have:=h.bn
 exact⟨(e.get p h.pn).trans h.hp,(e.get br h.rn).trans h.hr,(e.get bb h.bn).trans h.hb,h.len,fun i b hb=>(h.rows i b hb).ext e,h.goal.ext e,h.lop,h.lor,h.lob,by omega,by omega,by omega,h.sr1,h.sb1⟩
section
variable {H:Y0} {nx lo p n m br cr gb bb cb sr sb:Nat} {bs:List Nat} {T:Lp.Tab}
theorem TV.pr (h:TV H nx lo p n m br cr gb bb cb sr sb bs T) (hm:0<m):p≠br:=by
 refine Y31 h.hp h.hr 0 ?_
 obtain⟨b,hb⟩:∃ b,bs[0]? = some b:=⟨bs[0]'(by have:=h.len;omega),List.getElem?_eq_getElem _⟩
 rw[G14 hb];simp[N11]
theorem TV.pb (h:TV H nx lo p n m br cr gb bb cb sr sb bs T):p≠bb:=by
 refine Y31 h.hp h.hb 2 ?_
 by_cases h2:2<m
 .rw[Q19 h2];simp[N11]
 .rw[List.getElem?_eq_none (l:=D11 m T.B) (by rw[B30];omega)];simp[N11]
theorem TV.rb (h:TV H nx lo p n m br cr gb bb cb sr sb bs T) (hm:0<m):br≠bb:=by
 refine Y31 h.hr h.hb 0 ?_
 obtain⟨b,hb⟩:∃ b,bs[0]? = some b:=⟨bs[0]'(by have:=h.len;omega),List.getElem?_eq_getElem _⟩
 rw[G14 hb,Q19 hm];simp
theorem TV.row (h:TV H nx lo p n m br cr gb bb cb sr sb bs T) (hi:i<m):∃ b,bs[i]? = some b/\RO H nx b (n+m+2) (T.a i):=by
 have:=h.len
 exact⟨bs[i],List.getElem?_eq_getElem _,h.rows i _ (List.getElem?_eq_getElem _)⟩
theorem TV.congr {T':Lp.Tab} (h:TV H nx lo p n m br cr gb bb cb sr sb bs T) (ha:∀ i q,i<m->q<n+m+2->T'.a i q=T.a i q) (hg:∀ q,q<n+m+2->T'.g q=T.g q) (hB:∀ i,i<m->T'.B i=T.B i):TV H nx lo p n m br cr gb bb cb sr sb bs T':=by
 refine⟨h.hp,h.hr,?_,h.len,fun i b hb => ?_,h.goal.congr hg,h.lop,h.lor,h.lob,h.pn,h.rn,h.bn,h.sr1,h.sb1⟩
 .have e:D11 m T'.B=D11 m T.B:=List.map_congr_left fun i hi=>by rw[hB i (List.mem_range.1 hi)]
  rw[e];exact h.hb
 .have hi:=(List.getElem?_eq_some_iff.1 hb).1
  exact (h.rows i b hb).congr fun q hq=>ha i q (by have:=h.len;omega) hq
theorem TV.setRow {X:Nat->Rat} (h:TV H nx lo p n m br cr gb bb cb sr sb bs T) (hi:i<m) (hX:RO H nx b (n+m+2) X):
  TV (hs H br (some (.cells (slR (n+m+2) (bs.set i b)) sr))) nx lo p n m br cr gb bb cb sr sb (bs.set i b) ⟨fun k=>if k=i then X else T.a k,T.g,T.B⟩:=by
 have hpr:=h.pr (by omega)
 have hrb:=h.rb (by omega)
 refine⟨by rw[M0 _ hpr];exact h.hp,Q0 _ _ _,by rw[M0 _ (Ne.symm hrb)];exact h.hb,by rw[List.length_set];exact h.len,fun k d hk => ?_,h.goal.boxs (h.goal.ne (by omega) h.hr (Z44 _ _)) h.hr (B50 _ _) h.sr1,h.lop,h.lor,h.lob,h.pn,h.rn,h.bn,h.sr1,h.sb1⟩
 by_cases e:k=i
 .subst e
  rw[List.getElem?_set_self (by have:=h.len;omega)] at hk
  cases hk
  show RO _ _ _ _ (if k=k then X else T.a k)
  rw[if_pos rfl]
  exact hX.boxs (hX.ne (by omega) h.hr (Z44 _ _)) h.hr (B50 _ _) h.sr1
 .rw[List.getElem?_set_ne (by omega)] at hk
  show RO _ _ _ _ (if k=i then X else T.a k)
  rw[if_neg e]
  have:=h.rows k d hk
  exact this.boxs (this.ne (by omega) h.hr (Z44 _ _)) h.hr (B50 _ _) h.sr1
theorem TV.setGoal {X:Nat->Rat} (h:TV H nx lo p n m br cr gb bb cb sr sb bs T) (hm:0<m) (hX:RO H nx b (n+m+2) X):
  TV (hs H p (some (.cells (N11 n m br cr b bb cb) 0))) nx lo p n m br cr b bb cb sr sb bs ⟨T.a,X,T.B⟩:=by
 have hpr:=h.pr hm
 have hpb:=h.pb
 refine⟨Q0 _ _ _,by rw[M0 _ (Ne.symm hpr)];exact h.hr,by rw[M0 _ (Ne.symm hpb)];exact h.hb,h.len,fun k d hk => ?_,hX.boxs (hX.ne (by omega) h.hp (M47 _ _ _ _ _ _ _)) h.hp (Y55 _ _ _ _ _ _ _) (.inl rfl),h.lop,h.lor,h.lob,h.pn,h.rn,h.bn,h.sr1,h.sb1⟩
 have:=h.rows k d hk
 exact this.boxs (this.ne (by omega) h.hp (M47 _ _ _ _ _ _ _)) h.hp (Y55 _ _ _ _ _ _ _) (.inl rfl)
theorem TV.setBas (h:TV H nx lo p n m br cr gb bb cb sr sb bs T) (hm:0<m):
  TV (hs H bb (some (.cells (D11 m B) sb))) nx lo p n m br cr gb bb cb sr sb bs ⟨T.a,T.g,B⟩:=by
 have hrb:=h.rb hm
 have hpb:=h.pb
 refine⟨by rw[M0 _ hpb];exact h.hp,by rw[M0 _ hrb];exact h.hr,Q0 _ _ _,h.len,fun k d hk => ?_,h.goal.boxs (h.goal.ne (by omega) h.hb (W65 _ _)) h.hb (Q69 _ _) h.sb1,h.lop,h.lor,h.lob,h.pn,h.rn,h.bn,h.sr1,h.sb1⟩
 have:=h.rows k d hk
 exact this.boxs (this.ne (by omega) h.hb (W65 _ _)) h.hb (Q69 _ _) h.sb1
end
end Go.Clo

namespace Go.Proofs.YtpiobdofbhkmjaaDoor
open Go.Clo
theorem M84 {H:Y0} {nx lo p n m br cr gb bb cb sr sb r c M:Nat} {bs:List Nat} {T:Lp.Tab} (h:TV H nx lo p n m br cr gb bb cb sr sb bs T) (hn:n<=20) (hm:m<=20) (hr:r<m) (hc:c<n+m+2) (hne:T.a r c≠0)
  (hM:1<=M) (hS:∀ x,Lp.Sz (M*(M*M)) x->X4 x 100000) (hT:Lp.TSz m (n+m+2) M T) (hlo:lo<=nx):
  J2 Tryd.prog 94 [.pointer (some ⟨p,0,none⟩),.int .i64 (r:Int),.int .i64 (c:Int)] H nx fun v H' nx'=>v = .tuple ⟨[]⟩/\nx<=nx'/\D0 H lo H' nx' /\
   ∃ gb' bs',TV H' nx' lo p n m br cr gb' bb cb sr sb bs' (Lp.pivot T r c):=by
 have hMM:M<=M*(M*M):=by
  have:M*1<=M*(M*M):=Nat.mul_le_mul_left M (Nat.mul_pos hM hM)
  omega
 have hMM2:M*M<=M*(M*M):=Nat.mul_le_mul_left M (by have:M*1<=M*M:=Nat.mul_le_mul_left M hM;omega)
 have sA:∀ i q,i<m->q<n+m+2->X4 (T.a i q) 100000:=fun i q hi hq=>hS _ ((hT.1 i q hi hq).mono hMM)
 have zY:∀ q,q<n+m+2->Lp.Sz (M*M) (T.a r q/T.a r c):=fun q hq=>(hT.1 r q hr hq).div hM (hT.1 r c hr hc)
 have sG:∀ q,q<n+m+2->X4 (T.g q) 100000:=fun q hq=>hS _ ((hT.2 q hq).mono hMM)
 obtain⟨b,hbr,hrow⟩:=h.row hr
 obtain⟨css,hg,hbn,hl,hx⟩:=id hrow
 have hxl:css.flatten.length=3*(n+m+2):=by rw[Q8 hx.three,hl]
 have hzl:(List.replicate (n+m+2) D8).flatten.length=3*(n+m+2):=by
  rw[Q8 (fun d hd=>by rw[(List.mem_replicate.1 hd).2];rfl),List.length_replicate]
 have hp0:=h.hp
 unfold N11 at hp0
 have hpn:=h.pn
 have hrn:=h.rn
 obtain⟨cc,hcc⟩:∃ cc,css[c]? = some cc:=⟨css[c]'(by omega),List.getElem?_eq_getElem _⟩
 have hccR:=hx c cc hcc
 have hccT:=hccR.tri
 refine spec94 ?_
 unfold F94
 simp (disch:=first|omega|assumption) only[W0,B0.val,hp0,h.hr,G14 hbr]
 rw[V12 (by omega),show [Value.bool false,.slice none 0 0,.slice none 0 0]=D8 from rfl,V38]
 have g1p:X0 (hs H nx (some (.cells (List.replicate (n+m+2) D8).flatten 0))) p=_:=(M0 _ (by omega)).trans hp0
 have g1r:X0 (hs H nx (some (.cells (List.replicate (n+m+2) D8).flatten 0))) br=_:=(M0 _ (by omega)).trans h.hr
 have g1b:X0 (hs H nx (some (.cells (List.replicate (n+m+2) D8).flatten 0))) b=_:=(M0 _ (by omega)).trans hg
 simp (disch:=first|omega|assumption) only[W0]
 rw[W32 (sl:=0) (row:=(List.replicate (n+m+2) D8).flatten) (Q0 _ _ _) (Z8 (m:=n+m+2) g1b (by rw[hxl];omega) (by omega)) (Nat.le_refl _) (K37 hx.tri) (by omega),
  Z5 (by rw[hxl,hzl])]
 have hE0:D0 H nx (hs (hs H nx (some (.cells (List.replicate (n+m+2) D8).flatten 0))) nx (some (.cells css.flatten 0))) (nx+1):=((D0.refl H nx).new _ (Nat.le_refl _) (m:=nx+1) (by omega)).new _ (by omega) (by omega)
 have g2:X0 (hs (hs H nx (some (.cells (List.replicate (n+m+2) D8).flatten 0))) nx (some (.cells css.flatten 0))) nx=some (.cells css.flatten 0):=Q0 _ _ _
 generalize hs (hs H nx (some (.cells (List.replicate (n+m+2) D8).flatten 0))) nx (some (.cells css.flatten 0))=H2 at *
 have hz3:D8.length=3:=rfl
 simp (disch:=first|omega|assumption) only[W0,g2,U6 hx.three hcc,hccT.three,hccT.one,Z5 (show cc.length=D8.length from hccT.three),hz3]
 have hE3:D0 H nx (hs (hs H2 (nx+1) (some (.cells D8 0))) (nx+1) (some (.cells cc 0))) (nx+1+1):=(hE0.new _ (by omega) (m:=nx+1+1) (by omega)).new _ (by omega) (by omega)
 have g3:X0 (hs (hs H2 (nx+1) (some (.cells D8 0))) (nx+1) (some (.cells cc 0))) nx=some (.cells css.flatten 0):=by rw[M0 _ (by omega),M0 _ (by omega)];exact g2
 have g31:X0 (hs (hs H2 (nx+1) (some (.cells D8 0))) (nx+1) (some (.cells cc 0))) (nx+1)=some (.cells cc 0):=Q0 _ _ _
 generalize hs (hs H2 (nx+1) (some (.cells D8 0))) (nx+1) (some (.cells cc 0))=H3 at *
 refine E1 (m:=n+m+2) (fun k L H' nx'=>∃ (j:Nat) (ds:List (List Value)),k+j=n+m+2/\L=[.int .i64 (j:Int)]/\ds.length=n+m+2/\RX H' nx' ds (fun q=>if q<j then T.a r q/T.a r c else T.a r q) /\
  X0 H' nx=some (.cells ds.flatten 0)/\X0 H' (nx+1)=some (.cells cc 0)/\D0 H nx H' nx'/\nx+2<=nx') ?_ ⟨0,css,by omega,rfl,hl,fun q c hc=>by simpa using (hx q c hc).ext hE3,g3,g31,hE3,by omega⟩
 rintro k ih L H5 nx5 ⟨j,ds,hk,rfl,hlen,hX5,g5,g51,hE5,hn5⟩ hih
 by_cases hj:j<n+m+2
 .have hj':(j:Int)<((n+m+2:Nat):Int):=by omega
  have hdj:ds[j]? = some ds[j]:=List.getElem?_eq_getElem (by omega)
  have hxj:=hX5 j _ hdj
  dsimp only at hxj
  rw[if_neg (by omega)] at hxj
  simp (disch:=first|omega|assumption) only[W0,K3,hj',g5,U6 hX5.three hdj]
  refine K0 (J22 hxj ⟨by have:=(sA r j hr hj).1;omega,by have:=(sA r j hr hj).2;omega⟩) ?_
  rintro _ H7 nx7 ⟨rfl,hE7⟩
  have hle7:=hE7.le
  have g7:=(hE7.get nx (by omega)).trans g5
  have g71:=(hE7.get (nx+1) (by omega)).trans g51
  have hX7:=hX5.ext hE7
  by_cases hz:T.a r j=0
  .have e:=sign_zero.2 hz
   simp (disch:=first|omega|assumption) only[W0,e]
   refine hih (k-1) _ _ _ (by omega) ⟨j+1,ds,by omega,by simp,hlen,fun q d hd => ?_,g7,g71,hE5.trans hE7,by omega⟩
   have:=hX7 q d hd
   dsimp only at this ⊢
   by_cases h1:q<j
   .rw[if_pos (by omega)];rw[if_pos h1] at this;exact this
   .rw[if_neg h1] at this
    by_cases h2:q=j
    .subst h2
     rw[if_pos (by omega),hz,Lp.zdiv];rw[hz] at this;exact this
    .rw[if_neg (by omega)];exact this
  have e:¬ (T.a r j).num.sign=0:=fun h=>hz (sign_zero.1 h)
  simp (disch:=first|omega|assumption) only[W0,e,ne_eq,not_false_eq_true,g7,g71,Q3 hccT,U6 hX7.three hdj]
  have hE7':D0 H7 nx7 H7 (nx7+13):=D0.self (by omega)
  refine K0 (B80 (hxj.ext (hE7.trans hE7')) (hccR.ext ((hE5.trans hE7).trans hE7')) (sA r j hr hj) (sA r c hr hc) (fun e=>hne (V47.1 e))) ?_
  rintro _ H9 nx9 ⟨⟨u,rfl,hu⟩,hE9⟩
  have hle9:=hE9.le
  have hE59:D0 H5 nx5 H9 nx9:=(hE7.trans hE7').trans hE9
  have g9:=(hE59.get nx (by omega)).trans g5
  have g91:=(hE59.get (nx+1) (by omega)).trans g51
  have hX9:=hX5.ext hE59
  obtain⟨uc,rfl,huc⟩:=hu.num
  have e3:j*3=3*j:=by omega
  have ep:G6 ds.flatten (j*3) uc=(ds.set j uc).flatten:=by rw[e3];exact E30 hX9.three huc.three (by omega)
  have el:j*3+3<=3*ds.length:=by omega
  simp (disch:=first|omega|assumption) only[W0,huc.three,huc.one,g9,Q8 hX9.three,ep,el]
  refine hih (k-1) _ _ _ (by omega) ⟨j+1,ds.set j uc,by omega,by simp,by simp[hlen],hX9.put g9 hu (by omega) (by rw[if_pos (by omega)]) (fun q hq => ?_),Q0 _ _ _,?_,(hE5.trans hE59).hs (by omega),by omega⟩
  .by_cases h1:q<j
   .rw[if_pos h1,if_pos (by omega)]
   .rw[if_neg h1,if_neg (by omega)]
  .rw[M0 _ (by omega)];exact g91
 obtain rfl:j=n+m+2:=by omega
 have hj':¬ ((n+m+2:Nat):Int)<((n+m+2:Nat):Int):=by omega
 have h5:=h.ext hE5
 have hY5:RO H5 nx5 nx (n+m+2) (fun q=>T.a r q/T.a r c):=⟨ds,g5,by omega,hlen,fun q d hd=>by
  have:=hX5 q d hd
  dsimp only at this
  rwa [if_pos (by have:=(List.getElem?_eq_some_iff.1 hd).1;omega)] at this⟩
 have hp5:=h5.hp
 unfold N11 at hp5
 have hE05:D0 H lo H5 nx5:=hE5.less hlo
 simp (disch:=first|omega|assumption) only[W0,hj',hp5]
 refine E1 (m:=m) (fun k L H' nx'=>∃ (i:Nat) (bs':List Nat),k+i=m/\L=[.int .i64 (i:Int)]/\nx+2<=nx'/\D0 H lo H' nx'/\RO H' nx' nx (n+m+2) (fun q=>T.a r q/T.a r c) /\
  TV H' nx' lo p n m br cr gb bb cb sr sb bs' ⟨fun k=>if k<i/\k≠r then (Lp.pivot T r c).a k else T.a k,T.g,T.B⟩) ?_
  ⟨0,bs,by omega,rfl,hn5,hE05,hY5,h5.congr (fun i q hi hq=>by simp) (fun q hq=>rfl) (fun i hi=>rfl)⟩
 rintro k1 ih1 L1 H11 nx11 ⟨i,bs',hk1,rfl,hn11,hE11,hY11,h11⟩ hih1
 have hp11:=h11.hp
 unfold N11 at hp11
 by_cases hi:i<m
 .have hi':(i:Int)<(m:Int):=by omega
  by_cases hir:i=r
  .subst hir
   simp (disch:=first|omega|assumption) only[W0,K3,hi',ne_eq,not_true_eq_false]
   refine hih1 (k1-1) _ _ _ (by omega) ⟨i+1,bs',by omega,by simp,hn11,hE11,hY11,h11.congr (fun q t hq ht => ?_) (fun q hq=>rfl) (fun i hi=>rfl)⟩
   show (if q<i+1/\q≠i then (Lp.pivot T i c).a q else T.a q) t=(if q<i/\q≠i then (Lp.pivot T i c).a q else T.a q) t
   by_cases h1:q<i/\q≠i
   .rw[if_pos h1,if_pos ⟨by omega,h1.2⟩]
   .rw[if_neg h1,if_neg (by omega)]
  have hir':¬ (i:Int)=(r:Int):=by omega
  obtain⟨bi,hbi,hrowi⟩:=h11.row hi
  have hrowi:RO H11 nx11 bi (n+m+2) (T.a i):=hrowi.congr fun q hq=>by simp
  obtain⟨csi,hgi,hbni,hli,hxi⟩:=id hrowi
  obtain⟨ci,hci⟩:∃ ci,csi[c]? = some ci:=⟨csi[c]'(by omega),List.getElem?_eq_getElem _⟩
  have hciR:=hxi c ci hci
  simp (disch:=first|omega|assumption) only[W0,K3,hi',hir',ne_eq,not_false_eq_true,hp11,h11.hr,G14 hbi,hgi,U6 hxi.three hci]
  have hE11':D0 H11 nx11 H11 (nx11+26):=D0.self (by omega)
  refine K0 (X46 (hrowi.ext hE11') (hY11.ext hE11') (hciR.ext hE11') (by omega) (by omega) (fun q hq=>sA i q hi hq) (fun q hq=>hS _ ((zY q hq).mono hMM2)) (sA i c hi hc) (fun q hq=>hS _ ((hT.1 i c hi hc).mul (zY q hq)))) ?_
  rintro _ H14 nx14 ⟨b',rfl,hb',hrow',hE14⟩
  have hE14':=hE11'.trans hE14
  have h14:=h11.ext hE14'
  have hle14:=hE14'.le
  have hp14:=h14.hp
  unfold N11 at hp14
  have hY14:=hY11.ext hE14'
  have hlenb:=h14.len
  simp (disch:=first|omega|assumption) only[W0,hp14,h14.hr,U49 (show i<(slR (n+m+2) bs').length by rw[V25];omega),N68,V25,show i+1<=bs'.length by omega]
  have h15:=h14.setRow hi hrow'
  refine hih1 (k1-1) _ _ _ (by omega) ⟨i+1,bs'.set i b',by omega,by simp,by omega,(hE11.both (hE14'.less (by have:=hE11.le;omega))).hs h11.lor,hY14.boxs (hY14.ne (by omega) h14.hr (Z44 _ _)) h14.hr (B50 _ _) h14.sr1,h15.congr (fun q t hq ht => ?_) (fun q hq=>rfl) (fun i hi=>rfl)⟩
  show (if q<i+1/\q≠r then (Lp.pivot T r c).a q else T.a q) t=(if q=i then (fun q=>T.a i q-T.a i c*(T.a r q/T.a r c)) else if q<i/\q≠r then (Lp.pivot T r c).a q else T.a q) t
  by_cases h1:q=i
  .subst h1
   rw[if_pos ⟨by omega,hir⟩,if_pos rfl]
   show (if q=r then _ else _)=_
   rw[if_neg hir]
  .rw[if_neg h1]
   by_cases h2:q<i/\q≠r
   .rw[if_pos h2,if_pos ⟨by omega,h2.2⟩]
   .rw[if_neg h2,if_neg (by omega)]
 obtain rfl:i=m:=by omega
 have hi':¬ (i:Int)<(i:Int):=by omega
 obtain⟨csg,hgg,hbng,hlg,hxg⟩:=id h11.goal
 obtain⟨cg,hcg⟩:∃ cg,csg[c]? = some cg:=⟨csg[c]'(by omega),List.getElem?_eq_getElem _⟩
 have hcgR:=hxg c cg hcg
 simp (disch:=first|omega|assumption) only[W0,hi',hp11,hgg,U6 hxg.three hcg]
 have hE11':D0 H11 nx11 H11 (nx11+17):=D0.self (by omega)
 refine K0 (X46 (h11.goal.ext hE11') (hY11.ext hE11') (hcgR.ext hE11') (by omega) (by omega) (fun q hq=>sG q hq) (fun q hq=>hS _ ((zY q hq).mono hMM2)) (sG c hc) (fun q hq=>hS _ ((hT.2 c hc).mul (zY q hq)))) ?_
 rintro _ H17 nx17 ⟨b',rfl,hb',hrow',hE17⟩
 have hE17':=hE11'.trans hE17
 have h17:=h11.ext hE17'
 have hle17:=hE17'.le
 have hp17:=h17.hp
 unfold N11 at hp17
 have hY17:=hY11.ext hE17'
 have hlenb:=h17.len
 have h18:=h17.setGoal (by omega) hrow'
 have hY18:=hY17.boxs (s':=0) (l':=N11 n i br cr b' bb cb) (hY17.ne (by omega) h17.hp (M47 _ _ _ _ _ _ _)) h17.hp (Y55 _ _ _ _ _ _ _) (.inl rfl)
 have h19:=h18.setRow hr hY18
 have h20:=h19.setBas (B:=fun k=>if k=r then c else T.B k) (by omega)
 have hpr:=h17.pr (by omega)
 have hpb:=h17.pb
 have hrb:=h17.rb (by omega)
 have hrp:=Ne.symm hpr
 have hbp:=Ne.symm hpb
 have hbr':=Ne.symm hrb
 have hset:∀ (v:Value),G6 [Value.int .i64 (n:Int),.int .i64 (i:Int),.slice (some ⟨br,0,none⟩) i cr,.slice (some ⟨gb,0,none⟩) (n+i+2) (n+i+2),.slice (some ⟨bb,0,none⟩) i cb] 3 [v] =
   [Value.int .i64 (n:Int),.int .i64 (i:Int),.slice (some ⟨br,0,none⟩) i cr,v,.slice (some ⟨bb,0,none⟩) i cb]:=fun v=>rfl
 have hgb:X0 H17 bb=some (.cells (D11 i T.B) sb):=h17.hb
 simp (disch:=first|omega|assumption) only[W0,Nat.reduceAdd,hp17,hset,h17.hr,hgb,U49 (show r<(slR (n+i+2) bs').length by rw[V25];omega),N68,V25,show r+1<=bs'.length by omega,U49 (show r<(D11 i T.B).length by rw[B30];omega),J84,B30,show r+1<=i by omega,show 3+1<=5 by omega]
 have hE0:=hE11.both (hE17'.less (show lo<=nx11 by omega))
 refine⟨by omega,((hE0.hs h17.lop).hs h17.lor).hs h17.lob,_,_,h20.congr (fun q t hq ht => ?_) (fun q hq=>rfl) (fun i hi=>rfl)⟩
 show (if q=r then T.a r t/T.a r c else T.a q t-T.a q c*(T.a r t/T.a r c))=(if q=r then (fun q=>T.a r q/T.a r c) else if q<i/\q≠r then (Lp.pivot T r c).a q else T.a q) t
 by_cases h1:q=r
 .rw[if_pos h1,if_pos h1]
 .rw[if_neg h1,if_neg h1,if_pos ⟨hq,h1⟩]
  show _=(if q=r then _ else _)
  rw[if_neg h1]
end Go.Proofs.YtpiobdofbhkmjaaDoor
