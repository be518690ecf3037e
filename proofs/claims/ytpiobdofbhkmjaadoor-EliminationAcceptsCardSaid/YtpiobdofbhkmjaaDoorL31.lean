/-
  The executor as a claim: above the first free name there is nothing;a call beside blocks that it does not know.
  Plain: the run of the simplex algorithm from the first tableau of a packing problem (no program in sight).
  Contract: simplex.leaving.
  Contract: simplex.maximize,from the first tableau of a packing problem.
-/
import Derived.Test.YtpiobdofbhkmjaaDoorL15
import Derived.Test.YtpiobdofbhkmjaaDoorL30
set_option linter.unusedSimpArgs false
set_option linter.unusedVariables false
set_option linter.unusedSectionVars false
namespace Go.Clo
variable {H H':Y0} {P:Program} {Q k:EP} {args:List Value} {f:FuncId} {nx nx' p q:Nat} {v:Value}
def Top (H:Y0) (nx:Nat):Prop:=∀ i,nx<=i->X0 H i=none
theorem K56 (f:Nat->Option V4) (n:Nat):∃ H',(∀ i,i<n->X0 H' i=f i)/\Top H' n:=by
 induction n with
 | zero=>exact⟨.leaf,fun i hi=>by omega,fun i _=>Y40 i⟩
 | succ n ih=>
  obtain⟨H',h1,h2⟩:=ih
  refine⟨hs H' n (f n),fun i hi => ?_,fun i hi => ?_⟩
  .rw[W7]
   by_cases e:i=n
   .rw[if_pos e,e]
   .rw[if_neg e];exact h1 i (by omega)
  .rw[W7,if_neg (by omega)];exact h2 i (by omega)
theorem CS.cut (h:CS P f args H nx v H' nx') {H2:Y0} (e:∀ i,i<nx'->X0 H2 i=X0 H' i) (ht:Top H2 nx'):CS P f args H nx v H2 nx':=by
 refine⟨h.1,fun F args' w hr hv=>(h.2 F args' w hr hv).mono fun ex w' => ?_⟩
 rintro⟨v',F',h1,h2,h3⟩
 refine⟨v',F',h1,h2,h3.congr fun i => ?_⟩
 rcases Nat.lt_or_ge i nx' with g | g
 .exact e i g
 .rw[ht i g,h3.hr.top i g]
theorem CS.beside {P:Program} {f:FuncId} {args:List Value} {E H:Y0} {nx:Nat} {v:Value} {H0:Y0} {nx':Nat} (h:CS P f args E nx v H0 nx') (hsub:∀ i b,X0 E i=some b->X0 H i=some b) (hle:nx<=nx') {H2:Y0}
  (e:∀ i,i<nx'->X0 H2 i=if i<nx/\X0 E i=none/\(X0 H i).isSome=true then X0 H i else X0 H0 i) (ht:Top H2 nx'):CS P f args H nx v H2 nx':=by
 refine⟨h.1,fun F args' w hr hv=>(h.2 F args' w (hr.sub hsub) hv).mono fun ex w' => ?_⟩
 rintro⟨v',F',h1,h2,h3⟩
 refine⟨v',F',h1,h2,h3.beside hr (fun i b _=>hsub i b) fun i => ?_⟩
 rcases Nat.lt_or_ge i nx' with g | g
 .exact e i g
 .rw[ht i g,if_neg (by omega),h3.hr.top i g]
theorem Y81 (h:J2 P f args H nx Q) (hk:∀ v H' nx' H0,Q v H0 nx'->D0 H0 nx' H' nx'->Top H' nx'->k v H' nx'):Z1 P f args H nx k:=by
 obtain⟨v,H0,nx',hc,hq⟩:=h
 obtain⟨H',h1,h2⟩:=K56 (X0 H0) nx'
 exact .inr ⟨v,H',nx',hc.cut h1 h2,hk v H' nx' H0 hq ⟨Nat.le_refl _,h1⟩ h2⟩
def Sub (E:Y0) (nx:Nat) (H:Y0):Prop:=∀ i b,i<nx->X0 E i=some b->X0 H i=some b
theorem J41 {E:Y0} (hsub:∀ i b,X0 E i=some b->X0 H i=some b) (h:J2 P f args E nx Q) (hQ:∀ v H0 nx',Q v H0 nx'->D0 E nx H0 nx')
  (hk:∀ v H' nx' H0,Q v H0 nx'->D0 H nx H' nx'->Sub H0 nx' H'->Top H' nx'->k v H' nx'):Z1 P f args H nx k:=by
 obtain⟨v,H0,nx',hc,hq⟩:=h
 have hE:=hQ _ _ _ hq
 obtain⟨H',h1,h2⟩:=K56 (fun i=>if i<nx/\X0 E i=none/\(X0 H i).isSome=true then X0 H i else X0 H0 i) nx'
 refine .inr ⟨v,H',nx',hc.beside hsub hE.le h1 h2,hk v H' nx' H0 hq ⟨hE.le,fun i hi => ?_⟩ (fun i b hi hb => ?_) h2⟩
 .rw[h1 i (Nat.lt_of_lt_of_le hi hE.le)]
  split
  .rfl
  .rename_i hn
   rw[hE.get i hi]
   cases hg:X0 E i with
   | some b=>rw[hsub i b hg]
   | none=>
    cases hg2:X0 H i with
    | none=>rfl
    | some b=>exact absurd ⟨hi,hg,by rw[hg2];rfl⟩ hn
 .rw[h1 i hi,if_neg]
  .exact hb
  .rintro⟨g1,g2,_⟩
   rw[hE.get i g1,g2] at hb
   cases hb
noncomputable def er2 (H:Y0) (p q:Nat):Y0:=hs (hs H p none) q none
theorem U11 {i:Nat} (hp:i≠p) (hq:i≠q):X0 (er2 H p q) i=X0 H i:=by unfold er2;rw[M0 _ hq,M0 _ hp]
theorem N31:X0 (er2 H p q) p=none:=by
 unfold er2;rw[W7]
 split
 .rfl
 .exact Q0 _ _ _
theorem X33:X0 (er2 H p q) q=none:=Q0 _ _ _
theorem B70:∀ i b,X0 (er2 H p q) i=some b->X0 H i=some b:=by
 intro i b h
 by_cases hp:i=p
 .rw[hp,N31] at h;cases h
 .by_cases hq:i=q
  .rw[hq,X33] at h;cases h
  .rwa [U11 hp hq] at h
theorem N42 (e:D0 H nx H' nx'):D0 (er2 H p q) nx (er2 H' p q) nx':=by
 refine⟨e.le,fun i hi => ?_⟩
 by_cases hp:i=p
 .rw[hp,N31,N31]
 .by_cases hq:i=q
  .rw[hq,X33,X33]
  .rw[U11 hp hq,U11 hp hq];exact e.get i hi
theorem X26 (hp:p<nx) (hq:q<nx) (h:J2 P f args (er2 H p q) nx Q) (hQ:∀ v H0 nx',Q v H0 nx'->D0 (er2 H p q) nx H0 nx')
  (hk:∀ v H' nx' H0,Q v H0 nx'->D0 H nx H' nx'->Sub H0 nx' (er2 H' p q)->Top H' nx'->k v H' nx'):Z1 P f args H nx k:=by
 refine J41 B70 h hQ fun v H' nx' H0 hq' hE hS hT=>hk v H' nx' H0 hq' hE (fun i b hi hb => ?_) hT
 have hE0:=hQ _ _ _ hq'
 have h1:i≠p:=by rintro rfl;rw[hE0.get i hp,N31] at hb;cases hb
 have h2:i≠q:=by rintro rfl;rw[hE0.get i hq,X33] at hb;cases hb
 rw[U11 h1 h2]
 exact hS i b hi hb
def R4 (d:Nat):Value->Nat
 | .slice (some A) _ _=>A.block
 | _=>d
theorem V15 {lo:Nat} {size bytes d:Nat} {n:Nat} {c:List Value} {x:Value} {m:Nat} {l:List Value} (hsz:0<size) (hA:Q6 lo H nx size v n c) (hx:Src H size x m l) (hm:0<m) (ho:Z0 l=true)
  (hb1:(2*(n+m)+1000)*bytes<=281474976710656) (hb2:n+m<=1000000000)
  (hk:∀ H',X0 H' nx=some (.cells (c++l) size)->(∀ i,i≠nx->i≠R4 d v->X0 H' i=X0 H i)->k (.slice (some ⟨nx,0,none⟩) (n+m) (n+m)) H' (nx+1)):U7 v x size bytes H nx k:=by
 obtain⟨hl,hA⟩:=hA
 have hlen:(c++l).length=(n+m)*size:=by rw[List.length_append,hl,hx.size,Nat.add_mul]
 unfold U7 X27
 rcases hA with ⟨rfl,rfl⟩ | ⟨b,h1,h2,rfl,h4⟩
 .have hc:c=[]:=by simp at hl;exact hl
  subst hc
  rw[hx.len]
  dsimp only
  rw[N2,B6 hb1,B6 hb2]
  simp only[Bool.and_self,cond_true]
  rw[hx.first,ho,Y29 (show 0<0+m by omega)]
  simp only[cond_true,cond_false]
  show R7 ([]++l) _
  rw[E3]
  have e:([]++l).length=(0+m)*size:=hlen
  rw[e,E14]
  simp only[cond_true,B26,C17]
  rw[N2,N2,Y8]
  exact hk _ (Q0 _ _ _) fun i hi _=>M0 _ hi
 .rw[hx.len]
  dsimp only
  rw[N2,B6 hb1,B6 hb2]
  simp only[Bool.and_self,cond_true]
  rw[hx.first,ho,Y29 (show n<n+m by omega)]
  simp only[cond_true,cond_false]
  have hold:∀ k:List Value->Prop,G8 H size n (.slice (some ⟨b,0,none⟩) n n) False k=k c:=by
   intro k
   rcases Nat.eq_zero_or_pos n with h0 | h0
   .subst h0
    simp at hl;subst hl
    unfold G8 G24
    dsimp only
    rw[W6,h4]
    simp only[Option.elim_some,Nat.zero_mul,D9]
    exact E3 _ _
   .exact (Z8 h4 hl (Nat.mul_pos h0 hsz)).first k
  rw[hold,E3,hlen,E14]
  simp only[cond_true,B26]
  rw[W6,h4]
  simp only[Option.elim_some]
  have hls:C10 (.cells c size) 0 n size=some true:=by
   simp only[C10]
   rw[W38 (show size≠0 by omega),E14]
   simp only[cond_false,cond_true]
   rw[hl,Nat.zero_add,E14]
  rw[hls]
  dsimp only
  rw[Y8]
  simp only[C17]
  rw[N2,N2,Y8]
  exact hk _ (Q0 _ _ _) fun i hi hne=>by rw[M0 _ hi,M0 _ (show i≠b from hne)]
end Go.Clo

namespace Go.Lp
variable {T:Tab} {c j k r:Nat}
variable {m C R:Nat}
theorem Enters.unique {c':Nat} (h:Enters C T c) (h':Enters C T c'):c=c':=by
 rcases Nat.lt_trichotomy c c' with g | g | g
 .have:=h'.2.2 c g;have:=h.2.1;grind
 .exact g
 .have:=h.2.2 c' g;have:=h'.2.1;grind
theorem Leaves.unique (hT:Y10 m C R T) {r':Nat} (h:Leaves m R T c r) (h':Leaves m R T c r'):r=r':=by
 have h1:=h.2.2 r' h'.1 h'.2.1
 have h2:=h'.2.2 r h.1 h.2.1
 refine hT.inj h.1 h'.1 ?_
 rcases h1 with a | ⟨a,a'⟩
 .rcases h2 with b | ⟨b,b'⟩
  .grind
  .rw[b] at a;grind
 .rcases h2 with b | ⟨b,b'⟩
  .rw[a] at b;grind
  .omega
open Classical in
noncomputable def nxt (m C R:Nat) (T:Tab):Tab:=if h:∃ T',V63 m C R T T' then h.choose else T
theorem E50 (hT:Y10 m C R T) (hc:Enters C T c) (hr:Leaves m R T c r):nxt m C R T=pivot T r c:=by
 have h:∃ T',V63 m C R T T':=⟨_,c,r,hc,hr,rfl⟩
 unfold nxt
 rw[dif_pos h]
 obtain⟨c',r',hc',hr',e⟩:=h.choose_spec
 rw[e]
 obtain rfl:=hc'.unique hc
 obtain rfl:=hr'.unique hT hr
 rfl
noncomputable def U16 (m C R:Nat) (T:Tab) (k:Nat):Tab:=k.rec T fun _ s=>nxt m C R s
theorem X42:U16 m C R T (k+1)=nxt m C R (U16 m C R T k):=rfl
def J25 (m C R:Nat) (T:Tab):Prop:=¬ ∃ T',V63 m C R T T'
theorem ends (hT:Y10 m C R T):∃ K,J25 m C R (U16 m C R T K)/\∀ k,k<K->¬ J25 m C R (U16 m C R T k):=by
 have hex:∃ k,J25 m C R (U16 m C R T k):=by
  refine Classical.byContradiction fun hno => ?_
  have hno:∀ k,∃ T',V63 m C R (U16 m C R T k) T':=fun k=>Classical.byContradiction fun h=>hno ⟨k,h⟩
  have hcan:∀ k,Y10 m C R (U16 m C R T k):=by
   intro k
   induction k with
   | zero=>exact hT
   | succ k ih=>
    obtain⟨T',c,r,hc,hr,e⟩:=hno k
    rw[X42,E50 ih hc hr]
    exact ih.pivot hc hr
  have h1:∀ k,∃ q:Nat × Nat,Enters C (U16 m C R T k) q.1/\Leaves m R (U16 m C R T k) q.1 q.2:=fun k=>by
   obtain⟨T',c,r,hc,hr,e⟩:=hno k
   exact⟨(c,r),hc,hr⟩
  exact Run.false (m:=m) (C:=C) (R:=R) (T:=fun k=>U16 m C R T k) (e:=fun k=>(h1 k).choose.1) (l:=fun k=>(h1 k).choose.2)
   ⟨hT,fun k=>(h1 k).choose_spec.1,fun k=>(h1 k).choose_spec.2,fun k=>by rw[X42,E50 (hcan k) (h1 k).choose_spec.1 (h1 k).choose_spec.2]⟩
 have:∀ n,(∃ k,k<=n/\J25 m C R (U16 m C R T k))->∃ K,J25 m C R (U16 m C R T K)/\∀ k,k<K->¬ J25 m C R (U16 m C R T k):=by
  intro n
  induction n with
  | zero=>rintro⟨k,hk,h⟩;obtain rfl:k=0:=(by omega);exact⟨0,h,fun k hk=>by omega⟩
  | succ n ih=>
   rintro⟨k,hk,h⟩
   by_cases hlow:∃ k,k<=n/\J25 m C R (U16 m C R T k)
   .exact ih hlow
   .obtain rfl:k=n+1:=by
     rcases Nat.lt_or_ge n k with g | g
     .omega
     .exact absurd ⟨k,g,h⟩ hlow
    exact⟨n+1,h,fun q hq hs=>hlow ⟨q,by omega,hs⟩⟩
 obtain⟨k,h⟩:=hex
 exact this k ⟨k,Nat.le_refl _,h⟩
def M11 (n m:Nat) (s:Nat->Nat->Bool):Tab where
 a r j:=if j<n then (if s r j then 1 else 0) else if j<n+m then (if j=n+r then 1 else 0) else if j=n+m then -1 else 1
 g j:=if j<n then -1 else 0
 B r:=n+r
section
variable {n m:Nat} {s:Nat->Nat->Bool}
theorem M19:Y10 m (n+m) (n+m+1) (M11 n m s):=by
 refine⟨fun i hi=>by show n+i<n+m;omega,fun i k hi hk => ?_,fun k hk => ?_,fun i hi => ?_⟩
 .show (if n+k<n then _ else if n+k<n+m then (if n+k=n+i then (1:Rat) else 0) else _)=_
  rw[if_neg (by omega),if_pos (by omega)]
  by_cases e:i=k
  .rw[if_pos (by omega),if_pos e]
  .rw[if_neg (by omega),if_neg e]
 .show (if n+k<n then (-1:Rat) else 0)=0
  rw[if_neg (by omega)]
 .show (0:Rat)<=(if n+m+1<n then (if s i (n+m+1) then (1:Rat) else 0) else if n+m+1<n+m then (if n+m+1=n+i then (1:Rat) else 0) else if n+m+1=n+m then -1 else 1)
  rw[if_neg (by omega),if_neg (by omega),if_neg (by omega)]
  decide
theorem sz0:Sz 1 0:=⟨by decide,by decide⟩
theorem sz1:Sz 1 1:=⟨by decide,by decide⟩
theorem N93:Sz 1 (-1):=⟨by decide,by decide⟩
theorem M91 (N:Nat):TSz m N 1 (M11 n m s):=by
 refine⟨fun i j _ _ => ?_,fun j _ => ?_⟩
 .show Sz 1 (if j<n then (if s i j then 1 else 0) else if j<n+m then (if j=n+i then 1 else 0) else if j=n+m then -1 else 1)
  repeat' split
  all_goals first | exact sz0 | exact sz1 | exact N93
 .show Sz 1 (if j<n then -1 else 0)
  split
  .exact N93
  .exact sz0
theorem Z35 {i:Nat} (hj:j<n+m):0<=(M11 n m s).a i j:=by
 show (0:Rat)<=(if j<n then (if s i j then (1:Rat) else 0) else if j<n+m then (if j=n+i then (1:Rat) else 0) else if j=n+m then -1 else 1)
 by_cases h:j<n
 .rw[if_pos h]
  split
  .decide
  .decide
 .rw[if_neg h,if_pos hj]
  split
  .decide
  .decide
theorem X86 (hcov:∀ v,v<n->∃ r,r<m/\s r v=true) (hj:j<n+m):∃ r,r<m/\(M11 n m s).a r j=1:=by
 by_cases h:j<n
 .obtain⟨r,hr,hs⟩:=hcov j h
  exact⟨r,hr,by show (if j<n then (if s r j then (1:Rat) else 0) else _)=1;rw[if_pos h,hs];rfl⟩
 .exact⟨j-n,by omega,by show (if j<n then _ else if j<n+m then (if j=n+(j-n) then (1:Rat) else 0) else _)=1;rw[if_neg h,if_pos hj,if_pos (by omega)]⟩
theorem bounded (hcov:∀ v,v<n->∃ r,r<m/\s r v=true) (hT:Y10 m (n+m) (n+m+1) T) (he:Eqv m (M11 n m s) T) (hc:c<n+m):∃ i,i<m/\0<T.a i c:=by
 refine Classical.byContradiction fun hno => ?_
 have hno:∀ i,i<m->T.a i c<=0:=fun i hi=>Classical.byContradiction fun h=>hno ⟨i,hi,by grind⟩
 obtain⟨r,hr,h1⟩:=X86 (m:=m) (s:=s) hcov hc
 have h2:=V64 hT (s:=c) (he.back r hr)
 unfold dir at h2
 rw[h1] at h2
 have h3:0<=N5 m fun k=>(-1:Rat)*((M11 n m s).a r (T.B k)*T.a k c):=U34 fun k hk=>by
  have a1:=Z35 (m:=m) (s:=s) (n:=n) (i:=r) (hT.lt k hk)
  have a2:=hno k hk
  have:=Rat.mul_nonneg a1 (b := -T.a k c) (by grind)
  grind
 rw[E18] at h3
 grind
theorem Y47 {T:Tab} (hT:Y10 m C R T) {K:Nat} (hK:∀ k,k<K->¬ J25 m C R (U16 m C R T k)):∀ {k:Nat},k<=K->Y10 m C R (U16 m C R T k)/\Eqv m T (U16 m C R T k)
 | 0,_=>⟨hT,Eqv.refl T⟩
 | k+1,hk=>by
  obtain⟨h1,h2⟩:=Y47 hT hK (k:=k) (by omega)
  have h3:=hK k (by omega)
  have h3:∃ T',V63 m C R (U16 m C R T k) T':=Classical.byContradiction h3
  obtain⟨T',c,r,hc,hr,e⟩:=h3
  have hne:(U16 m C R T k).a r c≠0:=by have:=hr.2.1;grind
  rw[X42,E50 h1 hc hr]
  exact⟨h1.pivot hc hr,h2.trans (Eqv.pivot hr.1 hne)⟩
noncomputable def steps (n m:Nat) (s:Nat->Nat->Bool):Nat:=(ends (M19 (n:=n) (m:=m) (s:=s))).choose
noncomputable def tabK (n m:Nat) (s:Nat->Nat->Bool) (k:Nat):Tab:=U16 m (n+m) (n+m+1) (M11 n m s) k
theorem N51:J25 m (n+m) (n+m+1) (tabK n m s (steps n m s)):=(ends (M19 (n:=n) (m:=m) (s:=s))).choose_spec.1
theorem V49 (h:k<steps n m s):¬ J25 m (n+m) (n+m+1) (tabK n m s k):=(ends (M19 (n:=n) (m:=m) (s:=s))).choose_spec.2 k h
theorem tabK_can (h:k<=steps n m s):Y10 m (n+m) (n+m+1) (tabK n m s k):=(Y47 M19 (fun _ h=>V49 h) h).1
theorem tabK_eqv (h:k<=steps n m s):Eqv m (M11 n m s) (tabK n m s k):=(Y47 M19 (fun _ h=>V49 h) h).2
theorem tabK_sz (hm:m<=8) (h:k<=steps n m s):TSz m (n+m+2) (2^expN 8) (tabK n m s k):=
 (X83 (by omega) (Nat.le_refl 1) M19.uni (tabK_can h).uni (tabK_eqv h) (M91 _)).mono (U96 hm)
theorem tabK_next (h:k<=steps n m s) (hc:Enters (n+m) (tabK n m s k) c) (hr:Leaves m (n+m+1) (tabK n m s k) c r):k<steps n m s/\tabK n m s (k+1)=pivot (tabK n m s k) r c:=by
 refine⟨?_,E50 (tabK_can h) hc hr⟩
 rcases Nat.lt_or_ge k (steps n m s) with g | g
 .exact g
 .obtain rfl:k=steps n m s:=by omega
  exact absurd ⟨_,c,r,hc,hr,rfl⟩ N51
theorem tabK_last (h:k<=steps n m s) (hn:∀ j,j<n+m->0<=(tabK n m s k).g j):k=steps n m s:=by
 rcases Nat.lt_or_ge k (steps n m s) with g | g
 .refine absurd ?_ (V49 g)
  rintro⟨T',c,r,hc,hr,e⟩
  have:=hn c hc.1
  have:=hc.2.1
  grind
 .omega
end
end Go.Lp

namespace Go.Clo
theorem NN.boxn {H:Y0} {nx i n s':Nat} {v:Value} {row':List Value} (h:NN H nx v n) (hg:X0 H i=none):NN (hs H i (some (.cells row' s'))) nx v n:=by
 obtain⟨A,c,rfl,hD⟩:=h
 refine⟨A,c,rfl,?_,?_,hD.small,hD.le⟩
 .intro j x hx
  obtain⟨b,o,rw1,e1,e2,e3,e4⟩:=hD.sl j x hx
  have hb:b≠i:=by
   rintro rfl
   rw[V3,hg] at e3;cases e3
  exact⟨b,o,rw1,e1,e2,by rw[V3,M0 _ hb];exact e3,e4⟩
 .rcases hD.sk with e | ⟨b,o,rw1,e1,e2,e3⟩
  .exact .inl e
  .have hb:b≠i:=by
    rintro rfl
    rw[hg] at e3
    rcases e3 with e3 | ⟨_,_,e3⟩<;>cases e3
   exact .inr ⟨b,o,rw1,e1,e2,by rw[M0 _ hb];exact e3⟩
theorem RR.boxn {H:Y0} {nx i s':Nat} {v:Value} {x:Rat} {row':List Value} (h:RR H nx v x) (hg:X0 H i=none):RR (hs H i (some (.cells row' s'))) nx v x:=
 let ⟨a,b,h1,h2,h3⟩:=h;⟨a,b,h1,NN.boxn h2 hg,NN.boxn h3 hg⟩
theorem U69 {x:Rat}:x.num.sign<=0<->x<=0:=by
 rw[Int.sign_nonpos_iff]
 have h1:=@Rat.num_nonneg x
 have h2:=@Rat.num_eq_zero x
 constructor
 .intro h
  by_cases h0:x.num=0
  .rw[h2.1 h0];exact Rat.le_refl
  .have:¬ 0<=x:=fun hh=>by have:=h1.2 hh;omega
   grind
 .intro h
  by_cases h0:0<=x
  .have:x=0:=by grind
   rw[h2.2 this];omega
  .have:¬ 0<=x.num:=fun hh=>h0 (h1.1 hh)
   omega
theorem Q22 {x y:Rat}:Q11 x y<0<->x<y:=by
 unfold Q11
 split
 .simp[*]
 .split<;>simp[*]
theorem V54 {x y:Rat}:Q11 x y=0<->x=y:=by
 unfold Q11
 split
 .rename_i h
  simp only[Int.reduceNeg,Int.neg_eq_zero,Int.reduceEq,false_iff]
  intro e;rw[e] at h;exact absurd h (Rat.lt_irrefl)
 .split
  .rename_i h
   simp only[Int.reduceEq,false_iff]
   intro e;rw[e] at h;exact absurd h (Rat.lt_irrefl)
  .simp only[true_iff]
   grind
end Go.Clo
namespace Go.Proofs.YtpiobdofbhkmjaaDoor
open Go.Clo
theorem G74 {H:Y0} {nx lo p n m br cr gb bb cb sr sb c M:Nat} {bs:List Nat} {T:Lp.Tab} (h:TV H nx lo p n m br cr gb bb cb sr sb bs T) (hn:n<=20) (hm:m<=20) (hc:c<n+m+2)
  (hM:1<=M) (hS:∀ x,Lp.Sz (M*(M*M)) x->X4 x 100000) (hT:Lp.TSz m (n+m+2) M T):
  J2 Tryd.prog 97 [.pointer (some ⟨p,0,none⟩),.int .i64 (c:Int)] H nx fun v H' nx'=>D0 H nx H' nx' /\
   ((v = .int .i64 (-1)/\∀ i,i<m->T.a i c<=0)\/∃ r:Nat,v = .int .i64 (r:Int)/\Lp.Leaves m (n+m+1) T c r):=by
 have hMM:M<=M*(M*M):=by
  have:M*1<=M*(M*M):=Nat.mul_le_mul_left M (Nat.mul_pos hM hM)
  omega
 have hMM2:M*M<=M*(M*M):=Nat.mul_le_mul_left M (by have:M*1<=M*M:=Nat.mul_le_mul_left M hM;omega)
 have sA:∀ i q,i<m->q<n+m+2->X4 (T.a i q) 100000:=fun i q hi hq=>hS _ ((hT.1 i q hi hq).mono hMM)
 have sR:∀ i,i<m->X4 (T.a i (n+m+1)/T.a i c) 100000:=fun i hi=>hS _ (((hT.1 i _ hi (by omega)).div hM (hT.1 i c hi hc)).mono hMM2)
 have hp0:=h.hp
 unfold N11 at hp0
 have hpn:=h.pn
 have hrn:=h.rn
 have hbn:=h.bn
 refine spec97 ?_
 unfold F97
 have g1p:X0 (hs H nx (some (.cells [.bool false,.slice none 0 0,.slice none 0 0] 0))) p=_:=(M0 _ (by omega)).trans hp0
 simp (disch:=first|omega|assumption) only[W0,B0.val,g1p]
 have hE1:D0 H nx (hs H nx (some (.cells [.bool false,.slice none 0 0,.slice none 0 0] 0))) (nx+1):=(D0.refl H nx).new _ (Nat.le_refl _) (by omega)
 refine E1 (m:=m) (fun k L H' nx'=>∃ (i:Nat) (best:Int) (bc:List Value),k+i=m/\L=[.int .i64 best,.int .i64 (i:Int)]/\X0 H' nx=some (.cells bc 0)/\G9 bc/\nx<nx'/\D0 H nx H' nx' /\
  ((best = -1/\∀ k,k<i->T.a k c<=0)\/∃ r:Nat,best=(r:Int)/\r<i/\0<T.a r c/\RR H' nx' (.agg ⟨bc⟩) (T.a r (n+m+1)/T.a r c) /\
   ∀ k,k<i->0<T.a k c->T.a r (n+m+1)/T.a r c<T.a k (n+m+1)/T.a k c\/(T.a r (n+m+1)/T.a r c=T.a k (n+m+1)/T.a k c/\T.B r<=T.B k))) ?_
  ⟨0,-1,_,by omega,rfl,Q0 _ _ _,⟨_,_,_,_,_,_,_,rfl⟩,by omega,hE1,.inl ⟨rfl,fun k hk=>by omega⟩⟩
 rintro k ih L H2 nx2 ⟨i,best,bc,hk,rfl,g2,hbc,hnx,hE,hinv⟩ hih
 by_cases hi:i<m
 case neg=>
  have hi':¬ (i:Int)<(m:Int):=by omega
  obtain rfl:i=m:=by omega
  simp (disch:=first|omega|assumption) only[W0,hi']
  refine⟨hE,?_⟩
  rcases hinv with ⟨rfl,h1⟩ | ⟨r,rfl,h1,h2,h3,h4⟩
  .exact .inl ⟨rfl,h1⟩
  .exact .inr ⟨r,rfl,h1,h2,h4⟩
 have hi':(i:Int)<(m:Int):=by omega
 obtain⟨b,hbi,hrow⟩:=h.row hi
 obtain⟨css,hg,hbx,hl,hx⟩:=id (hrow.ext hE)
 have hgr:=(hE.get br hrn).trans h.hr
 have hgp:=(hE.get p hpn).trans hp0
 have hgb:=(hE.get bb hbn).trans h.hb
 obtain⟨cc,hcc⟩:∃ cc,css[c]? = some cc:=⟨css[c]'(by omega),List.getElem?_eq_getElem _⟩
 obtain⟨cR,hcR⟩:∃ cR,css[n+m+1]? = some cR:=⟨css[n+m+1]'(by omega),List.getElem?_eq_getElem _⟩
 have hccR:=hx c cc hcc
 have hcRR:=hx _ cR hcR
 rw[K3]
 simp (disch:=first|omega|assumption) only[W0,hi',hgr,G14 hbi,hg,U6 hx.three hcc]
 refine Y81 (J22 hccR ⟨by have:=(sA i c hi hc).1;omega,by have:=(sA i c hi hc).2;omega⟩) ?_
 rintro _ H4 nx4 H0 ⟨rfl,hE0⟩ hE04 htop
 have hE4:=hE0.trans hE04
 have hle4:=hE4.le
 have hleE:=hE.le
 have g4:=(hE4.get nx hnx).trans g2
 have g4p:=(hE4.get p (by omega)).trans hgp
 have g4b:=(hE4.get b hbx).trans hg
 have g4B:=(hE4.get bb (by omega)).trans hgb
 by_cases hpos:(T.a i c).num.sign<=0
 .have hle:=U69.1 hpos
  simp (disch:=first|omega|assumption) only[W0,hpos]
  refine hih (k-1) _ _ _ (by omega) ⟨i+1,best,bc,by omega,by simp,g4,hbc,by omega,hE.trans hE4,?_⟩
  rcases hinv with ⟨rfl,h1⟩ | ⟨r,rfl,h1,h2,h3,h4⟩
  .refine .inl ⟨rfl,fun q hq => ?_⟩
   by_cases e:q=i
   .rw[e];exact hle
   .exact h1 q (by omega)
  .refine .inr ⟨r,rfl,by omega,h2,h3.ext hE4,fun q hq hq0 => ?_⟩
   by_cases e:q=i
   .rw[e] at hq0;grind
   .exact h4 q (by omega) hq0
 have hgt:0<T.a i c:=by
  have:¬ T.a i c<=0:=fun hh=>hpos (U69.2 hh)
  grind
 simp (disch:=first|omega|assumption) only[W0,hpos]
 refine K0 (C24 (r:=[.slice (some ⟨br,0,none⟩) m cr,.slice (some ⟨gb,0,none⟩) (n+m+2) (n+m+2),.slice (some ⟨bb,0,none⟩) m cb]) g4p (by omega) (by omega)) ?_
 rintro _ H4 nx6 ⟨rfl,rfl,hle6⟩
 simp (disch:=first|omega|assumption) only[W0,g4b,U6 hx.three hcc,U6 hx.three hcR]
 have hE46:D0 H4 nx4 H4 nx6:=D0.self (by omega)
 have hne0:(T.a i c).num≠0:=fun e=>by
  have:=V47.1 e;grind
 refine K0 (B80 ((hcRR.ext hE4).ext hE46) ((hccR.ext hE4).ext hE46) (sA i _ hi (by omega)) (sA i c hi hc) hne0) ?_
 rintro _ H7 nx7 ⟨⟨u,rfl,hu⟩,hE7⟩
 have hle7:=hE7.le
 obtain⟨uc,rfl,huc⟩:=hu.num
 have g7q:X0 H7 (nx4+13)=none:=(hE7.get _ (by omega)).trans (htop _ (by omega))
 have g7n:=(hE7.get nx (by omega)).trans g4
 simp (disch:=first|omega|assumption) only[W0,Nat.reduceAdd,huc.three,huc.one,Z5 (show uc.length=[Value.bool false,.slice none 0 0,.slice none 0 0].length from huc.three),g7n,Q3 hbc,Q3 huc]
 have hE9:D0 H4 nx4 (hs (hs H7 (nx4+13) (some (.cells [.bool false,.slice none 0 0,.slice none 0 0] 0))) (nx4+13) (some (.cells uc 0))) nx7:=((hE7.less (show nx4<=nx6 by omega)).hs (by omega)).hs (by omega)
 have g9q:X0 (hs (hs H7 (nx4+13) (some (.cells [.bool false,.slice none 0 0,.slice none 0 0] 0))) (nx4+13) (some (.cells uc 0))) (nx4+13)=some (.cells uc 0):=Q0 _ _ _
 have hu9:RR (hs (hs H7 (nx4+13) (some (.cells [.bool false,.slice none 0 0,.slice none 0 0] 0))) (nx4+13) (some (.cells uc 0))) nx7 (.agg ⟨uc⟩) (T.a i (n+m+1)/T.a i c):=
  (hu.boxn g7q).boxs (Q0 _ _ _) (G10 _ _ _ _ _ _ _) (.inl rfl)
 generalize hs (hs H7 (nx4+13) (some (.cells [.bool false,.slice none 0 0,.slice none 0 0] 0))) (nx4+13) (some (.cells uc 0))=H9 at *
 have hle9:=hE9.le
 refine J6 (fun L H10 nx10=>∃ o:Int,L=[.int .i64 o]/\D0 H9 nx7 H10 nx10/\((best = -1/\o = -1)\/∃ r:Nat,best=(r:Int)/\o=Q11 (T.a i (n+m+1)/T.a i c) (T.a r (n+m+1)/T.a r c))) ?_ ?_
 .intro tj htj
  rcases hinv with ⟨rfl,h1⟩ | ⟨r,rfl,h1,h2,h3,h4⟩
  .have hb:¬ (0:Int) <= -1:=by omega
   simp (disch:=first|omega|assumption) only[W0,hb]
   exact htj _ _ _ ⟨-1,rfl,D0.refl _ _,.inl ⟨rfl,rfl⟩⟩
  .have hb:(0:Int)<=(r:Int):=by omega
   simp (disch:=first|omega|assumption) only[W0,hb]
   refine K0 (N20 hu9 ((h3.ext hE4).ext hE9) (sR i hi) (sR r (by omega))) ?_
   rintro _ H10 nx10 ⟨rfl,hE10⟩
   exact htj _ _ _ ⟨_,rfl,hE10,.inr ⟨r,rfl,rfl⟩⟩
 rintro L H10 nx10 ⟨o,rfl,hE10,ho⟩
 have hE410:=hE9.trans hE10
 have hle10:=hE410.le
 have g10n:=(hE410.get nx (by omega)).trans g4
 have g10q:=(hE10.get (nx4+13) (by omega)).trans g9q
 have g10p:=(hE410.get p (by omega)).trans g4p
 have g10B:=(hE410.get bb (by omega)).trans g4B
 have hE010:=hE.trans (hE4.trans hE410)
 refine J6 (fun L H12 nx12=>∃ t:Bool,L=[.bool t]/\H10=H12/\nx10+23=nx12/\(t=true<->o<0\/o=0/\∀ r:Nat,best=(r:Int)->T.B i<T.B r)) ?_ ?_
 .intro tj htj
  by_cases ho1:o<0
  .simp (disch:=first|omega|assumption) only[W0,ho1]
   exact htj _ _ _ ⟨true,rfl,rfl,rfl,by simp[ho1]⟩
  by_cases ho2:o=0
  .rcases hinv with ⟨rfl,h1⟩ | ⟨r,rfl,h1,h2,h3,h4⟩
   .rcases ho with ⟨_,rfl⟩ | ⟨r,h5,_⟩
    .omega
    .omega
   .have hlr:(r:Int)<(m:Int):=by omega
    simp (disch:=first|omega|assumption) only[W0,ho2,g10p,g10B,Q19 hi,Q19 (show r<m by omega)]
    refine htj _ _ _ ⟨_,rfl,rfl,rfl,?_⟩
    constructor
    .intro h
     refine .inr ⟨ho2,fun r' hr' => ?_⟩
     have:r=r':=by omega
     subst this
     have:=of_decide_eq_true h
     omega
    .rintro (h | ⟨_,h⟩)
     .omega
     .have:=h r rfl
      exact decide_eq_true (by omega)
  .simp (disch:=first|omega|assumption) only[W0,ho1,ho2]
   exact htj _ _ _ ⟨false,rfl,rfl,rfl,by simp[ho1,ho2]⟩
 rintro L _ _ ⟨t,rfl,rfl,rfl,ht⟩
 cases t with
 | true=>
  simp (disch:=first|omega|assumption) only[W0,g10q,Q3 huc,huc.three,huc.one,g10n,Z5 (show uc.length=bc.length by rw[huc.three,hbc.three]),hbc.three]
  have hE13:D0 H10 nx10 H10 (nx10+23+4):=D0.self (by omega)
  refine hih (k-1) _ _ _ (by omega) ⟨i+1,(i:Int),uc,by omega,by simp,Q0 _ _ _,huc,by omega,(hE010.trans hE13).hs (Nat.le_refl _),.inr ⟨i,rfl,by omega,hgt,((hu9.ext hE10).ext hE13).boxs g10n (D23 hbc) (.inl rfl),fun q hq hq0 => ?_⟩⟩
  by_cases e:q=i
  .subst e;exact .inr ⟨rfl,Nat.le_refl _⟩
  have ht:=ht.1 rfl
  have hqi:q<i:=by clear ho hinv ht;omega
  rcases hinv with ⟨rfl,h1⟩ | ⟨r,rfl,h1,h2,h3,h4⟩
  .have:=h1 q hqi
   clear ho ht
   grind
  .rcases ho with ⟨h5,_⟩ | ⟨r',h5,rfl⟩
   .omega
   have:r=r':=by omega
   subst this
   have h6:=h4 q (by omega) hq0
   rcases ht with ht | ⟨ht,ht2⟩
   .have:=Q22.1 ht
    left
    rcases h6 with h6 | ⟨h6,_⟩
    .grind
    .rw[<- h6];exact this
   .have h7:=V54.1 ht
    have h8:=ht2 r rfl
    rw[h7]
    rcases h6 with h6 | ⟨h6,h9⟩
    .exact .inl h6
    .exact .inr ⟨h6,by omega⟩
 | false=>
  simp (disch:=first|omega|assumption) only[W0]
  have hE13:D0 H10 nx10 H10 (nx10+23):=D0.self (by omega)
  rcases hinv with ⟨rfl,h1⟩ | ⟨r,rfl,h1,h2,h3,h4⟩
  .rcases ho with ⟨_,rfl⟩ | ⟨r,h5,_⟩
   .simp at ht
   .omega
  rcases ho with ⟨h5,_⟩ | ⟨r',h5,rfl⟩
  .omega
  have:r=r':=by omega
  subst this
  refine hih (k-1) _ _ _ (by omega) ⟨i+1,(r:Int),bc,by omega,by simp,g10n,hbc,by omega,hE010.trans hE13,.inr ⟨r,rfl,by omega,h2,((h3.ext hE4).ext hE410).ext hE13,fun q hq hq0 => ?_⟩⟩
  by_cases e:q=i
  .subst e
   have hn1:¬ (Q11 (T.a q (n+m+1)/T.a q c) (T.a r (n+m+1)/T.a r c)<0\/Q11 (T.a q (n+m+1)/T.a q c) (T.a r (n+m+1)/T.a r c)=0/\∀ r':Nat,(r:Int)=(r':Int)->T.B q<T.B r'):=fun hh=>absurd (ht.2 hh) (by decide)
   by_cases h6:T.a q (n+m+1)/T.a q c=T.a r (n+m+1)/T.a r c
   .refine .inr ⟨h6.symm,?_⟩
    refine Classical.byContradiction fun h7=>hn1 (.inr ⟨V54.2 h6,fun r' hr' => ?_⟩)
    have:r=r':=by omega
    subst this
    omega
   .left
    have h7:¬ T.a q (n+m+1)/T.a q c<T.a r (n+m+1)/T.a r c:=fun hh=>hn1 (.inl (Q22.2 hh))
    grind
  .exact h4 q (by omega) hq0
end Go.Proofs.YtpiobdofbhkmjaaDoor

namespace Go.Clo
theorem B91 {k K:Nat} (hk:k<32*K):2^k<4294967296^K:=by
 rw[show (4294967296:Nat)=2^32 from rfl,<- Nat.pow_mul]
 exact Nat.pow_lt_pow_right (by omega) hk
theorem G47 {x:Rat} {k:Nat} (h:Lp.Sz (2^k) x) (hk:k<32*99998):X4 x 100000:=by
 have hlt:=B91 hk
 exact⟨by have:=X7 (Nat.lt_of_le_of_lt h.1 hlt);omega,by have:=X7 (Nat.lt_of_le_of_lt h.2 hlt);omega⟩
theorem E68 {x:Rat} (h:Lp.Sz (2^Lp.expN 8*(2^Lp.expN 8*2^Lp.expN 8)) x):X4 x 100000:=by
 rw[<- Nat.pow_add,<- Nat.pow_add] at h
 have h8:Lp.expN 8=21845:=rfl
 exact G47 h (by omega)
theorem W71 {x:Rat}:0<=x.num.sign<->0<=x:=by
 rw[<- Rat.num_nonneg,Int.sign_nonneg_iff]
end Go.Clo
namespace Go.Proofs.YtpiobdofbhkmjaaDoor
open Go.Clo
theorem Z68 {H:Y0} {nx lo p n m br cr gb bb cb sr sb:Nat} {bs:List Nat} {s:Nat->Nat->Bool} (h:TV H nx lo p n m br cr gb bb cb sr sb bs (Lp.tabK n m s 0)) (hn:n<=20) (hm:m<=8)
  (hcov:∀ v,v<n->∃ r,r<m/\s r v=true) (hlo:lo<=nx):
  J2 Tryd.prog 80 [.pointer (some ⟨p,0,none⟩),.int .i64 ((n+m:Nat):Int)] H nx fun v H' nx'=>v = .tuple ⟨[.int .i64 0,.bool true]⟩/\nx<=nx'/\D0 H lo H' nx' /\
   ∃ gb' bs',TV H' nx' lo p n m br cr gb' bb cb sr sb bs' (Lp.tabK n m s (Lp.steps n m s)):=by
 have hM:1<=2^Lp.expN 8:=Nat.two_pow_pos _
 refine spec80 ?_
 unfold F80
 refine E1 (m:=Lp.steps n m s) (fun M L H' nx'=>∃ (k gb':Nat) (bs':List Nat),M+k=Lp.steps n m s/\nx<=nx'/\D0 H lo H' nx'/\TV H' nx' lo p n m br cr gb' bb cb sr sb bs' (Lp.tabK n m s k)) ?_
  ⟨0,gb,bs,by omega,Nat.le_refl _,D0.self hlo,h⟩
 rintro M ih1 L1 H1 nx1 ⟨k,gb1,bs1,hM1,hle1,hE1,h1⟩ hih1
 have hk:k<=Lp.steps n m s:=by omega
 have hcan:=Lp.tabK_can hk
 have hsz:=Lp.tabK_sz hm hk
 have heq:=Lp.tabK_eqv hk
 refine E1 (m:=n+m) (fun q L H' nx'=>∃ j:Nat,q+j=n+m/\L=[.int .i64 (j:Int)]/\D0 H1 nx1 H' nx'/\∀ i,i<j->0<=(Lp.tabK n m s k).g i) ?_ ⟨0,by omega,rfl,D0.refl _ _,fun i hi=>by omega⟩
 rintro q ih2 L2 H2 nx2 ⟨j,hq,rfl,hE2,hj⟩ hih2
 have h2:=h1.ext hE2
 have hle2:=hE2.le
 have hE02:D0 H lo H2 nx2:=hE1.trans (hE2.less (by have:=hE1.le;omega))
 by_cases hjn:j<n+m
 case neg=>
  have hj':¬ (j:Int)<((n+m:Nat):Int):=by omega
  obtain rfl:j=n+m:=by omega
  have hlast:=Lp.tabK_last hk hj
  simp (disch:=first|omega|assumption) only[W0,hj']
  refine⟨by omega,hE02,gb1,bs1,?_⟩
  rw[<- hlast];exact h2
 have hj':(j:Int)<((n+m:Nat):Int):=by omega
 have hp0:=h2.hp
 unfold N11 at hp0
 obtain⟨css,hg,hgn,hl,hx⟩:=id h2.goal
 obtain⟨cc,hcc⟩:∃ cc,css[j]? = some cc:=⟨css[j]'(by omega),List.getElem?_eq_getElem _⟩
 have hccR:=hx j cc hcc
 have hsj:=G47 (hsz.2 j (by omega)) (show Lp.expN 8<32*99998 by decide)
 simp (disch:=first|omega|assumption) only[W0,hj',hp0,hg,U6 hx.three hcc]
 refine K0 (J22 hccR ⟨by have:=hsj.1;omega,by have:=hsj.2;omega⟩) ?_
 rintro _ H3 nx3 ⟨rfl,hE3⟩
 have h3:=h2.ext hE3
 have hle3:=hE3.le
 by_cases hs:0<=((Lp.tabK n m s k).g j).num.sign
 .have hge:=W71.1 hs
  simp (disch:=first|omega|assumption) only[W0,hs]
  refine hih2 (q-1) _ _ _ (by omega) ⟨j+1,by omega,by simp,hE2.trans hE3,fun i hi => ?_⟩
  by_cases e:i=j
  .rw[e];exact hge
  .exact hj i (by omega)
 have hlt:(Lp.tabK n m s k).g j<0:=by
  have:¬ 0<=(Lp.tabK n m s k).g j:=fun hh=>hs (W71.2 hh)
  grind
 have hent:Lp.Enters (n+m) (Lp.tabK n m s k) j:=⟨hjn,hlt,hj⟩
 simp (disch:=first|omega|assumption) only[W0,hs]
 refine K0 (G74 h3 hn (by omega) (show j<n+m+2 by omega) hM (fun _=>E68) hsz) ?_
 rintro _ H4 nx4 ⟨hE4,⟨rfl,hall⟩ | ⟨r,rfl,hlv⟩⟩
 .obtain⟨i,hi,hpos⟩:=Lp.bounded hcov hcan heq hjn
  have:=hall i hi
  grind
 have h4:=h3.ext hE4
 have hle4:=hE4.le
 have hr0:¬ (r:Int)<0:=by omega
 simp (disch:=first|omega|assumption) only[W0,hr0]
 have hne:(Lp.tabK n m s k).a r j≠0:=by have:=hlv.2.1;grind
 have hE04:D0 H lo H4 nx4:=(hE02.trans (hE3.less (by have:=hE02.le;omega))).trans (hE4.less (by have:=hE02.le;omega))
 obtain⟨hlt2,hnext⟩:=Lp.tabK_next hk hent hlv
 refine K0 (M84 h4 hn (by omega) hlv.1 (show j<n+m+2 by omega) hne hM (fun _=>E68) hsz (by have:=hE04.le;omega)) ?_
 rintro _ H5 nx5 ⟨rfl,hle5,hE5,gb5,bs5,h5⟩
 refine hih1 (M-1) _ _ _ (by omega) ⟨k+1,gb5,bs5,by omega,by omega,hE04.both hE5,?_⟩
 rw[hnext];exact h5
end Go.Proofs.YtpiobdofbhkmjaaDoor
