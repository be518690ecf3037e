/-
  Plain: the run of first is the greedy choice;components of the variables that are not free.
  Plain: ██ Best returns the first permutation of least width. ██
  Plain: ██ Best's answer: the first permutation of least width. ██
-/
import Derived.Test.YtpiobdofbhkmjaaDoorL44
set_option linter.unusedSimpArgs false
set_option linter.unusedVariables false
set_option linter.unusedSectionVars false
namespace Go.Proofs.YtpiobdofbhkmjaaDoor
open Go.Clo
variable {N c f v:Nat}
section
variable {es nb:List Nat} {N:Nat} {cs:List Nat} {W:Rat}
theorem K48 {l:Nat}:V18 es nb N W c l v=true<->l.testBit v=true/\C6 es nb N c v l<=W/\V10 N (C6 es nb N c) (M2 l (2^v))<=W:=by
 unfold V18
 simp only[Bool.and_eq_true,decide_eq_true_eq]
theorem M58 {lefts:List Nat} {v:Nat}:∀ (f i:Nat),(∀ j,W24 es nb N W cs lefts v f i=some j->i<=j/\j<i+f/\V18 es nb N W (cs.getD j 0) (lefts.getD j 0) v=true) /\
  (W24 es nb N W cs lefts v f i=none->∀ j,i<=j->j<i+f->V18 es nb N W (cs.getD j 0) (lefts.getD j 0) v=false)
 | 0,i=>⟨fun j h=>(by cases h),fun _ j h1 h2=>by omega⟩
 | f+1,i=>by
  obtain⟨h1,h2⟩:=@M58 lefts v f (i+1)
  have e:W24 es nb N W cs lefts v (f+1) i=if V18 es nb N W (cs.getD i 0) (lefts.getD i 0) v=true then some i else W24 es nb N W cs lefts v f (i+1):=rfl
  rw[e]
  by_cases hb:V18 es nb N W (cs.getD i 0) (lefts.getD i 0) v=true
  .rw[if_pos hb]
   refine⟨fun j h => ?_,fun h=>by cases h⟩
   cases h
   exact⟨Nat.le_refl _,by omega,hb⟩
  .rw[if_neg hb]
   refine⟨fun j h => ?_,fun h j a1 a2 => ?_⟩
   .obtain⟨a1,a2,a3⟩:=h1 j h
    exact⟨by omega,by omega,a3⟩
   .by_cases e:j=i
    .subst e;simpa using hb
    .exact h2 h j (by omega) (by omega)
theorem R57 {lefts:List Nat} {v0 i0:Nat} (hv0:v0<N) (hi0:i0<lefts.length) (hfit:V18 es nb N W (cs.getD i0 0) (lefts.getD i0 0) v0=true) (hmin:∀ v i,v<v0->i<lefts.length->V18 es nb N W (cs.getD i 0) (lefts.getD i 0) v=false):
  ∀ (f w:Nat),f+w=N->w<=v0->∃ i,X35 es nb N W cs lefts f w=some (v0,i)/\i<lefts.length/\V18 es nb N W (cs.getD i 0) (lefts.getD i 0) v0=true
 | 0,w,h1,h2=>by omega
 | f+1,w,h1,h2=>by
  obtain⟨a1,a2⟩:=@M58 es nb N cs W lefts w lefts.length 0
  have e:X35 es nb N W cs lefts (f+1) w=match W24 es nb N W cs lefts w lefts.length 0 with
   | some i=>some (w,i)
   | none=>X35 es nb N W cs lefts f (w+1):=rfl
  rw[e]
  cases hfi:W24 es nb N W cs lefts w lefts.length 0 with
  | some i=>
   obtain⟨b1,b2,b3⟩:=a1 i hfi
   by_cases ew:w=v0
   .subst ew;exact⟨i,rfl,by omega,b3⟩
   .have:=hmin w i (by omega) (by omega)
    rw[b3] at this;cases this
  | none=>
   have b:=a2 hfi i0 (by omega) (by omega)
   have ew:w≠v0:=fun ew=>by rw[ew,hfit] at b;cases b
   exact R57 hv0 hi0 hfit hmin f (w+1) (by omega) (by omega)
noncomputable def G55 (es nb:List Nat) (N:Nat) (W:Rat) (cs:List Nat):Nat->List Int × List Nat->List Int × List Nat
 | 0,s=>s
 | n+1,s=>G55 es nb N W cs n (N19 es nb N W cs s)
theorem V59:∀ (n:Nat) (s:List Int × List Nat),N19 es nb N W cs (G55 es nb N W cs n s)=G55 es nb N W cs (n+1) s
 | 0,_=>rfl
 | n+1,s=>V59 n _
theorem B68:∀ n,B15 es nb N W cs n=G55 es nb N W cs n ([],cs)
 | 0=>rfl
 | n+1=>by
  show N19 es nb N W cs (B15 es nb N W cs n)=_
  rw[B68 n,V59]
theorem J37 {i:Nat} {g:Nat->Nat} (h:cs[i]? = some c):(cs.map g).getD i 0=g c:=by simp[List.getD_eq_getElem?_getD,h]
theorem R68 (h:R25 N cs) (hW:0<=W):∀ (n:Nat) (l rest:List Nat),rest.length=n->(∀ v,v ∈ rest<->∃ c ∈ cs,(M9 c l).testBit v=true)->rest.Pairwise (· < ·)->R24 es nb N cs W l ->
  (G55 es nb N W cs n (l.map (fun (x:Nat)=>(x:Int)),cs.map (M9 · l))).1=(gre es nb N cs W n l rest).map fun (x:Nat)=>(x:Int)
 | 0,l,rest,hn,hr,hnd,hF=>rfl
 | n+1,l,rest,hn,hr,hnd,hF=>by
  have hex:∃ v ∈ rest,OKp es nb N cs W l v:=by
   obtain⟨r0,hr0⟩:∃ r0,r0 ∈ rest:=by
    cases rest with
    | nil=>simp at hn
    | cons a r=>exact⟨a,by simp⟩
   obtain⟨c,hc,hb⟩:=(hr r0).1 hr0
   obtain⟨v,hv⟩:=U81 h hW hF hc (fun e=>by rw[e] at hb;simp at hb)
   have hv':=hv
   obtain⟨d,hd,hdb,_⟩:=hv'
   exact⟨v,(hr v).2 ⟨d,hd,hdb⟩,hv⟩
  have hfind:∃ v,(open Classical in rest.find? fun v=>decide (OKp es nb N cs W l v))=some v/\v ∈ rest/\OKp es nb N cs W l v/\∀ u,OKp es nb N cs W l u->v<=u:=by
   have key:∀ r:List Nat,r.Pairwise (· < ·)->(∃ v ∈ r,OKp es nb N cs W l v)->∃ v,(open Classical in r.find? fun v=>decide (OKp es nb N cs W l v))=some v/\v ∈ r/\OKp es nb N cs W l v/\∀ u ∈ r,OKp es nb N cs W l u->v<=u:=by
    intro r
    induction r with
    | nil=>rintro _ ⟨v,hv,_⟩;simp at hv
    | cons a r ih=>
     intro hp hexr
     rw[List.pairwise_cons] at hp
     by_cases hok:OKp es nb N cs W l a
     .refine⟨a,by simp[hok],by simp,hok,fun u hu _ => ?_⟩
      rcases List.mem_cons.1 hu with rfl | hu
      .exact Nat.le_refl _
      .exact Nat.le_of_lt (hp.1 u hu)
     .obtain⟨v,hv,hvo⟩:=hexr
      have hvr:v ∈ r:=by
       rcases List.mem_cons.1 hv with rfl | hv
       .exact absurd hvo hok
       .exact hv
      obtain⟨x,x1,x2,x3,x4⟩:=ih hp.2 ⟨v,hvr,hvo⟩
      refine⟨x,by simp[hok];simpa using x1,by simp[x2],x3,fun u hu huo => ?_⟩
      rcases List.mem_cons.1 hu with rfl | hu
      .exact absurd huo hok
      .exact x4 u hu huo
   obtain⟨v,a1,a2,a3,a4⟩:=key rest hnd hex
   refine⟨v,a1,a2,a3,fun u hu=>a4 u ?_ hu⟩
   obtain⟨d,hd,hdb,_⟩:=hu
   exact (hr u).2 ⟨d,hd,hdb⟩
  obtain⟨v,x1,x2,x3,x4⟩:=hfind
  have eg:gre es nb N cs W (n+1) l rest=gre es nb N cs W n (l++[v]) (rest.erase v):=by
   show (match (open Classical in rest.find? fun v=>decide (OKp es nb N cs W l v)) with | some v=>gre es nb N cs W n (l++[v]) (rest.erase v) | none=>l)=_
   rw[x1]
  have x3':=x3
  obtain⟨c,hc,b1,b2,b3⟩:=x3'
  obtain⟨i0,hi0,hci⟩:=List.getElem_of_mem hc
  have hcs:cs[i0]? = some c:=by rw[List.getElem?_eq_getElem hi0,hci]
  have hvN:v<N:=X11 (Z51 (h.lt c hc) l) b1
  have hD:∀ i c,cs[i]? = some c->cs.getD i 0=c:=fun i c h=>by simp[List.getD_eq_getElem?_getD,h]
  obtain⟨i,f1,f2,f3⟩:=R57 (es:=es) (nb:=nb) (N:=N) (W:=W) (cs:=cs) (lefts:=cs.map (M9 · l)) (v0:=v) (i0:=i0) hvN (by simpa using hi0) (by
    rw[K48,J37 hcs,hD _ _ hcs];exact⟨b1,b2,b3⟩) (fun u j hu hj=>by
    cases hb:V18 es nb N W (cs.getD j 0) ((cs.map (M9 · l)).getD j 0) u with
    | false=>rfl
    | true=>
     rw[List.length_map] at hj
     have hcj:cs[j]? = some cs[j]:=List.getElem?_eq_getElem hj
     rw[K48,J37 hcj,hD _ _ hcj] at hb
     have:=x4 u ⟨cs[j],List.getElem_mem _,hb⟩
     omega) N 0 (by omega) (by omega)
  have hstep:N19 es nb N W cs (l.map (fun (x:Nat)=>(x:Int)),cs.map (M9 · l))=((l++[v]).map (fun (x:Nat)=>(x:Int)),cs.map (M9 · (l++[v]))):=by
   unfold N19
   dsimp only
   rw[f1]
   dsimp only
   rw[List.length_map] at f2
   have hcj:cs[i]? = some cs[i]:=List.getElem?_eq_getElem f2
   rw[K48,J37 hcj] at f3
   have e1:l.map (fun (x:Nat)=>(x:Int))++[(v:Int)]=(l++[v]).map fun (x:Nat)=>(x:Int):=by simp
   rw[e1,J37 hcj]
   congr 1
   apply List.ext_getElem?
   intro j
   rw[List.getElem?_set,List.length_map,List.getElem?_map,List.getElem?_map]
   by_cases e:i=j
   .subst e
    rw[if_pos rfl,if_pos f2,hcj]
    simp[J15]
   .rw[if_neg e]
    cases hcj2:cs[j]? with
    | none=>rfl
    | some d=>
     simp only[Option.map_some]
     congr 1
     have hne:d≠cs[i]:=fun hd=>by
      rcases Nat.lt_or_gt_of_ne e with g | g
      .have:=List.pairwise_iff_getElem.1 h.dis i j f2 (Q12 hcj2) g v (E24 _ f3.1)
       rw[(List.getElem?_eq_some_iff.1 hcj2).2,hd,E24 _ f3.1] at this;cases this
      .have:=List.pairwise_iff_getElem.1 h.dis j i (Q12 hcj2) f2 g v (by rw[(List.getElem?_eq_some_iff.1 hcj2).2,hd];exact E24 _ f3.1)
       rw[E24 _ f3.1] at this;cases this
     exact (h.other (List.getElem_mem f2) (List.mem_of_getElem? hcj2) hne f3.1).symm
  show (G55 es nb N W cs n (N19 es nb N W cs _)).1=_
  rw[hstep,eg]
  refine R68 h hW n (l++[v]) (rest.erase v) (by rw[List.length_erase_of_mem x2];omega) (fun u => ?_) (hnd.sublist List.erase_sublist) (K58 h hF x3)
  have hnd2:rest.Nodup:=hnd.imp fun h=>Nat.ne_of_lt h
  rw[hnd2.mem_erase_iff,hr u]
  constructor
  .rintro⟨h1,c,h2,h3⟩
   refine⟨c,h2,?_⟩
   rw[J15,N3,h3,Nat.testBit_two_pow];simp[Ne.symm h1]
  .rintro⟨c,h2,h3⟩
   rw[J15,N3,Nat.testBit_two_pow,Bool.and_eq_true] at h3
   refine⟨fun e => ?_,c,h2,h3.1⟩
   rw[e] at h3;simp at h3
end
def B11 (N f:Nat):List Nat:=(List.range (N-f)).map fun j=>f+j
theorem D29:v ∈ B11 N f<->f<=v/\v<N:=by
 unfold B11
 simp only[List.mem_map,List.mem_range]
 constructor
 .rintro⟨j,h,rfl⟩;omega
 .rintro⟨h1,h2⟩;exact⟨v-f,by omega,by omega⟩
theorem G15 (N f:Nat):(B11 N f).Pairwise (· < ·):=by
 unfold B11
 rw[List.pairwise_map]
 exact List.pairwise_lt_range.imp fun h=>by omega
theorem N18 {es:List Nat} {N f:Nat} (hN:N<=6):R25 N (E5 es N f)/\(∀ v,v ∈ B11 N f<->∃ c ∈ E5 es N f,c.testBit v=true)/\(∀ c ∈ E5 es N f,∀ u w,c.testBit u=true->f<=u->f<=w->adj es u w=true->w<N->c.testBit w=true) /\
  (∀ c ∈ E5 es N f,∀ w,c.testBit w=true->f<=w/\w<N):=by
 obtain⟨h1,h2,h3⟩:=N39 (es:=Y13 es (bnd N f)) hN
 have hadj:∀ u w,adj (Y13 es (bnd N f)) u w=true<->adj es u w=true/\(bnd N f).testBit u=true/\(bnd N f).testBit w=true:=by
  intro u w
  unfold adj
  simp only[Bool.and_eq_true,decide_eq_true_eq,List.any_eq_true,Y13,List.mem_filterMap]
  constructor
  .rintro⟨h0,e,⟨x,hx,hxe⟩,a1,a2⟩
   split at hxe
   .cases hxe
   .cases hxe
    rw[Nat.testBit_and,Bool.and_eq_true] at a1 a2
    exact⟨⟨h0,x,hx,a1.1,a2.1⟩,a1.2,a2.2⟩
  .rintro⟨⟨h0,x,hx,a1,a2⟩,b1,b2⟩
   refine⟨h0,x &&& bnd N f,⟨x,hx,?_⟩,by rw[Nat.testBit_and,a1,b1];rfl,by rw[Nat.testBit_and,a2,b2];rfl⟩
   rw[if_neg]
   intro e
   have:(x &&& bnd N f).testBit u=true:=by rw[Nat.testBit_and,a1,b1];rfl
   rw[e] at this;simp at this
 have hin:∀ c ∈ E5 es N f,c ∈ U21 (Y13 es (bnd N f)) N/\∃ w,c.testBit w=true/\f<=w/\w<N:=fun c hc=>by
  obtain⟨a1,a2⟩:=List.mem_filter.1 hc
  refine⟨a1,?_⟩
  obtain⟨w,hw⟩:=W13 (of_decide_eq_true a2)
  rw[Nat.testBit_and,Bool.and_eq_true] at hw
  obtain⟨b1,b2⟩:=U29.1 hw.2
  exact⟨w,hw.1,b2,b1⟩
 have hbits:∀ c ∈ E5 es N f,∀ w,c.testBit w=true->f<=w/\w<N:=fun c hc w hw=>by
  obtain⟨a1,u,a2,a3,a4⟩:=hin c hc
  obtain⟨v,hv,hI⟩:=h1 c a1
  have hvb:f<=v:=by
   refine Classical.byContradiction fun hn => ?_
   have:=hI.least (fun x=>x=v) rfl (fun x y hx hy=>by
    subst hx
    have:=((Z17 (by omega)).1 hy).2.2
    have:=((hadj _ _).1 this).2.1
    have:=(U29.1 this).2
    omega) u a2
   omega
  have:=hI.least (fun x=>f<=x/\x<N) ⟨hvb,hv⟩ (fun x y hx hy=>by
   have:=((Z17 (by omega)).1 hy).2.2
   have:=U29.1 ((hadj _ _).1 this).2.2
   omega) w hw
  exact this
 refine⟨⟨fun c hc => ?_,?_⟩,fun v => ?_,fun c hc u w hu hfu hfw ha hw => ?_,hbits⟩
 .obtain⟨a1,_⟩:=hin c hc
  obtain⟨v,hv,hI⟩:=h1 c a1
  exact hI.lt
 .exact h2.filter _
 .rw[D29]
  constructor
  .rintro⟨a1,a2⟩
   obtain⟨c,b1,b2⟩:=(h3 v).1 a2
   refine⟨c,List.mem_filter.2 ⟨b1,?_⟩,b2⟩
   simp only[ne_eq,decide_not,Bool.not_eq_true',decide_eq_false_iff_not]
   intro e
   have:(c &&& bnd N f).testBit v=true:=by rw[Nat.testBit_and,b2,U29.2 ⟨a2,a1⟩];rfl
   rw[e] at this;simp at this
  .rintro⟨c,b1,b2⟩
   exact hbits c b1 v b2
 .obtain⟨a1,_⟩:=hin c hc
  obtain⟨v,hv,hI⟩:=h1 c a1
  have hu2:=(hbits c hc u hu).2
  exact hI.closed u w hu ((Z17 (by omega)).2 ⟨hu2,hw,(hadj u w).2 ⟨ha,U29.2 ⟨hu2,hfu⟩,U29.2 ⟨hw,hfw⟩⟩⟩)
end Go.Proofs.YtpiobdofbhkmjaaDoor

namespace Go.Proofs.YtpiobdofbhkmjaaDoor
open Go.Clo
variable {W:Rat} {b:Bag} {es l:List Nat} {v:Nat}
theorem U37 (es:List Nat) (N set:Nat):M10 es N set=Lp.valT (Y4 N set).length (Q4 es set).length (sP es N set):=rfl
section
variable {es:List Nat} {N set:Nat}
theorem M78 (hcov:∀ v,set.testBit v=true->∃ e ∈ es,e.testBit v=true) (h0:0<(Y4 N set).length):1<=M10 es N set:=by
 rw[U37]
 exact Lp.val_ge (fun v hv=>B35 hcov hv) h0
theorem D78 (hcov:∀ v,set.testBit v=true->∃ e ∈ es,e.testBit v=true) (h0:0<(Y4 N set).length) (hin:J31 es set=true):M10 es N set=1:=by
 have h1:=M78 hcov h0
 have h2:M10 es N set<=1:=by
  obtain⟨e,he,hz⟩:=List.any_eq_true.1 hin
  have hz:=of_decide_eq_true hz
  have hes:e &&& set=set:=by
   apply Nat.eq_of_testBit_eq
   intro w
   rw[Nat.testBit_and]
   cases hw:set.testBit w with
   | false=>simp
   | true=>rw[V17.1 hz w hw];rfl
  have hne:e &&& set≠0:=by
   rw[hes]
   intro e0
   rw[e0] at h0
   simp[Y4] at h0
  have hm:set ∈ Q4 es set:=by
   have:=U40 set e hne es [] he
   rw[hes] at this
   exact this
  obtain⟨r,hr,hre⟩:=List.getElem_of_mem hm
  rw[U37]
  refine Lp.val_le (fun v hv=>B35 hcov hv) hr fun j hj => ?_
  unfold sP
  have e1:(Q4 es set).getD r 0=set:=by simp[List.getD_eq_getElem?_getD,List.getElem?_eq_getElem hr,hre]
  have e2:(Y4 N set).getD j 0=(Y4 N set)[j]:=by simp[List.getD_eq_getElem?_getD,List.getElem?_eq_getElem hj]
  rw[e1,e2]
  exact (G31.1 (List.getElem_mem hj)).2
 grind
theorem B55 (hcov:∀ v,set.testBit v=true->∃ e ∈ es,e.testBit v=true) (h0:0<(Y4 N set).length):Q21 es N set=M10 es N set:=by
 unfold Q21
 split
 .rename_i h;exact (D78 hcov h0 h).symm
 .rfl
theorem B78 (hcov:∀ v,set.testBit v=true->∃ e ∈ es,e.testBit v=true) (hle:es.length<=8):M10 es N set<=8:=by
 rw[U37]
 have h1:=Lp.val_small (n:=(Y4 N set).length) (m:=(Q4 es set).length) (s:=sP es N set) (fun v hv=>B35 hcov hv)
 have hm:(Q4 es set).length<=8:=by have:=D33 set es [];simp[Q4] at this ⊢;omega
 have h2:(((Q4 es set).length:Nat):Rat)<=((8:Nat):Rat):=by exact_mod_cast hm
 have h3:((8:Nat):Rat)=8:=rfl
 rw[h3] at h2
 grind
end
theorem R21 {α:Type} {g:α->Rat} {W:Rat}:∀ {l:List α} {x:Rat},l.foldl (fun w b=>gr w (g b)) x<=W<->x<=W/\∀ b ∈ l,g b<=W
 | [],x=>by simp
 | a :: l,x=>by
  rw[List.foldl_cons,R21,V52]
  simp only[List.mem_cons,forall_eq_or_imp,and_assoc]
noncomputable def wdI (es:List Nat) (N:Nat) (bs:List Bag) (i:Nat):Rat:=(bs.take i).foldl (fun w b=>gr w (M10 es N (X6 b))) 0
noncomputable def wid (es:List Nat) (N f:Nat) (l:List Nat):Rat:=wdI es N (Q9 es N f (l.map fun (x:Nat)=>(x:Int))) N
def gdp (es:List Nat) (N f:Nat) (W:Rat) (l:List Nat):Prop:=∀ p1 v p2,l=p1++v :: p2->Cst es (E4 es N) N (E5 es N f) W p1 v
theorem Z88 {N f:Nat}:gdp es N f W (l++[v])<->gdp es N f W l/\Cst es (E4 es N) N (E5 es N f) W l v:=by
 constructor
 .intro h
  exact⟨fun p1 u p2 e=>h p1 u (p2++[v]) (by rw[e];simp),h l v [] rfl⟩
 .rintro⟨h1,h2⟩ p1 u p2 e
  rcases List.eq_nil_or_concat p2 with rfl | ⟨q,x,rfl⟩
  .have:=List.append_inj' (s₁:=l) (t₁:=[v]) (s₂:=p1) (t₂:=[u]) e rfl
   obtain⟨rfl,e2⟩:=this
   cases e2
   exact h2
  .have e3:p1++u :: (q++[x])=(p1++u :: q)++[x]:=by simp
   rw[List.concat_eq_append,e3] at e
   have:=List.append_inj' (s₁:=l) (t₁:=[v]) e rfl
   exact h1 p1 u q this.1
theorem Z87 {P Q:Nat->Prop} (h:∀ x,P x<->Q x) {w:Nat}:RB es P v w<->RB es Q v w:=by
 have e:P=Q:=funext fun x=>propext (h x)
 rw[e]
section
variable {es:List Nat} {N f:Nat}
structure IsP (N f:Nat) (l:List Nat):Prop where
 nd:l.Nodup
 mem:∀ v,v ∈ l<->f<=v/\v<N
theorem IsP.len (h:IsP N f l):l.length=N-f:=by
 have hp:l.Perm (B11 N f):=(List.perm_ext_iff_of_nodup h.nd ((G15 N f).imp fun h=>Nat.ne_of_lt h)).2 fun v=>by rw[h.mem,D29]
 rw[hp.length_eq]
 simp[B11]
theorem IsP.ok (h:IsP N f l) (hf:f<=N):M15 (l.map fun (x:Nat)=>(x:Int)) f N:=by
 refine⟨by rw[List.length_map,h.len];omega,fun x hx => ?_,?_⟩
 .obtain⟨y,hy,rfl⟩:=List.mem_map.1 hx
  have:=(h.mem y).1 hy
  omega
 .unfold List.Nodup
  rw[List.pairwise_map]
  exact List.Pairwise.imp (fun {a b} h e=>h (by omega)) h.nd
theorem G30 (l:List Nat):Y39 N f (l.map fun (x:Nat)=>(x:Int))=l++(E8 f f).map Int.toNat:=by
 unfold Y39
 rw[List.map_append,List.map_map]
 congr 1
 simp[Function.comp_def]
theorem E88:IsP N f (B11 N f):=⟨(G15 N f).imp fun h=>Nat.ne_of_lt h,fun v=>D29⟩
theorem J70:upK f (N-f)=(B11 N f).map fun (x:Nat)=>(x:Int):=by
 unfold upK B11
 rw[List.map_map];rfl
theorem G77 {b':Bag} (h:∀ w,(X6 b).testBit w=true<->(X6 b').testBit w=true):X6 b=X6 b':=by
 apply Nat.eq_of_testBit_eq
 intro w
 rw[Bool.eq_iff_iff];exact h w
theorem Z86 (hN:N<=6) (hsm:∀ e ∈ es,e<2^N) (hf:f<=N) {l':List Nat} (h:IsP N f l) (h':IsP N f l') {i:Nat} (hi:i<f):∃ b b',(Q9 es N f (l.map fun (x:Nat)=>(x:Int)))[i]? = some b/\(Q9 es N f (l'.map fun (x:Nat)=>(x:Int)))[i]? = some b'/\X6 b=X6 b':=by
 have hmem:i ∈ (E8 f f).map Int.toNat:=by
  obtain⟨order,h1,h2,h3,h4⟩:=C27 (h.ok hf)
  obtain rfl:=E42 (n:=N) h1
  have:=G32 h2 h3 h4 (show i<N by omega)
  rw[G30,List.mem_append] at this
  rcases this with h5 | h5
  .have:=(h.mem i).1 h5;omega
  .exact h5
 obtain⟨q1,q2,e⟩:=List.append_of_mem hmem
 obtain⟨b,a1,a2⟩:=K26 (n:=N) (f:=f) (by omega) hsm (h.ok hf) (p1:=l++q1) (p2:=q2) (v:=i) (by rw[G30,e];simp)
 obtain⟨b',c1,c2⟩:=K26 (n:=N) (f:=f) (by omega) hsm (h'.ok hf) (p1:=l'++q1) (p2:=q2) (v:=i) (by rw[G30,e];simp)
 refine⟨b,b',a1,c1,G77 fun w => ?_⟩
 rw[a2,c2]
 exact Z87 fun x=>by rw[List.mem_append,List.mem_append,h.mem,h'.mem]
theorem Y60 (hN:N<=6) (hsm:∀ e ∈ es,e<2^N) (hf:f<=N) (h:IsP N f l) {p1 p2:List Nat} {c:Nat} (e:l=p1++v :: p2) (hc:c ∈ E5 es N f) (hv:(M9 c p1).testBit v=true):
  ∃ b,(Q9 es N f (l.map fun (x:Nat)=>(x:Int)))[v]? = some b/\X6 b=Z31 (E4 es N) N v c (M9 c p1):=by
 obtain⟨hp,hp2,hp3,hp4⟩:=N18 (es:=es) (f:=f) hN
 have hcv:=E24 _ hv
 obtain⟨hfv,hvN⟩:=hp4 c hc v hcv
 obtain⟨b,a1,a2⟩:=K26 (n:=N) (f:=f) (by omega) hsm (h.ok hf) (p1:=p1) (p2:=p2++(E8 f f).map Int.toNat) (v:=v) (by rw[G30,e];simp)
 refine⟨b,a1,?_⟩
 apply Nat.eq_of_testBit_eq
 intro w
 have hP:∀ x,(M2 c (M9 c p1)).testBit x=true<->c.testBit x=true/\x ∈ p1:=fun x=>by
  rw[N3,Bool.and_eq_true]
  constructor
  .rintro⟨h1,h2⟩
   refine⟨h1,Classical.byContradiction fun hn => ?_⟩
   rw[R28.2 ⟨h1,hn⟩] at h2;simp at h2
  .rintro⟨h1,h2⟩
   refine⟨h1,?_⟩
   cases hb:(M9 c p1).testBit x with
   | false=>rfl
   | true=>exact absurd h2 (R28.1 hb).2
 have hbd:∀ x,x ∈ p1->f<=x/\x<N:=fun x hx=>(h.mem x).1 (by rw[e];simp[hx])
 have hgone:(M2 c (M9 c p1)).testBit v=false:=by rw[N3,hv];simp
 rw[Bool.eq_iff_iff,a2,G85 hN hsm hvN hgone]
 have hadj:∀ u w,c.testBit u=true->R18 es u w->f<=w->c.testBit w=true:=fun u w hu ha hw=>hp3 c hc u w hu (hp4 c hc u hu).1 hw ha (X53 hsm ha).2
 have hin:∀ u w,E9 (R18 es) (fun x=>(M2 c (M9 c p1)).testBit x=true) u w->c.testBit u=true->f<=w->c.testBit w=true:=by
  intro u w hr
  induction hr with
  | one ha=>exact fun hu hw=>hadj _ _ hu ha hw
  | more ha hx _ ih=>exact fun hu hw=>ih ((hP _).1 hx).1 hw
 have hto:∀ u w,E9 (R18 es) (· ∈ p1) u w->c.testBit u=true->E9 (R18 es) (fun x=>(M2 c (M9 c p1)).testBit x=true) u w:=by
  intro u w hr
  induction hr with
  | one ha=>exact fun _ => .one ha
  | more ha hx _ ih=>
   intro hu
   have hcx:=hadj _ _ hu ha (hbd _ hx).1
   exact .more ha ((hP _).2 ⟨hcx,hx⟩) (ih hcx)
 unfold RB
 constructor
 .rintro (rfl | ⟨h1,h2⟩)
  .exact .inl rfl
  .exact .inr ⟨fun hh=>h1 ((hP w).1 hh).2,hto v w h2 hcv⟩
 .rintro (rfl | ⟨h1,h2⟩)
  .exact .inl rfl
  .refine .inr ⟨fun hw=>h1 ((hP w).2 ⟨hin v w h2 hcv (hbd w hw).1,hw⟩),h2.mono fun x hx=>((hP x).1 hx).2⟩
theorem K19 {l:List Nat} (hN:N<=6) (hf:f<=N) (h:IsP N f l) {i:Nat} (hi:(Q9 es N f (l.map fun (x:Nat)=>(x:Int)))[i]? = some b):X6 b<2^N/\0<(Y4 N (X6 b)).length:=by
 have hiN:i<N:=by have:=Q12 hi;rw[J10] at this;exact this
 obtain⟨b',a1,a2,a3⟩:=D49 (es:=es) (h.ok hf) hf hiN
 rw[hi] at a1
 cases a1
 obtain⟨s1,s2,s3⟩:=D66 a2 a3 hiN (by omega)
 exact⟨s2,Y25 hiN s3⟩
variable (hN:N<=6) (hsm:∀ e ∈ es,e<2^N) (hle:es.length<=8) (hcov:∀ w,w<N->∃ e ∈ es,e.testBit w=true) (hf:f<=N)
include hN hsm hle hcov hf
theorem V29 {s:Nat} (hs:s<2^N):∀ v,s.testBit v=true->∃ e ∈ es,e.testBit v=true:=fun v hv=>hcov v (X11 hs hv)
theorem U83 (h:IsP N f l):wid es N f l<=W<->fwI es N (Q9 es N f (upK f (N-f))) f<=W/\gdp es N f W l:=by
 obtain⟨hp,hp2,hp3,hp4⟩:=N18 (es:=es) (f:=f) hN
 have hlen:=J10 es N f (l.map fun (x:Nat)=>(x:Int))
 have hlen2:=J10 es N f (upK f (N-f))
 unfold wid wdI fwI
 rw[R21,R21,List.take_of_length_le (by omega)]
 have hfree:∀ i,i<f->∃ b b',(Q9 es N f (l.map fun (x:Nat)=>(x:Int)))[i]? = some b/\(Q9 es N f (upK f (N-f)))[i]? = some b'/\X6 b=X6 b'/\Q21 es N (X6 b')=M10 es N (X6 b):=fun i hi=>by
  rw[J70]
  obtain⟨b,b',a1,a2,a3⟩:=Z86 hN hsm hf h (E88 (N:=N) (f:=f)) hi
  obtain⟨s1,s2⟩:=K19 hN hf h a1
  refine⟨b,b',a1,a2,a3,?_⟩
  rw[<- a3]
  exact B55 (V29 hN hsm hle hcov hf s1) s2
 constructor
 .rintro⟨h0,h1⟩
  refine⟨⟨h0,fun b hb => ?_⟩,fun p1 v p2 e => ?_⟩
  .obtain⟨i,hi,rfl⟩:=List.getElem_of_mem hb
   rw[List.length_take] at hi
   rw[List.getElem_take]
   obtain⟨b,b',a1,a2,a3,a4⟩:=hfree i (by omega)
   rw[(List.getElem?_eq_some_iff.1 a2).2,a4]
   exact h1 b (List.mem_of_getElem? a1)
  .have hvl:v ∈ l:=by rw[e];simp
   have hvp:v ∉ p1:=by
    have:=h.nd
    rw[e,List.nodup_append] at this
    exact fun hv=>this.2.2 v hv v (by simp) rfl
   obtain⟨c,hc,hcv⟩:=(hp2 v).1 (D29.2 ((h.mem v).1 hvl))
   have hlv:=R28.2 ⟨hcv,hvp⟩
   obtain⟨b,a1,a2⟩:=Y60 hN hsm hf h e hc hlv
   obtain⟨s1,s2⟩:=K19 hN hf h a1
   refine⟨c,hc,hlv,?_⟩
   unfold C6
   rw[<- a2,B55 (V29 hN hsm hle hcov hf s1) s2]
   exact h1 b (List.mem_of_getElem? a1)
 .rintro⟨⟨h0,h1⟩,h2⟩
  refine⟨h0,fun b hb => ?_⟩
  obtain⟨i,hi,rfl⟩:=List.getElem_of_mem hb
  have hib:=List.getElem?_eq_getElem hi
  by_cases hif:i<f
  .obtain⟨b,b',a1,a2,a3,a4⟩:=hfree i hif
   rw[a1] at hib
   cases hib
   rw[<- a4]
   refine h1 b' (List.mem_of_getElem? (i:=i) ?_)
   rw[List.getElem?_take,if_pos hif];exact a2
  .have hil:i ∈ l:=(h.mem i).2 ⟨by omega,by omega⟩
   obtain⟨p1,p2,e⟩:=List.append_of_mem hil
   obtain⟨c,hc,hlv,hb2⟩:=h2 p1 i p2 e
   obtain⟨b,a1,a2⟩:=Y60 hN hsm hf h e hc hlv
   obtain⟨s1,s2⟩:=K19 hN hf h a1
   rw[a1] at hib
   cases hib
   unfold C6 at hb2
   rw[<- a2,B55 (V29 hN hsm hle hcov hf s1) s2] at hb2
   exact hb2
theorem R54:J7 es N f<=W<->fwI es N (Q9 es N f (upK f (N-f))) f<=W/\∀ c ∈ E5 es N f,V10 N (C6 es (E4 es N) N c) c<=W:=by
 unfold J7 wI
 rw[List.take_of_length_le (Nat.le_refl _),R21]
end
end Go.Proofs.YtpiobdofbhkmjaaDoor

namespace Go.Proofs.YtpiobdofbhkmjaaDoor
open Go.Clo
variable {l:List Nat}
theorem V90 {es nb:List Nat} {N:Nat} {cs:List Nat} {W:Rat}:∀ (q p:List Nat),(∀ p1 v p2,p++q=p1++v :: p2->Cst es nb N cs W p1 v)->(∀ c ∈ cs,M9 c (p++q)=0)->CW es nb N cs W p q
 | [],p,_,h2=>fun c hc=>by have:=h2 c hc;simpa using this
 | v :: q,p,h1,h2=>by
  have e:p++v :: q=(p++[v])++q:=by simp
  exact⟨h1 p v q rfl,V90 q (p++[v]) (fun p1 u p2 e2=>h1 p1 u p2 (by rw[e];exact e2)) (by rw[<- e];exact h2)⟩
theorem D84:∀ (l:List Nat) (n:Nat),l.foldl (fun n c=>n+E11 c) n=n+Q15 l:=by
 intro l
 induction l with
 | nil=>intro n;rfl
 | cons c l ih=>
  intro n
  have e:Q15 (c :: l)=l.foldl (fun n c=>n+E11 c) (0+E11 c):=rfl
  rw[e,List.foldl_cons,ih,ih];omega
theorem J58 {p q:Nat->Bool}:∀ {l:List Nat},(∀ x ∈ l,p x=true->q x=false)->(l.filter fun x=>p x || q x).length=(l.filter p).length+(l.filter q).length
 | [],_=>rfl
 | a :: l,h=>by
  have ih:=J58 (l:=l) fun x hx=>h x (by simp[hx])
  have ha:=h a (by simp)
  cases hp:p a with
  | true=>
   have hq:=ha hp
   simp[hp,hq,ih];omega
  | false=>
   cases hq:q a with
   | true=>simp[hp,hq,ih];omega
   | false=>simp[hp,hq,ih]
theorem X71:∀ {l:List Nat},l.Pairwise (fun c d=>∀ w,c.testBit w=true->d.testBit w=false)->Q15 l=((List.range 6).filter fun w=>l.any fun c=>c.testBit w).length
 | [],_=>by decide
 | c :: l,h=>by
  rw[List.pairwise_cons] at h
  have e:Q15 (c :: l)=E11 c+Q15 l:=by
   show l.foldl (fun n c=>n+E11 c) (0+E11 c)=_
   rw[D84];omega
  rw[e,X71 h.2]
  have:=J58 (p:=fun w=>c.testBit w) (q:=fun w=>l.any fun d=>d.testBit w) (l:=List.range 6) (fun x _ hx=>by
   cases hb:l.any fun d=>d.testBit x with
   | false=>rfl
   | true=>
    obtain⟨d,hd,hdx⟩:=List.any_eq_true.1 hb
    rw[h.1 d hd x hx] at hdx;cases hdx)
  simp only[List.any_cons]
  rw[this]
  rfl
section
variable {es:List Nat} {N f:Nat}
theorem K84 (hN:N<=6):Q15 (E5 es N f)=N-f:=by
 obtain⟨hp,hp2,hp3,hp4⟩:=N18 (es:=es) (f:=f) hN
 rw[X71 hp.dis]
 have hperm:((List.range 6).filter fun w=>(E5 es N f).any fun c=>c.testBit w).Perm (B11 N f):=by
  refine (List.perm_ext_iff_of_nodup (List.nodup_range.filter _) ((G15 N f).imp fun h=>Nat.ne_of_lt h)).2 fun v => ?_
  rw[List.mem_filter,hp2 v,List.any_eq_true,List.mem_range]
  constructor
  .rintro⟨_,c,h1,h2⟩;exact⟨c,h1,h2⟩
  .rintro⟨c,h1,h2⟩
   exact⟨by have:=(hp4 c h1 v h2).2;omega,c,h1,h2⟩
 rw[hperm.length_eq]
 simp[B11]
open Classical in
noncomputable def R75 (es:List Nat) (N f:Nat) (l:List Nat):Bool:=decide (gdp es N f (J7 es N f) l/\∀ c ∈ E5 es N f,M9 c l=0)
open Classical in
theorem M57:R75 es N f l=true<->gdp es N f (J7 es N f) l/\∀ c ∈ E5 es N f,M9 c l=0:=by
 unfold R75
 exact decide_eq_true_iff
theorem Z91 (cs:List Nat):cs.map (M9 · [])=cs:=by
 simp[M9]
theorem C50 {α:Type} {p q:α->Bool}:∀ {l:List α},(∀ a ∈ l,p a=q a)->l.find? p=l.find? q
 | [],_=>rfl
 | a :: l,h=>by
  rw[List.find?_cons,List.find?_cons,h a (by simp),C50 fun b hb=>h b (by simp[hb])]
theorem N52:∀ (n:Nat) (l rest x:List Nat),rest.length=n->x ∈ Q10 n l rest->∃ q,x=l++q/\q.Perm rest
 | 0,l,rest,x,hn,hx=>by
  have:=List.length_eq_zero_iff.1 hn
  subst this
  simp[Q10] at hx
  exact⟨[],by simp[hx],List.Perm.refl _⟩
 | n+1,l,rest,x,hn,hx=>by
  have hx':x ∈ rest.flatMap fun v=>Q10 n (l++[v]) (rest.erase v):=hx
  obtain⟨v,hv,hxv⟩:=List.mem_flatMap.1 hx'
  obtain⟨q,e,hq⟩:=N52 n (l++[v]) (rest.erase v) x (by rw[List.length_erase_of_mem hv];omega) hxv
  refine⟨v :: q,by rw[e];simp,?_⟩
  exact (List.Perm.cons v hq).trans (List.perm_cons_erase hv).symm
theorem Z15 {x:List Nat} (hx:x ∈ Q10 (N-f) [] (B11 N f)):IsP N f x:=by
 obtain⟨q,e,hq⟩:=N52 (N-f) [] (B11 N f) x (by simp[B11]) hx
 simp at e
 subst e
 exact⟨hq.nodup_iff.2 ((G15 N f).imp fun h=>Nat.ne_of_lt h),fun v=>by rw[hq.mem_iff,D29]⟩
variable (hN:N<=6) (hsm:∀ e ∈ es,e<2^N) (hle:es.length<=8) (hcov:∀ w,w<N->∃ e ∈ es,e.testBit w=true) (hf:f<=N)
include hN hsm hle hcov hf
theorem X87 (h:IsP N f l) {W:Rat} (hW:0<=W) (hg:gdp es N f W l):R24 es (E4 es N) N (E5 es N f) W []:=by
 obtain⟨hp,hp2,hp3,hp4⟩:=N18 (es:=es) (f:=f) hN
 refine Q71 hp hW (q:=l) (V90 l [] (fun p1 v p2 e=>hg p1 v p2 (by simpa using e)) fun c hc => ?_)
 refine Classical.byContradiction fun h0 => ?_
 obtain⟨u,hu⟩:=W13 h0
 obtain⟨h1,h2⟩:=R28.1 hu
 exact h2 (by simpa using (h.mem u).2 (hp4 c hc u h1))
theorem D56:0<=fwI es N (Q9 es N f (upK f (N-f))) f:=by
 have:=(R21 (g:=fun b=>Q21 es N (X6 b)) (W:=fwI es N (Q9 es N f (upK f (N-f))) f) (l:=(Q9 es N f (upK f (N-f))).take f) (x:=0)).1 (by unfold fwI;exact Rat.le_refl)
 exact this.1
theorem Y68:0<=J7 es N f:=by
 have h1:=((R54 hN hsm hle hcov hf (W:=J7 es N f)).1 Rat.le_refl).1
 have h2:=D56 hN hsm hle hcov hf
 grind
theorem D37 (h:IsP N f l):J7 es N f<=wid es N f l:=by
 obtain⟨h1,h2⟩:=(U83 hN hsm hle hcov hf h (W:=wid es N f l)).1 Rat.le_refl
 have h3:=D56 hN hsm hle hcov hf
 have hW:0<=wid es N f l:=by grind
 exact (R54 hN hsm hle hcov hf).2 ⟨h1,X87 hN hsm hle hcov hf h hW h2⟩
theorem B79 (h:IsP N f l):wid es N f l<=8:=by
 unfold wid wdI
 rw[R21]
 refine⟨by decide,fun b hb => ?_⟩
 obtain⟨i,hi,rfl⟩:=List.getElem_of_mem (List.mem_of_mem_take hb)
 obtain⟨s1,s2⟩:=K19 hN hf h (List.getElem?_eq_getElem hi)
 exact B78 (V29 hN hsm hle hcov hf s1) hle
theorem C36:∃ g,(Q10 (N-f) [] (B11 N f)).find? (fun l=>decide (wid es N f l<=J7 es N f))=some g/\N27 es N f=g.map (fun (x:Nat)=>(x:Int))/\wid es N f g=J7 es N f/\J7 es N f<=8:=by
 obtain⟨hp,hp2,hp3,hp4⟩:=N18 (es:=es) (f:=f) hN
 have hW:=Y68 hN hsm hle hcov hf
 obtain⟨hfw,hco⟩:=(R54 hN hsm hle hcov hf (W:=J7 es N f)).1 Rat.le_refl
 have hF:R24 es (E4 es N) N (E5 es N f) (J7 es N f) []:=hco
 have hlen:(B11 N f).length=N-f:=by simp[B11]
 have hnd:(B11 N f).Nodup:=(G15 N f).imp fun h=>Nat.ne_of_lt h
 have hmem:∀ v,v ∈ B11 N f<->∃ c ∈ E5 es N f,(M9 c []).testBit v=true:=hp2
 obtain⟨h1,_⟩:=R36 (es:=es) (nb:=E4 es N) (N:=N) (cs:=E5 es N f) (W:=J7 es N f) hp hW (good:=R75 es N f) (goodp:=gdp es N f (J7 es N f))
  (fun l=>M57) (fun l v=>Z88) (N-f) [] (B11 N f) hlen hmem hnd
 obtain⟨h2,h3⟩:=h1 ⟨fun p1 v p2 e=>by simp at e,hF⟩
 have hfind:(Q10 (N-f) [] (B11 N f)).find? (fun l=>decide (wid es N f l<=J7 es N f))=some (gre es (E4 es N) N (E5 es N f) (J7 es N f) (N-f) [] (B11 N f)):=by
  rw[<- h2]
  refine C50 fun l hl => ?_
  have hi:=Z15 hl
  rw[Bool.eq_iff_iff,decide_eq_true_eq,M57,U83 hN hsm hle hcov hf hi]
  constructor
  .rintro⟨_,h⟩
   refine⟨h,fun c hc => ?_⟩
   refine Classical.byContradiction fun h0 => ?_
   obtain⟨u,hu⟩:=W13 h0
   obtain⟨a1,a2⟩:=R28.1 hu
   exact a2 ((hi.mem u).2 (hp4 c hc u a1))
  .rintro⟨h,_⟩
   exact⟨hfw,h⟩
 refine⟨_,hfind,?_,?_,?_⟩
 .unfold N27 N40
  rw[B68,K84 hN]
  have:=R68 hp hW (N-f) [] (B11 N f) hlen hmem (G15 N f) hF
  rw[Z91] at this
  exact this
 .have ha:=List.find?_some hfind
  have hb:=List.mem_of_find?_eq_some hfind
  have hc:=D37 hN hsm hle hcov hf (Z15 hb)
  have hd:=of_decide_eq_true ha
  grind
 .have hb:=List.mem_of_find?_eq_some hfind
  have hc:=D37 hN hsm hle hcov hf (Z15 hb)
  have hd:=B79 hN hsm hle hcov hf (Z15 hb)
  grind
end
noncomputable def K30 (g:List Nat->Rat) (s:List Nat × Rat) (l:List Nat):List Nat × Rat:=if g l<s.2 then (l,g l) else s
theorem N56 {g:List Nat->Rat} {W:Rat}:∀ {ls:List (List Nat)} {s:List Nat × Rat} {r:List Nat},(∀ l ∈ ls,W<=g l)->W<s.2->ls.find? (fun l=>decide (g l<=W))=some r->ls.foldl (K30 g) s=(r,W)
 | [],s,r,_,_,h=>by cases h
 | a :: ls,s,r,hm,hs,h=>by
  rw[List.find?_cons] at h
  rw[List.foldl_cons]
  have ha:=hm a (by simp)
  by_cases hg:g a<=W
  .rw[show decide (g a<=W)=true from decide_eq_true hg] at h
   cases h
   have e:g a=W:=by grind
   have e2:K30 g s a=(a,W):=by
    unfold K30
    rw[e,if_pos hs]
   rw[e2]
   have hstay:∀ (ls:List (List Nat)),(∀ l ∈ ls,W<=g l)->ls.foldl (K30 g) (a,W)=(a,W):=by
    intro ls
    induction ls with
    | nil=>exact fun _=>rfl
    | cons b ls ih=>
     intro hb
     have hb1:=hb b (by simp)
     rw[List.foldl_cons,show K30 g (a,W) b=(a,W) from if_neg (by grind)]
     exact ih fun l hl=>hb l (by simp[hl])
   exact hstay ls fun l hl=>hm l (by simp[hl])
  .rw[show decide (g a<=W)=false from decide_eq_false hg] at h
   refine N56 (fun l hl=>hm l (by simp[hl])) ?_ h
   unfold K30
   split
   .show W<g a;grind
   .exact hs
end Go.Proofs.YtpiobdofbhkmjaaDoor
