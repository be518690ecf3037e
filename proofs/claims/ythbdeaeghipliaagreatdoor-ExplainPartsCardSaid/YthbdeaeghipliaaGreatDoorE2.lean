/-
  The closed executor: a region's operations in whatever order.
  The closed executor: a region that draws its order.
  The closed executor: code,calls,and what a run says.
  The closed executor: results,calls,and what a run says.
  The executor as a claim: calls by their contracts,the look at a region's readings,groups of guarded operations.
  The executor as a claim: groups in a region that draws;code with its joins marked;what such a claim says.
  The executor as a claim: what the claim of a function's code says of its calls.
  The executor as a claim: what each operation asks,value by value.
  The executor as a claim: rules for proofs.
  The executor as a claim: sets of vertices as numbers.
  The executor as a claim: slices that read as lists.
  The executor as a claim: append to a slice that the function has made.
-/
import Derived.Test.YthbdeaeghipliaaGreatDoorE1
import Derived.Below
set_option maxHeartbeats 8000000
set_option maxRecDepth 100000
set_option linter.all false
noncomputable section
open Array renaming replicate->fN
open BitVec renaming ofInt->cT,toNat_ofNat->eP
open Bool renaming and_eq_true->aG,eq_iff_iff->eX,not_eq_true'->cJ
open Go.Instr renaming findNow->dP
open Go.IntKind renaming bits->dW,signed->eK,u32->eW,wrap->eY
open Go.Region renaming binds->fH
open Go.Result renaming andThen_ok->aM
open Go.Sem renaming run_bind->aS,run_pure->bD
open Go.Value renaming int->cD
open Int renaming eq_ofNat_of_zero_le->fI
open List renaming all_eq_true->iE,any_eq_true->dY,cons_append->dL,ext_getElem?->dH,getElem?_append_left->bQ,getElem?_append_right->bS,getElem?_drop->dB,getElem?_eq_getElem->aE,getElem?_eq_none->aT,getElem?_of_mem->cH,getElem?_take->aX,length_append->bH,length_cons->cV,map_cons->aC,mem_append->dN,mem_append_left->dX,mem_cons->aU,mem_cons_of_mem->eJ,mem_map->gN,mem_of_getElem?->aH
open Nat renaming add_assoc->eH,add_mul->dM,beq->bR,ble->dD,blt->dE,eq_of_beq_eq_true->dI,eq_of_testBit_eq->bZ,eq_zero_or_pos->cI,le_of_lt->eG,le_refl->aD,le_trans->bK,lt_of_le_of_lt->iF,lt_of_lt_of_le->aO,lt_or_ge->aW,mod_eq_of_lt->bV,pow_le_pow_right->aK,pow_succ->dR,rec->fC,shiftRight_eq_div_pow->eO,testBit_and->bI,testBit_lt_two_pow->dV,zero_add->cF
open Ne renaming symm->eT
open Option renaming elim_some->aN
open Option.some renaming injEq->aZ
namespace Go.Clo
section
variable {P:Program} {d n:Nat} {ops:List Oper} {N:Nat} {H0:Y0} {T0:K0 Value} {rc:List D3} {F0:FM} {w0:World} {ds:List Deferred} {D D':Nat->Bool} {a:Act} {w:World} {F:FM} {X:Y0} {l':List D3}
theorem Inv.quiet{l:List D3}{r:D3}{J:List D3}{o:Oper}{i:Nat}(hI:Inv n ops N H0 T0 rc F0 w0 ds D a w F X l')(R:∀ i o,ops[i]? = some o->R12 ops i o)(B:rc=J++r :: l)(hl:l.length=i)(ho:ops[i]? = some o)(Q:D i=false)(hD:∀ j,D' j=if j=i then true else D j)(O:∀ b,r.inf ≠ .a b)(M:∀ H nx,r.inf ≠ .e H nx){v':Value}(hv:VR F r.v v'):
  Inv n ops N H0 T0 rc F0 w0 ds D' (a.put o.dst v') w F X l':=by
 obtain⟨h1,h2⟩:=hI.put (D':=D') R B hl ho Q hD (fun _ _ h=>h) hv;have E:∀ q ∈ B3 rc,q.1≠i:=by
  rintro⟨j,b⟩ hq e;obtain⟨pre,r',l2,g1,g2,g3⟩:=E18 hq;obtain⟨e1,_⟩:=G17 (B.symm.trans g1) (by simp at e;omega);rw[<- e1] at g3;exact O b g3
 have L:∀ e ∈ D1 rc,e≠i:=by
  intro e he hh;obtain⟨pre,r',l2,H,nx,g1,g2,g3⟩:=Y28 he;obtain⟨e1,_⟩:=G17 (B.symm.trans g1) O0;rw[<- e1] at g3;exact M H nx g3
 have up:∀ j,D j=true->D' j=true:=fun j h=>by rw[hD];split<;>simp[h]
 refine⟨hI.suf,fun e he=>up e (hI.done e he),fun e he hn => ?_,h1,h2,fun q => ?_,hI.free,hI.stp,fun j hj hd => ?_,hI.nx,(D8 a _ _).trans hI.defers⟩
 .rw[hD,if_neg (L e he)];exact hI.todo e he hn
 .rw[hI.heap q]
  congr 1;apply X18;intro x hx _;simp only[hD,if_neg (E x hx)]
 .refine hI.res j hj ?_
  rw[hD] at hd
  split at hd
  .cases hd
  .exact hd
theorem D21(ms:List Nat)(i:Nat)(es:List Nat)(j:Nat):Y3 ms (i :: es) j=(D2 ms i j || Y3 ms es j):=by simp[Y3]
theorem Y63(Z:∀ i o,ops[i]? = some o->R12 ops i o)(O:rc.length=ops.length)(a9:B11 P d n ops N H0 (N+ops.length) T0 rc)(av:R41 P d n ops N H0 rc)(hI:Inv n ops N H0 T0 rc F0 w0 ds D a w F X l'){i:Nat}(hi:i<ops.length)(M:D i=false)(hp:∀ j,D2 (U1 ops) i j=true->D j=true)(af:∀ i j,D i=true->D2 (U1 ops) i j=true->D j=true)(hD:∀ j,D' j=if j=i then true else D j){K:Act->World->Prop}{Q:Exit->Act->World->Prop}(hK:∀ a' w' F' X' br,Inv n ops N H0 T0 rc F0 w0 ds D' a' w' F' X' br->K a' w'):wpOp P ops.toArray Q i K a w:=by
 obtain⟨E,r,l,J,hl⟩:=V46 (rc:=rc) (i:=i) O0;have ao:B11 P d n ops N H0 (N+ops.length) T0 (r :: l):=B11.suf (pre:=E) (J ▸ a9);obtain⟨⟨o,s,hf⟩,_⟩:=ao;have ho:ops[i]? = some o:=by rw[<- hl];exact hf.ho
 obtain⟨a8,a4⟩:=hI.or (P:=P) (d:=d) Z J hl O hf M hp af;unfold wpOp;have bs:ops.toArray[i]? = some o:=by simpa using ho
 simp only[bs];have hw:=hf.what
 cases B:r.inf with
 | u=>
  rw[B] at hw;obtain⟨hv,bu⟩:=hw;rw[if_neg (by simp[bu F a a4])];exact hK _ _ F X l' (hI.quiet Z J hl ho M hD (by simp[B]) (by simp[B]) (by rw[hv];exact VR.undef F))
 | p=>
  rw[B] at hw;obtain⟨R,bk⟩:=hw;rw[if_pos (R F a a4)];obtain⟨v',W,hv⟩:=bk F a w a8;exact .inl (V25 W (hK _ _ F X l' (hI.quiet Z J hl ho M hD (by simp[B]) (by simp[B]) hv)))
 | r ir=>
  rw[B] at hw;obtain⟨R,bf⟩:=hw;rw[if_pos (R F a a4)];obtain⟨_,_,_,bc⟩:=M16 hf.hs;rw[bf] at bc;obtain⟨pre,V⟩:=hI.suf;have a7:(⟨i,ir,r.T,r.v⟩:Rd) ∈ G6 rc:=by
   rw[J];clear hI a9 av V hf a8 a4 hK J
   induction E with
   | nil=>simp[G6,B,hl]
   | cons x E ih=>
    simp only[dL,G6]
    split
    .exact eJ _ ih
    .exact ih
  have am:=av _ a7 pre l' V (fun e he hn=>by
   cases hb:D2 (U1 ops) i e with
   | false=>rfl
   | true=>have:=hp e hb;rw[hI.todo e he hn] at this;cases this) (fun e he=>by
   cases hb:D2 (U1 ops) e i with
   | false=>rfl
   | true=>have:=af e i (hI.done e he) hb;rw[M] at this;cases this)
  have ax:=am (nR (N+ops.length) l') o bc;dsimp only at ax;have b3:=hI.sees O hp (aD _) (by rw[<- O];exact Q13 rc) (fun q hq=>hq);have bq:HB F (X8 N (fun j=>D2 (U1 ops) i j && !Y3 (U1 ops) (D1 l') j) (hR H0 l') (B3 rc)) (nR (N+ops.length) l') w:=
   ⟨fun q b hq hg=>hI.stp.hr.blk q b hq (b3 q b hg),hI.stp.hr.fresh⟩
  obtain⟨v',W,hv⟩:=ax F a w a8 bq;exact .inl (V25 W (hK _ _ F X l' (hI.quiet Z J hl ho M hD (by simp[B]) (by simp[B]) hv)))
 | a b=>
  rw[B] at hw;obtain⟨R,y,bt,b1⟩:=hw;rw[if_pos (R F a a4)];obtain⟨c1,W,b4⟩:=bt F a w a8;have aw:F (N+i)=none:=hI.res i hi M;have bz:N+i<nR (N+ops.length) l':=by have:=hI.nx;omega
  obtain⟨t,e1,e2,a0⟩:=hI.stp.addAt bz O0 aw b4;have aj:=M19 aw t;have hv:VR (upd F (N+i) t) r.v (y.real w.heap.size):=by
   rw[b1,hl,<- e1];exact Q0.vr (Y6 F (N+i) t) e2 y
  obtain⟨h1,h2⟩:=hI.put (D':=D') Z J hl ho M hD aj hv;have a7:(i,b) ∈ B3 rc:=by rw[J,<- hl];exact U64 B
  have be:Y3 (U1 ops) (D1 l') i=false:=by
   cases hm:Y3 (U1 ops) (D1 l') i with
   | false=>rfl
   | true=>
    unfold Y3 at hm;rw[dY] at hm;obtain⟨e,he,hb⟩:=hm;have:=af e i (hI.done e he) hb;rw[M] at this;cases this
  have a6:X17 ops.length (B3 rc):=by rw[<- O];exact Q13 rc
  have bd:∀ e ∈ D1 rc,e≠i:=by
   intro e he hh;obtain⟨pre,r',l2,H,nx,g1,g2,g3⟩:=Y28 he;obtain⟨e1,_⟩:=G17 (J.symm.trans g1) O0;rw[<- e1,B] at g3
   cases g3
  refine .inl (V25 W (hK _ _ (upd F (N+i) t) (hs X (N+i) (some b)) l' ?_));refine⟨hI.suf,fun e he=>by rw[hD];split<;>simp[hI.done e he],fun e he hn=>by rw[hD,if_neg (bd e he)];exact hI.todo e he hn,h1,h2,fun q => ?_,hI.free,a0,fun j hj hd => ?_,hI.nx,(D8 a _ _).trans hI.defers⟩
  .rw[N7]
   by_cases e:q=N+i
   .subst e
    rw[if_pos rfl,N15 a6 a7 (by rw[hD,if_pos rfl,be];rfl)]
    rfl
   .rw[if_neg e,hI.heap q]
    congr 1;apply X18;intro x _ hx;have:x.1≠i:=fun h=>e O0
    simp only[hD,if_neg this]
  .rw[hD] at hd
   split at hd
   .cases hd
   .rename_i ae
    rw[M5 F t O0];exact hI.res j hj hd
 | e H' nx'=>
  rw[B] at hw;obtain⟨R,b7,U⟩:=hw;rw[if_pos (R F a a4)];obtain⟨pre,V⟩:=hI.suf;have b5:D1 l'=D1 l/\hR H0 l'=hR H0 l/\nR (N+ops.length) l'=nR (N+ops.length) l:=by
   have bw:∀ e ∈ D1 l,e ∈ D1 l':=by
    intro e he;have a5:e ∈ D1 rc:=by rw[J];exact N47 (pre:=E) (by simp only[D1,B];exact eJ _ he)
    cases Classical.em (e ∈ D1 l') with
    | inl h=>exact h
    | inr h=>
     have h1:=hI.todo e a5 h;rw[hl] at U;have h2:=hp e (U e he);rw[h1] at h2;cases h2
   have bp:∀ e ∈ D1 l',e<l.length:=by
    intro e he;have al:=hI.done e he;rcases Nat.lt_trichotomy e l.length with h | h | h
    .exact h
    .rw[h,hl,M] at al;cases al
    .exfalso
     have a5:e ∈ D1 rc:=by rw[V];exact N47 he
     obtain⟨ai,r2,l2,H2,nx2,g1,g2,g3⟩:=Y28 a5;have ak:B11 P d n ops N H0 (N+ops.length) T0 (r2 :: l2):=B11.suf (pre:=ai) (g1 ▸ a9);obtain⟨⟨o2,s2,bx⟩,_⟩:=ak;have ba:=bx.what;rw[g3] at ba;have bg:i ∈ D1 l2:=by
      have h1:i ∈ D1 (ai++r2 :: l2):=by rw[<- g1,J];exact N47 (pre:=E) (by simp only[D1,B,hl];simp)
      have h2:i ∈ D1 (r2 :: l2):=X66 h1 O5;simp only[D1,g3] at h2;rcases aU.1 h2 with h2 | h2
      .omega
      .exact h2
     have hb:=ba.2.2 i bg;rw[g2] at hb;have:=af e i al hb;rw[M] at this;cases this
   have bm:(∃ a3,l'=a3++l)\/(∃ a3,l=a3++l'):=by
    have b0:pre++l'=(E++[r])++l:=by rw[<- V,J];simp
    rcases List.append_eq_append_iff.1 b0 with ⟨m,h1,h2⟩ | ⟨m,h1,h2⟩
    .exact .inl ⟨m,h2⟩
    .exact .inr ⟨m,h2⟩
   rcases bm with ⟨a3,rfl⟩ | ⟨a3,hm⟩
   .exact N17 bp
   .have h3:∀ e ∈ D1 (a3++l'),e<l'.length:=by
     intro e he;rw[<- hm] at he;exact K19 (bw e he)
    obtain⟨g1,g2,g3⟩:=N17 (H0:=H0) (n0:=N+ops.length) h3;rw[<- hm] at g1 g2 g3;exact⟨g1.symm,g2.symm,g3.symm⟩
  obtain⟨s1,s2,s3⟩:=b5;rw[hl] at b7 U;have a6:X17 ops.length (B3 rc):=by rw[<- O];exact Q13 rc
  have ab:X17 i (B3 l):=by rw[<- hl];exact Q13 l
  have ar:∀ q ∈ B3 l,q ∈ B3 rc:=by
   intro q hq;rw[J,show E++r :: l=(E++[r])++l by simp];exact X69 hq
  have a1:=hI.sees O hp (L:=i) O0 ab ar;rw[s1,s2] at a1;have ap:HR F (X8 N (fun j=>D2 (U1 ops) i j && !Y3 (U1 ops) (D1 l) j) (hR H0 l) (B3 l)) (nR (N+ops.length) l) w:=by
   rw[<- s3];exact hI.stp.hr.sub (fun q b hg=>a1 q b hg)
  refine .inl (b7 F a w K Q a8 ap fun v' F' w' hv a0 => ?_);have aj:=a0.fle ap;obtain⟨h1,h2⟩:=hI.put (D':=D') Z J hl ho M hD aj hv;have ad:D1 (r :: l)=i :: D1 l:=by simp only[D1,B,hl]
  have aq:hR H0 (r :: l)=H':=by simp only[hR,B]
  have b9:nR (N+ops.length) (r :: l)=nx':=by simp only[nR,B]
  have ah:∀ q ∈ B3 rc,q.1≠i:=by
   rintro⟨j,b⟩ hq e;obtain⟨b2,r',l2,g1,g2,g3⟩:=E18 hq;obtain⟨e1,_⟩:=G17 (J.symm.trans g1) (by simp at e;omega);rw[<- e1,B] at g3
   cases g3
  have b8:N+ops.length<=nR (N+ops.length) l:=by rw[<- s3];exact hI.nx
  have a2:∀ j,j<ops.length->D2 (U1 ops) i j=false->Y3 (U1 ops) (D1 l) j=false ->
    J0 (X8 N (fun j=>D2 (U1 ops) i j && !Y3 (U1 ops) (D1 l) j) (hR H0 l) (B3 l)) (N+j)=none:=by
   intro j hj hb hm;rw[Y10 (L:=i) ab _];have e1:J0 (hR H0 l) (N+j)=none:=by rw[<- s2];exact hI.free j hj (by rw[s1];exact hm)
   rw[e1]
   cases aa:J5 N (fun j=>D2 (U1 ops) i j && !Y3 (U1 ops) (D1 l) j) (N+j) (B3 l) with
   | none=>rfl
   | some b=>
    obtain⟨j',_,h3,h4⟩:=W11 aa;have:j'=j:=O0;subst this;rw[hb] at h4;cases h4
  have ay:∀ q,J0 (X8 N (fun j=>D' j && !Y3 (U1 ops) (D1 (r :: l)) j) H' (B3 rc)) q=(J5 N (fun j=>D' j && !Y3 (U1 ops) (D1 (r :: l)) j) q (B3 rc)).or (J0 H' q):=
   fun q=>Y10 (L:=ops.length) a6 q
  have az:=N2.beside (X':=X8 N (fun j=>D' j && !Y3 (U1 ops) (D1 (r :: l)) j) H' (B3 rc)) (s3 ▸ hI.stp.hr) (fun q b hq hg=>a1 q b hg) a0 (by
   intro q;rw[ay q]
   cases aa:J5 N (fun j=>D' j && !Y3 (U1 ops) (D1 (r :: l)) j) q (B3 rc) with
   | some b=>
    obtain⟨j,hm,rfl,Y⟩:=W11 aa;rw[aG,ad,D21] at Y;have ae:j≠i:=ah _ hm;have hj:j<ops.length:=by
     obtain⟨b2,r3,l3,g1,g2,_⟩:=E18 hm;rw[<- O,g1];simp;omega
    have bv:D j=true:=by have:=Y.1;rw[hD,if_neg ae] at this;exact this
    have an:D2 (U1 ops) i j=false/\Y3 (U1 ops) (D1 l) j=false:=by
     have:=Y.2;simp at this;exact this
    have au:J0 X (N+j)=some b:=by
     rw[hI.heap _,N15 a6 hm (by rw[bv,s1,an.2];rfl)];rfl
    rw[if_pos ⟨O0,a2 j hj an.1 an.2,by rw[au];rfl⟩,au]
    rfl
   | none=>
    rw[if_neg]
    .rfl
    .rintro⟨g1,g2,g3⟩
     rw[hI.heap q] at g3
     cases b6:J5 N (fun j=>D j && !Y3 (U1 ops) (D1 l') j) q (B3 rc) with
     | some b=>
      obtain⟨j,hm,rfl,Y⟩:=W11 b6;rw[aG,s1] at Y;have ae:j≠i:=ah _ hm;have ag:D2 (U1 ops) i j=true:=by
       cases hb:D2 (U1 ops) i j with
       | true=>rfl
       | false=>
        exfalso;have bh:Y3 (U1 ops) (D1 l) j=false:=by simpa using Y.2
        rw[N15 a6 hm (by rw[hD,if_neg ae,Y.1,ad,D21,hb,bh];rfl)] at aa
        cases aa
      have c0:=V36 Z _ _ ag;have bo:(j,b) ∈ B3 l:=by
       refine V66 (pre:=E++[r]) ?_ O0;rw[show(E++[r])++l=E++r :: l by simp,<- J];exact hm
      rw[Y10 (L:=i) ab _,N15 ab bo (by rw[ag];exact Y.2)] at g2
      cases g2
     | none=>
      rw[b6] at g3;rw[Y10 (L:=i) ab _] at g2;rw[s2] at g3
      cases hg:J0 (hR H0 l) q with
      | none=>rw[hg] at g3;simp at g3
      | some b=>
       rw[hg] at g2
       cases bn:J5 N (fun j=>D2 (U1 ops) i j && !Y3 (U1 ops) (D1 l) j) q (B3 l)<;>rw[bn] at g2<;>cases g2)
  refine hK _ _ F' _ (r :: l) ⟨⟨E,J⟩,?_,?_,h1,h2,fun q=>by rw[ay q,aq],?_,?_,?_,?_,(D8 a _ _).trans hI.defers⟩
  .intro e he
   rw[ad] at he;rcases aU.1 he with rfl | he
   .rw[hD,if_pos rfl]
   .rw[hD];split
    .rfl
    .exact hI.done e (by rw[s1];exact he)
  .intro e he hn
   rw[ad] at hn;have bl:e≠i:=fun h=>hn (by simp[h])
   rw[hD,if_neg bl];exact hI.todo e he (by rw[s1];exact fun h=>hn (eJ _ h))
  .intro j hj hm
   rw[ad,D21] at hm;rw[Bool.or_eq_false_iff] at hm;rw[aq];exact a0.keep _ O0 (a2 j hj hm.1 hm.2)
  .rw[b9]
   exact hI.stp.trans (s3 ▸ az)
  .intro j hj hd
   rw[hD] at hd
   split at hd
   .cases hd
   .rw[a0.ext _ O0];exact hI.res j hj hd
  .rw[b9];exact bK b8 a0.le
end
section
variable {H:Y0} {P:Program} {nx:Nat} {ops:List Oper}
theorem N2.reserve{F:FM}{H:Y0}{nx:Nat}{w:World}(h:HR F H nx w){nx2:Nat}(h1:nx<=nx2):N2 F H nx w F H nx2 w:=by
 refine⟨h1,fun _ _=>rfl,rfl,rfl,rfl,aD _,fun _ _ _=>rfl,?_,fun _ _ h=>h,fun i b hg _=>⟨h.low hg,hg⟩,h.reserve h1⟩;rintro b ⟨i,k,t,hi,hg,B,hF,e⟩;exact .inl ⟨i,k,t,h.low hg,hg,B,hF,e⟩
theorem N2.congr{F:FM}{w:World}{F':FM}{X X2:Y0}{nx':Nat}{w':World}(h:N2 F H nx w F' X nx' w')(he:∀ q,J0 X2 q=J0 X q):N2 F H nx w F' X2 nx' w':=by
 have B:∀ b,Own F' X2 nx' b->Own F' X nx' b:=by
  rintro b ⟨i,k,t,hi,hg,J,hF,e⟩;exact⟨i,k,t,hi,by rw[<- he i];exact hg,J,hF,e⟩
 refine⟨h.le,h.ext,h.os,h.tape,h.output,h.size,h.frame,fun b hb=>h.own b (B b hb),fun i hi hn => ?_,fun i b hg E=>h.rom i b (by rw[<- he i];exact hg) E,h.hr.sub (fun i b hg=>by rw[<- he i];exact hg)⟩;rw[he i];exact h.keep i hi hn
def D4:Nat->(Nat->Bool)->Nat
 | 0,_=>0
 | k+1,D=>D4 k D+(if D k then 0 else 1)
theorem M40{D D':Nat->Bool}:∀ {k:Nat},(∀ j,j<k->D j=D' j)->D4 k D=D4 k D'
 | 0,_=>rfl
 | k+1,h=>by simp only[D4];rw[M40 fun j hj=>h j O0,h k O0]
theorem G22{D D':Nat->Bool}{i:Nat}(hD:∀ j,D' j=if j=i then true else D j)(hi:D i=false):∀ {k:Nat},i<k->D4 k D'+1=D4 k D
 | 0,h=>O0
 | k+1,h=>by
  simp only[D4]
  by_cases e:i=k
  .subst e
   have:D' i=true:=by rw[hD,if_pos rfl]
   rw[this,hi,M40 (D:=D') (D':=D) fun j hj=>by rw[hD,if_neg O0]];simp
  .have:=G22 hD hi (k:=k) O0
   have e2:D' k=D k:=by rw[hD,if_neg (fun h=>e h.symm)]
   rw[e2];omega
theorem Z46{D:Nat->Bool}:∀ {k:Nat},D4 k D=0->∀ i,i<k->D i=true
 | 0,_,i,hi=>O0
 | k+1,h,i,hi=>by
  simp only[D4] at h
  by_cases e:i=k
  .subst e
   cases hd:D i with
   | true=>rfl
   | false=>rw[hd] at h;simp at h
  .exact Z46 (k:=k) O0 i O0
theorem V50{D:Nat->Bool}(h:∀ i,D i=false):∀ k,D4 k D=k
 | 0=>rfl
 | k+1=>by simp[D4,V50 h k,h k]
section
variable {P:Program} {d n:Nat} {ops:List Oper} {N:Nat} {H0:Y0} {T0:K0 Value} {rc:List D3} {F0:FM} {w0:World} {ds:List Deferred}
theorem Y51(E:∀ i o,ops[i]? = some o->R12 ops i o)(L:rc.length=ops.length)(J:B11 P d n ops N H0 (N+ops.length) T0 rc)(R:R41 P d n ops N H0 rc){Q:Exit->Act->World->Prop}(hQ:∀(D:Nat->Bool) a w F X l',(∀ i,i<ops.length->D i=true)->Inv n ops N H0 T0 rc F0 w0 ds D a w F X l'->Q .normal a w):
  ∀(B:Nat) (listed:Array Bool) (a:Act) (w:World) (F:FM) (X:Y0) (l':List D3),listed.size=ops.length->D4 ops.length (fun i=>listed.getD i false)<=B->J61 ops (fun i=>listed.getD i false) ->
   Inv n ops N H0 T0 rc F0 w0 ds (fun i=>listed.getD i false) a w F X l'->wpAny P .any ops.toArray Q B listed a w
 | 0,listed,a,w,F,X,l',hsz,hc,hcl,hI=>by
  have hd:=Z46 (D:=fun i=>listed.getD i false) (k:=ops.length) O0;refine⟨?_,hQ _ a w F X l' hd hI⟩
  cases hr:Region.ready .any ops.toArray listed with
  | nil=>rfl
  | cons i a2=>
   obtain⟨h1,h2,_⟩:=K35 (ops:=ops.toArray) (listed:=listed) (i:=i) (by rw[hr];simp);have:=hd i (by simpa using h1);have hi:i<listed.size:=by simp at h1;omega
   simp[hi] at this h2;rw[this] at h2;cases h2
 | B+1,listed,a,w,F,X,l',hsz,hc,hcl,hI=>by
  refine⟨fun hr => ?_,fun i hi => ?_⟩
  .refine hQ _ a w F X l' (fun i hi => ?_) hI
   exact N54 (ops:=ops.toArray) (by simpa using hsz) (fun i o ho e he hb=>(E i o (by simpa using ho)).edge e he hb) hr i (by simpa using hi)
  .obtain⟨h1,h2,h3⟩:=K35 hi
   have W:i<ops.length:=by simpa using h1
   have O:i<listed.size:=O0;have U:listed.getD i false=false:=by simp[O] at h2 ⊢;exact h2
   have M:∀ o,ops[i]? = some o->∀ e ∈ o.after,fH .any e=true->listed.getD e.on false=true:=fun o ho=>h3 o (by simpa using ho)
   have hp:=fun j=>Y33 E hcl i j M
   have V:∀ i j,listed.getD i false=true->D2 (U1 ops) i j=true->listed.getD j false=true:=by
    intro i j hi hb;exact Y33 E hcl i j (fun o ho e he Y=>hcl i o ho hi e he Y) hb
   have hD:∀ j,(listed.setIfInBounds i true).getD j false=if j=i then true else listed.getD j false:=by
    intro j
    by_cases e:j=i
    .subst e;simp[O]
    .simp[e,Array.getElem?_setIfInBounds_ne (eT e)]
   refine Y63 (D:=fun i=>listed.getD i false) (D':=fun j=>(listed.setIfInBounds i true).getD j false) E L J R hI W U hp V hD fun a' w' F' X' a1 a0 => ?_
   refine Y51 E L J R hQ B _ a' w' F' X' a1 (by simpa using hsz) ?_ ?_ a0
   .have:=G22 (D:=fun i=>listed.getD i false) (D':=fun j=>(listed.setIfInBounds i true).getD j false) hD U (k:=ops.length) W
    omega
   .intro q o ho hq e he hb
    dsimp only at hq ⊢;rw[hD] at hq;rw[hD]
    split
    .rfl
    .split at hq
     .rename_i Z;subst Z;exact M o ho e he hb
     .exact hcl q o ho hq e he hb
end
theorem C39{ops:List Oper}{T0:K0 Value}{D:Nat->Bool}(h:∀ i,D i=false){t:Nat}:∀(l:List D3),W9 ops T0 D l t=(tg T0 t).getD undef
 | []=>rfl
 | r :: l=>by simp only[W9,h];simp;exact C39 h l
theorem K18{P:Program}{n:Nat}{ops:List Oper}:∀ {suf:List Oper} {l:List S},R3 P n ops suf=some l->l.length=suf.length
 | [],l,h=>by simp[R3] at h;subst h;rfl
 | o :: suf,l,h=>by
  simp only[R3] at h
  cases hs:K16 P n ops o with
  | none=>simp[hs] at h
  | some s=>cases hl:R3 P n ops suf with
   | none=>simp[hs,hl] at h
   | some l'=>simp[hs,hl] at h;subst h;simp[K18 hl]
theorem N21{P:Program}{n:Nat}{ops:List Oper}:∀ {suf:List Oper} {l:List S},R3 P n ops suf=some l->∀ o ∈ suf,∀ t,o.dst=some t->t ∈ Q10 l
 | [],l,h,o,ho=>by cases ho
 | o' :: suf,l,h,o,ho=>by
  simp only[R3] at h
  cases hs:K16 P n ops o' with
  | none=>simp[hs] at h
  | some s=>cases hl:R3 P n ops suf with
   | none=>simp[hs,hl] at h
   | some l'=>
    simp[hs,hl] at h;subst h;intro t ht;simp only[Q10,dN];rcases aU.1 ho with rfl | ho
    .refine .inl ?_
     rw[(M16 hs).2.1,ht];simp
    .exact .inr (N21 hl o ho t ht)
theorem C24{ops:List Oper}{T0:K0 Value}{W:List Nat}(hW:∀ o ∈ ops,∀ t,o.dst=some t->t ∈ W){j:Nat}(hj:j ∉ W):∀ {l:List D3},C10 ops T0 l j=(tg T0 j).getD undef
 | []=>rfl
 | r :: l=>by
  simp only[C10];rw[if_neg,C24 hW hj];intro h
  cases ho:ops[l.length]? with
  | none=>rw[ho] at h;cases h
  | some o=>rw[ho] at h;exact hj (hW o (aH ho) j h)
theorem N38{d n:Nat}(hm:P.follows .mixedOrders=true)(M:E13 (U1 ops) ops ops 0=true)(hn:n<=2^d){T:K0 Value}{rc:List D3}{T':K0 Value}(E:rc.length=ops.length)(Y:B11 P d n ops nx H (nx+ops.length) T rc)(Z:WF d T')(a1:∀ t,t<n->(tg T' t).getD undef=C10 ops T rc t)(V:R41 P d n ops nx H rc):
   ∀(id:Nat) (F:FM) (a:Act) (w:World) (Q:Exit->Act->World->Prop),TR d F T n a.tmps->HR F H nx w ->
    (∀ F' a' w',TR d F' T' n a'.tmps->N2 F H nx w F' (X8 nx (fun j => !Y3 (U1 ops) (D1 rc) j) (hR H rc) (B3 rc)) (nR (nx+ops.length) rc) w'->a'.defers=a.defers->Q .normal a' w')->(Code.region id ops.toArray true).wp P Q a w:=by
 have a0:∀ i o,ops[i]? = some o->R12 ops i o:=fun i o ho=>by simpa using D28 ops 0 M i o ho
 intro id F a w Q ht hr hk;refine wp_region_any hm ?_;have a2:HR F H nx { w with drawn:=w.drawn+1 }:=hr.drew _;have B:∀ i,(fN ops.toArray.size false).getD i false=false:=by
  intro i;simp[Array.getElem?_replicate];split<;>rfl
 refine Y51 (N:=nx) (H0:=H) (T0:=T) (rc:=rc) (F0:=F) (w0:=w) (ds:=a.defers) a0 E Y V ?_ _ _ a _ F H [] O2 ?_ ?_ ?_
 ·
  intro D a' w' F' X l' hD hI;obtain⟨pre,O⟩:=hI.suf;have R:∀ e ∈ D1 (pre++l'),e<l'.length:=by
   intro e he;rw[<- O] at he
   cases Classical.em (e ∈ D1 l') with
   | inl h=>exact K19 h
   | inr h=>
    have h2:=hI.todo e he h;have h3:=K19 he;rw[hD e O0] at h2;cases h2
  obtain⟨s1,s2,s3⟩:=N17 (H0:=H) (n0:=nx+ops.length) R;rw[<- O] at s1 s2 s3;refine hk F' a' w' ⟨Z,hI.size,hn,fun t J => ?_⟩ ?_ hI.defers
  .rw[a1 t J,<- Y37 (D:=D) (T0:=T) (ops:=ops) fun j hj _=>hD j O0]
   exact hI.slots t J
  .have U:=hI.stp
   rw[<- s3] at U;refine U.congr fun q => ?_
   rw[Y10 (L:=ops.length) (by rw[<- E];exact Q13 rc) q,hI.heap q,s1,s2];congr 1;apply X18;rintro⟨j,b⟩ hx _;obtain⟨a3,r3,l3,g1,g2,_⟩:=E18 hx;have hj:j<ops.length:=by rw[<- E,g1];simp;omega
   simp[hD j hj]
 .have:=V50 (D:=fun i=>(fN ops.toArray.size false).getD i false) B ops.length
  rw[this];simp
 .intro i o _ hi
  dsimp only at hi;rw[B] at hi;cases hi
 .refine⟨⟨rc,O2⟩,by simp[D1],fun e _ _=>B e,ht.size,fun t J => ?_,fun q => ?_,fun j hj _=>hr.top _ O0,?_,fun j hj _=>hr.fresh _ O0,aD _,rfl⟩
  .rw[C39 B];exact ht.get t J
  .have:J5 nx (fun j=>(fN ops.toArray.size false).getD j false && !Y3 (U1 ops) (D1 []) j) q (B3 rc)=none:=by
    cases hp:J5 nx (fun j=>(fN ops.toArray.size false).getD j false && !Y3 (U1 ops) (D1 []) j) q (B3 rc) with
    | none=>rfl
    | some b=>
     obtain⟨j,_,_,W⟩:=W11 hp;rw[B] at W;cases W
   rw[this];rfl
  .exact(N2.drew hr (w.drawn+1)).trans (N2.reserve a2 (nx2:=nx+ops.length) O0)
theorem V56{β:Type}{d n:Nat}{l:List S}(hm:P.follows .mixedOrders=true)(hl:R3 P n ops ops=some l)(E:E13 (U1 ops) ops ops 0=true)(hn:n<=2^d){call:Z3 β}(J:E11 P call){B:E12 β}(L:W34 P B)(T:K0 Value)(H:Y0)(nx:Nat)(z:β)(k:K β)(R:WF d T):
  Z28 P d call B z (U1 ops) l T H nx k=z\/∃ T' H' nx',Z28 P d call B z (U1 ops) l T H nx k=k T' H' nx'/\(WF d T'/\U8 n (Q10 l) T T') /\
   ∀(id:Nat) (F:FM) (a:Act) (w:World) (Q:Exit->Act->World->Prop),TR d F T n a.tmps->HR F H nx w ->
    (∀ F' a' w',TR d F' T' n a'.tmps->N2 F H nx w F' H' nx' w'->a'.defers=a.defers->Q .normal a' w')->(Code.region id ops.toArray true).wp P Q a w:=by
 unfold Z28;rw[G1,K18 hl];rcases U32 (N:=nx) (H0:=H) (n0:=nx+ops.length) (T0:=T) J hn z (fun T H n Ms es as rs=>B (U1 ops) nx as rs es Ms H (Z13 (U1 ops) nx es H (fun H=>k T H n) as) z) ops l [] T hl O2 trivial R (fun t _=>rfl) with h | ⟨rc,T',h1,hall,hw',hT',h5⟩
 .exact .inl h
 .have O:Z4 P d call (U1 ops) nx z (fun T H n Ms es as rs=>B (U1 ops) nx as rs es Ms H (Z13 (U1 ops) nx es H (fun H=>k T H n) as) z) l 0 T H (nx+ops.length) [] [] [] []=_:=h5
  rw[O];rcases L d n ops nx H rc (Z13 (U1 ops) nx (D1 rc) (hR H rc) (fun H=>k T' H (nR (nx+ops.length) rc)) (B3 rc)) z with h | ⟨h,hrs'⟩
  .exact .inl h
  .rw[h,N23]
   exact .inr ⟨T',_,_,rfl,⟨hw',fun j hj M=>by rw[hT' j hj];exact C24 (N21 hl) M⟩,N38 hm E hn (by simpa using h1) hall hw' hT' hrs'⟩
end
section
variable {β:Type}
inductive Ox where
 | n
 | x (id:Nat)
 | r
def Ox.exit:Ox->Exit
 | .n => .normal
 | .x id => .exit id
 | .r => .ret
def Ox.go(k:K β)(x:Nat->K β)(r:K β):Ox->K β
 | .n=>k
 | .x id=>x id
 | .r=>r
def R47(P:Program)(d n:Nat)(c:Code)(T:K0 Value)(H:Y0)(nx:Nat)(o:Ox)(T':K0 Value)(H':Y0)(nx':Nat):Prop:=
 ∀(F:FM) (a:Act) (w:World) (Q:Exit->Act->World->Prop),TR d F T n a.tmps->HR F H nx w ->
  (∀ F' a' w',TR d F' T' n a'.tmps->N2 F H nx w F' H' nx' w'->a'.defers=a.defers->Q o.exit a' w')->c.wp P Q a w
def D32(z:β)(c:K0 Value->Y0->Nat->K β->β)(m:Nat):K β:=
 @fC (fun _=>K β) (fun _ _ _=>z) (fun _ ih T H nx=>c T H nx ih) m
theorem G66(m:Nat)(z:β)(f:K β->K β):N45 m z f=D32 z (fun T H nx k=>f k T H nx) m:=rfl
def J56(fx:E15 β):Prop:=∀(z:β) (f:K β->K β) (T:K0 Value) (H:Y0) (nx:Nat),∃ m,fx z f T H nx=D32 z (fun T H nx k=>f k T H nx) m T H nx
theorem Z68(m:Nat):J56 (β:=β) (N45 m):=fun z f T H nx=>⟨m,by rw[G66]⟩
theorem R54(c:C)(P:Program)(d:Nat)(call:Z3 β)(B:E12 β)(fx:E15 β)(z:β)(T:K0 Value)(H:Y0)(nx:Nat)(k:K β)(x:Nat->K β)(r:K β):
  N6 (.loop c) P d call B fx z T H nx k x r=fx z (fun ih T H nx=>N6 c P d call B fx z T H nx ih x r) T H nx:=rfl
section
variable {β:Type} {P:Program} {d n:Nat}
theorem N51(hm:P.follows .mixedOrders=true)(hn:n<=2^d){call:Z3 β}(W:E11 P call){L:E12 β}(a4:W34 P L){fx:E15 β}(a7:J56 fx)(z:β):∀(R:Code) (c:C),R18 P n R=some c->∀(T:K0 Value) (H:Y0) (nx:Nat) (k:K β) (x:Nat->K β) (r:K β),WF d T ->
  N6 c P d call L fx z T H nx k x r=z\/∃ o T' H' nx',N6 c P d call L fx z T H nx k x r=o.go k x r T' H' nx'/\WF d T'/\R47 P d n R T H nx o T' H' nx':=by
 intro R
 induction R with
 | skip=>
  intro c hc T H nx k x r hw;simp[R18] at hc;subst hc;exact .inr ⟨.n,T,H,nx,rfl,hw,fun F a w Q ht hr hk=>wp_skip (hk F a w ht (N2.refl hr) rfl)⟩
 | label l=>
  intro c hc T H nx k x r hw;simp[R18] at hc;subst hc;exact .inr ⟨.n,T,H,nx,rfl,hw,fun F a w Q ht hr hk=>wp_label (hk F a w ht (N2.refl hr) rfl)⟩
 | exit id=>
  intro c hc T H nx k x r hw;simp[R18] at hc;subst hc;exact .inr ⟨.x id,T,H,nx,rfl,hw,fun F a w Q ht hr hk=>wp_exit (hk F a w ht (N2.refl hr) rfl)⟩
 | ret=>
  intro c hc T H nx k x r hw;simp[R18] at hc;subst hc;exact .inr ⟨.r,T,H,nx,rfl,hw,fun F a w Q ht hr hk=>wp_ret (hk F a w ht (N2.refl hr) rfl)⟩
 | goto l=>intro c hc;simp[R18] at hc
 | refuse a9=>intro c hc;simp[R18] at hc
 | rangeFunc f ps as b _ _=>intro c hc;simp[R18] at hc
 | region id ops draw=>
  intro c hc T H nx k x r hw;simp only[R18] at hc
  cases hl:R3 P n ops.toList ops.toList with
  | none=>simp[hl] at hc
  | some l=>
   simp only[hl] at hc
   cases draw with
   | false=>
    simp at hc;subst hc;show C9 P d call z k l T H nx=z\/∃ o T' H' nx',C9 P d call z k l T H nx=_/\_;rcases W58 (d:=d) hn W z k ops.toList l 0 hl O2 T H nx with h | ⟨T',H',nx',h,hw',hp⟩
    .exact .inl h
    .refine .inr ⟨.n,T',H',nx',h,(hw' hw).1,fun F a w Q ht hr hk=>wp_region ?_⟩
     have:=hp F a w Q ht hr hk;simpa [List.range_eq_range'] using this
   | true=>
    cases hs:E13 (U1 ops.toList) ops.toList ops.toList 0 with
    | false=>simp[hs] at hc
    | true=>
     simp[hs] at hc;subst hc;show Z28 P d call L z (U1 ops.toList) l T H nx k=z\/∃ o T' H' nx',Z28 P d call L z (U1 ops.toList) l T H nx k=_/\_;rcases V56 hm hl hs hn W a4 T H nx z k hw with h | ⟨T',H',nx',h,hw',hp⟩
     .exact .inl h
     .refine .inr ⟨.n,T',H',nx',h,hw'.1,fun F a w Q ht hr hk => ?_⟩
      have:=hp id F a w Q ht hr hk;simpa using this
 | seq a b O a1=>
  intro c hc T H nx k x r hw;simp only[R18] at hc
  cases ha:R18 P n a with
  | none=>simp[ha] at hc
  | some ca=>cases hb:R18 P n b with
   | none=>simp[ha,hb] at hc
   | some cb=>
    simp[ha,hb] at hc;subst hc;show N6 ca P d call L fx z T H nx (fun T H nx=>N6 cb P d call L fx z T H nx k x r) x r=z\/∃ o T' H' nx',N6 ca P d call L fx z T H nx (fun T H nx=>N6 cb P d call L fx z T H nx k x r) x r=_/\_;rcases O ca ha T H nx (fun T H nx=>N6 cb P d call L fx z T H nx k x r) x r hw with h | ⟨o,T1,H1,nx1,h,hw1,hok⟩
    .exact .inl h
    .cases o with
     | n=>
      rw[h];rcases a1 cb hb T1 H1 nx1 k x r hw1 with h2 | ⟨o2,T2,H2,nx2,h2,hw2,hok2⟩
      .exact .inl h2
      .refine .inr ⟨o2,T2,H2,nx2,h2,hw2,fun F ac w Q ht hr hk=>wp_seq (hok F ac w _ ht hr fun F' a' w' E B J => ?_)⟩
       exact hok2 F' a' w' Q E B.hr fun F2 a2 w2 a0 V U=>hk F2 a2 w2 a0 (B.trans V) (U.trans J)
     | x id=>exact .inr ⟨.x id,T1,H1,nx1,h,hw1,fun F ac w Q ht hr hk=>wp_seq (hok F ac w _ ht hr fun F' a' w' E B J=>hk F' a' w' E B J)⟩
     | r=>exact .inr ⟨.r,T1,H1,nx1,h,hw1,fun F ac w Q ht hr hk=>wp_seq (hok F ac w _ ht hr fun F' a' w' E B J=>hk F' a' w' E B J)⟩
 | cond v a b O a1=>
  intro c hc T H nx k x r hw;simp only[R18] at hc
  cases hv:W13 n v with
  | none=>simp[hv] at hc
  | some cv=>cases ha:R18 P n a with
   | none=>simp[hv,ha] at hc
   | some ca=>cases hb:R18 P n b with
    | none=>simp[hv,ha,hb] at hc
    | some cb=>
     simp[hv,ha,hb] at hc;subst hc;show(W4 T cv fun v=>match v with
      | .bool b=>ifK b (N6 ca P d call L fx z T H nx k x r) (N6 cb P d call L fx z T H nx k x r)
      | _=>z)=z\/∃ o T' H' nx',(W4 T cv fun v=>match v with
      | .bool b=>ifK b (N6 ca P d call L fx z T H nx k x r) (N6 cb P d call L fx z T H nx k x r)
      | _=>z)=_/\_
     rw[G2]
     split
     .rename_i t a6
      rw[E14];have a3:∀(F:FM) (ac:Act),TR d F T n ac.tmps->ac.eval v = .bool t:=fun F ac ht=>by
       have:=ht.evX hv;rw[a6] at this;exact this.bool_inv
      cases t with
      | true=>
       rcases O ca ha T H nx k x r hw with h | ⟨o,T1,H1,nx1,h,hw1,hok⟩
       .exact .inl h
       .exact .inr ⟨o,T1,H1,nx1,h,hw1,fun F ac w Q ht hr hk=>wp_cond_true (a3 F ac ht) (hok F ac w Q ht hr hk)⟩
      | false=>
       rcases a1 cb hb T H nx k x r hw with h | ⟨o,T1,H1,nx1,h,hw1,hok⟩
       .exact .inl h
       .exact .inr ⟨o,T1,H1,nx1,h,hw1,fun F ac w Q ht hr hk=>wp_cond_false (a3 F ac ht) (hok F ac w Q ht hr hk)⟩
     .exact .inl rfl
 | block id a O=>
  intro c hc T H nx k x r hw;simp only[R18] at hc
  cases ha:R18 P n a with
  | none=>simp[ha] at hc
  | some ca=>
   simp[ha] at hc;subst hc;show N6 ca P d call L fx z T H nx k (fun M T H nx=>cond (bR M id) (k T H nx) (x M T H nx)) r=z\/∃ o T' H' nx',N6 ca P d call L fx z T H nx k (fun M T H nx=>cond (bR M id) (k T H nx) (x M T H nx)) r=_/\_;rcases O ca ha T H nx k (fun M T H nx=>cond (bR M id) (k T H nx) (x M T H nx)) r hw with h | ⟨o,T1,H1,nx1,h,hw1,hok⟩
   .exact .inl h
   .cases o with
    | n=>exact .inr ⟨.n,T1,H1,nx1,h,hw1,fun F ac w Q ht hr hk=>wp_block (hok F ac w _ ht hr fun F' a' w' E B J=>hk F' a' w' E B J)⟩
    | r=>exact .inr ⟨.r,T1,H1,nx1,h,hw1,fun F ac w Q ht hr hk=>wp_block (hok F ac w _ ht hr fun F' a' w' E B J=>hk F' a' w' E B J)⟩
    | x M=>
     cases Z:bR M id with
     | true=>
      have e:=dI Z;subst e;refine .inr ⟨.n,T1,H1,nx1,by rw[h];simp[Ox.go],hw1,fun F ac w Q ht hr hk=>wp_block (hok F ac w _ ht hr fun F' a' w' E B J => ?_)⟩;simp only[Ox.exit,Exit.inBlock,if_true];exact hk F' a' w' E B J
     | false=>
      have e:M≠id:=fun e=>by subst e;simp at Z
      refine .inr ⟨.x M,T1,H1,nx1,by rw[h];simp[Ox.go,Z],hw1,fun F ac w Q ht hr hk=>wp_block (hok F ac w _ ht hr fun F' a' w' E B J => ?_)⟩;simp only[Ox.exit,Exit.inBlock,e,if_false];exact hk F' a' w' E B J
 | scope a O=>
  intro c hc T H nx k x r hw;simp only[R18] at hc;rcases O c hc T H nx k x r hw with h | ⟨o,T1,H1,nx1,h,hw1,hok⟩
  .exact .inl h
  .refine .inr ⟨o,T1,H1,nx1,h,hw1,fun F ac w Q ht hr hk=>wp_scope_straight (hok F ac w _ ht hr fun F' a' w' E B J => ?_)⟩
   cases o<;>exact hk F' a' w' E B J
 | loop a O=>
  intro c hc T H nx k x r hw;simp only[R18] at hc
  cases ha:R18 P n a with
  | none=>simp[ha] at hc
  | some ca=>
   simp[ha] at hc;subst hc;have Y:∀(m:Nat) (T:K0 Value) (H:Y0) (nx:Nat),WF d T ->
     D32 z (fun T H nx k=>N6 ca P d call L fx z T H nx k x r) m T H nx=z \/
     ∃(o:Ox) (T':K0 Value) (H':Y0) (nx':Nat),D32 z (fun T H nx k=>N6 ca P d call L fx z T H nx k x r) m T H nx=o.go k x r T' H' nx'/\WF d T' /\
      ∀(F:FM) (ac:Act) (w:World) (Q:Exit->Act->World->Prop),TR d F T n ac.tmps->HR F H nx w ->
       (∀ F' a' w',TR d F' T' n a'.tmps->N2 F H nx w F' H' nx' w'->a'.defers=ac.defers->Q o.exit a' w')->Code.rounds P a Q m ac w:=by
    intro m
    induction m with
    | zero=>intro T H nx _;exact .inl rfl
    | succ m a8=>
     intro T H nx hw;rcases O ca ha T H nx (D32 z (fun T H nx k=>N6 ca P d call L fx z T H nx k x r) m) x r hw with h | ⟨o,T1,H1,nx1,h,hw1,hok⟩
     .exact .inl h
     .cases o with
      | n=>
       rcases a8 T1 H1 nx1 hw1 with h2 | ⟨o2,T2,H2,nx2,h2,hw2,hok2⟩
       .exact .inl (h.trans h2)
       .refine .inr ⟨o2,T2,H2,nx2,h.trans h2,hw2,fun F ac w Q ht hr hk => ?_⟩
        rw[rounds_succ];refine hok F ac w _ ht hr fun F' a' w' E B J => ?_
        exact hok2 F' a' w' Q E B.hr fun F2 a2 w2 a0 V U=>hk F2 a2 w2 a0 (B.trans V) (U.trans J)
      | x id=>
       refine .inr ⟨.x id,T1,H1,nx1,h,hw1,fun F ac w Q ht hr hk => ?_⟩;rw[rounds_succ];exact hok F ac w _ ht hr fun F' a' w' E B J=>hk F' a' w' E B J
      | r=>
       refine .inr ⟨.r,T1,H1,nx1,h,hw1,fun F ac w Q ht hr hk => ?_⟩;rw[rounds_succ];exact hok F ac w _ ht hr fun F' a' w' E B J=>hk F' a' w' E B J
   rw[R54];obtain⟨m,a5⟩:=a7 z (fun ih T H nx=>N6 ca P d call L fx z T H nx ih x r) T H nx;rw[a5];rcases Y m T H nx hw with h | ⟨o,T1,H1,nx1,h,hw1,hok⟩
   .exact .inl h
   .exact .inr ⟨o,T1,H1,nx1,h,hw1,fun F ac w Q ht hr hk=>wp_loop_rounds m (hok F ac w Q ht hr hk)⟩
end
end
section
variable {F:FM} {args:List Value} {f:FuncId} {fn:Func} {β:Type}
section
variable {P:Program} {d n:Nat}
def Q34(tmps:Array Value):ResultVar->Sem Value
 | .tmp t=>pure (tmps.getD t undef)
 | .cell a t=>do loadVar t (<- asAddr (tmps.getD a undef))
def R31(tmps:Array Value):List ResultVar->Sem (List Value)
 | []=>pure []
 | r :: rs=>do
  let v <- Q34 tmps r
  let vs <- R31 tmps rs
  pure (v :: vs)
theorem B67(tmps:Array Value)(l:List ResultVar):l.mapM (Q34 tmps)=R31 tmps l:=by
 induction l with
 | nil=>rfl
 | cons r l ih=>simp only[List.mapM_cons,ih,R31]
theorem J29{tmps:Array Value}{w:World}{vs:List Value}(h:(R31 tmps fn.results.toList).run P w = .ok vs w):
  (results fn tmps).run P w = .ok (tup vs) w:=by
 have e:results fn tmps=(do let vs <- fn.results.mapM (Q34 tmps);pure (if h:vs.size=1 then vs[0] else .tuple vs)):=by
  unfold results;congr 1
 rw[e,Array.mapM_eq_mapM_toList,B67];simp only[aS,Sem.run_map,h,aM,bD]
 match vs with
 | []=>rfl
 | [v]=>rfl
 | v :: v' :: vs=>rfl
theorem B35{T:K0 Value}{H:Y0}{nx:Nat}(z:β):∀(rs:List ResultVar) (l:List (X × Option (Option Nat))),M17 P n rs=some l->∀(k:List Value->β),
  W24 P T H z k l=z\/∃ vs,W24 P T H z k l=k vs/\∀(F:FM) (tmps:Array Value) (w:World),TR d F T n tmps->HB F H nx w ->
   ∃ B,(R31 tmps rs).run P w = .ok B w/\VL F vs B:=by
 intro rs
 induction rs with
 | nil=>
  intro l hl k;simp[M17] at hl;subst hl;exact .inr ⟨[],rfl,fun F tmps w _ _=>⟨[],rfl,.nil⟩⟩
 | cons r rs ih=>
  intro l hl k;simp only[M17] at hl
  cases J:M17 P n rs with
  | none=>rw[J] at hl;split at hl<;>simp_all
  | some l2=>
   rw[J] at hl
   cases r with
   | tmp t=>
    cases ht:dE t n with
    | false=>simp[ht] at hl
    | true=>
     simp only[ht,cond_true,aZ] at hl;subst hl;have M:t<n:=by simpa [Nat.blt_eq] using ht
     simp only[W24];rw[G2];rcases ih l2 J (fun vs=>k (ev T (.s t) :: vs)) with h | ⟨vs,h,hok⟩
     .exact .inl h
     .refine .inr ⟨_,h,fun F tmps w E hb => ?_⟩
      obtain⟨B,h1,h2⟩:=hok F tmps w E hb;refine⟨tmps.getD t undef :: B,?_,.cons ?_ h2⟩
      .simp only[R31,Q34,aS,bD,aM,h1]
      .rw[E53];exact E.get t M
   | cell a t=>
    cases ht:dE a n with
    | false=>simp[ht] at hl
    | true=>
     cases L:E8 P t with
     | none=>simp[ht,L] at hl
     | some sh=>
      simp only[ht,L,cond_true,Option.map_some,aZ] at hl;subst hl;have M:a<n:=by simpa [Nat.blt_eq] using ht
      simp only[W24];show rLd (.s a) sh T H z _=z\/∃ vs,rLd (.s a) sh T H z _=_/\_;rcases M38 (nx:=nx) (T:=T) (H:=H) L (.s a) z (fun v=>W24 P T H z (fun vs=>k (v :: vs)) l2) with h | ⟨v,h,hp⟩
      .exact .inl h
      .rw[h]
       rcases ih l2 J (fun vs=>k (v :: vs)) with h | ⟨vs,h,hok⟩
       .exact .inl h
       .refine .inr ⟨_,h,fun F tmps w E hb => ?_⟩
        obtain⟨B,h1,h2⟩:=hok F tmps w E hb;obtain⟨ad,v',he,hr,hv⟩:=hp F (tmps.getD a undef) w (by rw[E53];exact E.get a M) hb;refine⟨v' :: B,?_,.cons hv h2⟩;have ha:(asAddr (tmps.getD a undef)).run P w = .ok ad w:=by rw[he];rfl
        simp only[R31,Q34,aS,ha,hr,bD,aM,h1]
theorem B58{l l':List Value}(h:VL F l l'):VR F (tup l) (tup l'):=by
 cases h with
 | nil=>exact VR.tuple' .nil
 | cons h t=>
  cases t with
  | nil=>exact h
  | cons h2 t=>exact VR.tuple' (.cons h (.cons h2 t))
def R17(d:Nat):List Value->Nat->K0 Value->K0 Value
 | [],_,T=>T
 | v :: l,i,T=>R17 d l (i+1) (ts d T i v)
theorem Z24{β:Type}(d:Nat)(f:K0 Value->β):∀(l:List Value) (i:Nat) (T:K0 Value),J27 d l i T f=f (R17 d l i T)
 | [],_,_=>rfl
 | v :: l,i,T=>by simp only[J27,R17];rw[Z15];exact Z24 d f l _ _
theorem Y19(d:Nat):∀(l:List Value) (i:Nat) (T:K0 Value),WF d T->WF d (R17 d l i T)
 | [],_,_,h=>h
 | v :: l,i,T,h=>Y19 d l (i+1) _ (U16 d T i v h)
theorem U38(d:Nat):∀(l:List Value) (i:Nat) (T:K0 Value) (j:Nat),WF d T->i+l.length<=2^d->j<2^d ->
  tg (R17 d l i T) j=if i<=j/\j<i+l.length then l[j-i]? else tg T j
 | [],i,T,j,_,_,_=>by simp[R17];omega
 | v :: l,i,T,j,hw,hl,hj=>by
  simp only[R17];simp only[cV] at hl;rw[U38 d l (i+1) _ j (U16 d T i v hw) O0 hj,K21 d T i j v hw O0 hj]
  by_cases h1:j=i
  .subst h1;rw[if_neg O0,if_pos rfl,if_pos O2];simp
  .by_cases h2:i<=j/\j<i+(l.length+1)
   .rw[if_pos O0,if_pos (by simpa using h2)]
    have:j-i=(j-(i+1))+1:=O0;rw[this];simp
   .rw[if_neg O0,if_neg h1,if_neg (by simpa using h2)]
theorem W32{B:List Value}(hv:VL F args B)(hn:n<=2^d)(hl:args.length<=n):
  TR d F (R17 d args 0 .leaf) n (B.toArray++fN (n-B.toArray.size) undef):=by
 have E:=hv.length;have wl:WF d (.leaf:K0 Value):=by cases d<;>trivial
 refine⟨Y19 d args 0 _ wl,by simp;omega,hn,fun t ht => ?_⟩;rw[U38 d args 0 .leaf t wl O0 O0]
 by_cases h:t<args.length
 .rw[if_pos O0]
  have h':t<B.length:=O0;have e1:args[t-0]? = some args[t]:=by simp[h]
  rw[e1];have e2:(B.toArray++fN (n-B.toArray.size) undef).getD t undef=B[t]:=by
   simp[Array.getD_eq_getD_getElem?,Array.getElem?_append,h']
  rw[e2];exact hv.get t _ _ (by simp[h]) (by simp[h'])
 .rw[if_neg O0]
  have e2:(B.toArray++fN (n-B.toArray.size) undef).getD t undef=undef:=by
   rw[Array.getD_eq_getD_getElem?,Array.getElem?_append,if_neg O5,Array.getElem?_replicate]
   split<;>rfl
  rw[e2];exact VR.undef F
def B42(P:Program)(B:Orc):Prop:=
 ∀ f o,B f=some o->∀ args H nx v H' nx',o args H nx=some (v,H',nx')->CS P f args H nx v H' nx'
theorem W130(P:Program):B42 P K134:=fun _ _ h=>by cases h
def J18 (P : Program) : Prop := ∀ (f : FuncId) (fn : Func), P.funcs[f]? = some fn -> (fn.name == "runtime.NumGoroutine") = false
theorem Y52 (hm : P.follows .mixedOrders = true) {c : Code} {body : C} {res : List (X × Option (Option Nat))} (hf : P.funcs[f]? = some fn) (E : (fn.name == "runtime.NumGoroutine") = false) (hb : fn.body = some c)
  (hc:R18 P fn.ntmps c=some body) (Q:M17 P fn.ntmps fn.results.toList=some res) (hd:fn.ntmps<=2^d) {call:Z3 β} (L:E11 P call) {M:E12 β} (W:W34 P M) {fx:E15 β} (Y:J56 fx) (args:List Value) (H:Y0) (nx:Nat) (z:β) (k:Value->Y0->Nat->β):
  W28 P call M fx args H nx z k fn.ntmps d body res=z\/∃ v H' nx',W28 P call M fx args H nx z k fn.ntmps d body res=k v H' nx'/\CS P f args H nx v H' nx':=by
 unfold W28
 cases hl:dD args.length fn.ntmps with
 | false=>exact .inl rfl
 | true=>
  have hl:=Nat.le_of_ble_eq_true hl;simp only[cond_true];rw[Z24];have wl:WF d (.leaf:K0 Value):=by cases d<;>trivial
  have hw:=Y19 d args 0 .leaf wl;rcases N51 hm hd L W Y z c body hc _ H nx (G14 P res z k) (fun _ _ _ _=>z) (G14 P res z k) hw with h | ⟨o,T',H',nx',h,hw',hok⟩
  .exact .inl h
  .rw[h]
   have U:∀ (hx:o = .n\/o = .r),G14 P res z k T' H' nx'=z\/∃ v V B,G14 P res z k T' H' nx'=k v V B/\CS P f args H nx v V B:=by
    intro hx;unfold G14;rcases B35 (d:=d) (T:=T') (H:=H') (nx:=nx') z _ res Q (fun vs=>M0 (tup vs) fun v=>k v H' nx') with h2 | ⟨vs,h2,hok2⟩
    .exact .inl h2
    .rw[h2,Y5]
     refine .inr ⟨tup vs,H',nx',rfl,⟨fn,c,hf,hb,E⟩,fun F a1 w hr hv => ?_⟩;refine calls_of_wp hf hb (hok F _ w _ (W32 hv hd hl) hr fun F' a' w' Z O a0 => ?_);obtain⟨R,h3,h4⟩:=hok2 F' a'.tmps w' Z O.hr.hb;have J:a'.defers=[]/\∃ v,(results fn a'.tmps).run P w' = .ok v w'/\(∃ v' F',Ending.returned v = .returned v'/\VR F' (tup vs) v'/\N2 F H nx w F' H' nx' w'):=
      ⟨a0,tup R,J29 h3,tup R,F',rfl,B58 h4,O⟩
     rcases hx with rfl | rfl<;>exact J
   cases o with
   | n=>exact U (.inl rfl)
   | x id=>exact .inl rfl
   | r=>exact U (.inr rfl)
theorem W22{β:Type}(hm:P.follows .mixedOrders=true)(M:J18 P){E:Orc}(ho:B42 P E):∀ n,E11 (β:=β) P (K42 P E n)
 | 0=>fun f args H nx z k => .inl rfl
 | n+1=>by
  intro f args H nx z k;show(match E f with
   | some o=>(match o args H nx with
    | some (v,H,nx)=>k v H nx
    | none=>z)
   | none=>match cfn P f with
    | some ⟨n',d,body,res⟩=>W28 P (K42 P E n) (D43 P) (N45 1000000) args H nx z k n' d body res
    | none=>z)=z\/∃ v H' nx',(match E f with
   | some o=>(match o args H nx with
    | some (v,H,nx)=>k v H nx
    | none=>z)
   | none=>match cfn P f with
    | some ⟨n',d,body,res⟩=>W28 P (K42 P E n) (D43 P) (N45 1000000) args H nx z k n' d body res
    | none=>z)=k v H' nx'/\_
  cases Q:E f with
  | some o=>
   dsimp only
   cases O:o args H nx with
   | none=>exact .inl rfl
   | some r=>obtain⟨v,H',nx'⟩:=r;exact .inr ⟨v,H',nx',rfl,ho f o Q _ _ _ _ _ _ O⟩
  | none=>
   dsimp only
   cases B:cfn P f with
   | none=>exact .inl rfl
   | some r=>
    unfold cfn at B;rw[Q8] at B
    cases hf:P.funcs.toList[f]? with
    | none=>simp[hf] at B
    | some fn=>
     simp only[hf] at B;have L:P.funcs[f]? = some fn:=by simpa using hf
     cases hb:fn.body with
     | none=>simp[hb] at B
     | some c=>
      simp only[hb] at B
      cases hc:R18 P fn.ntmps c with
      | none=>simp[hc] at B
      | some body=>
       cases J:M17 P fn.ntmps fn.results.toList with
       | none=>simp[hc,J] at B
       | some res=>
        simp only[hc,J,aZ] at B;subst B;dsimp only;exact Y52 hm L (M f fn L) hb hc J (eG Nat.lt_log2_self) (W22 hm M ho n) (Z67 P) (Z68 _) args H nx z k
theorem B56{E:Orc}(hm:P.follows .mixedOrders=true)(L:J18 P)(ho:B42 P E){v:Value}(hr:U46 P E n f args=some v)(ha:args.all M4=true)(hv:X7 v=true)(w:World)(J:GlW w):
  Calls P f args.toArray w fun e w'=>e = .returned v/\RowKit.Below w.heap.size w w':=by
 unfold U46 at hr;rcases W22 (β:=Option Value) hm L ho n f args .leaf 0 none (fun v _ _=>some v) with h | ⟨v',H',nx',h,hcs⟩
 .rw[h] at hr;cases hr
 .rw[h] at hr;cases hr
  have h0:HR (fun _=>none) .leaf 0 w:=
   ⟨fun i b hi=>O0,fun i j bi bj ti tj hi=>O0,fun _ _=>rfl,fun _ _=>rfl,⟨J,fun x hx ⟨i,_,_,hi,_⟩=>O0⟩⟩
  refine(hcs.2 (fun _=>none) args w h0 (J10 _ args ha)).mono fun e w' ⟨v',F',he,M,B⟩ => ?_
  refine⟨by rw[he,R51 M hv],B.os,B.tape,B.output,B.size,fun b hb=>B.frame b hb fun⟨i,_,_,hi,_⟩=>O0⟩
end
end
section
variable {H:Y0} {T:K0 Value} {d nx:Nat} {g:Option (Nat × Bool)} {l:List S} {v:Value} {β:Type}
def Q2(P:Program)(f:FuncId)(args:List Value)(H:Y0)(nx:Nat)(Q:Value->Y0->Nat->Prop):Prop:=
 ∃ v H' nx',CS P f args H nx v H' nx'/\Q v H' nx'
def M8(P:Program):Z3 Prop:=fun f args H nx z k=>z\/Q2 P f args H nx k
theorem X48(P:Program):E11 P (M8 P):=by
 intro f args H nx z k
 by_cases hz:z
 .exact .inl (by unfold M8;simp[hz])
 .by_cases h:Q2 P f args H nx k
  .obtain⟨v,H',nx',B,hk⟩:=h
   refine .inr ⟨v,H',nx',?_,B⟩;unfold M8;apply propext;exact⟨fun _=>hk,fun _ => .inr ⟨v,H',nx',B,hk⟩⟩
  .exact .inl (by unfold M8;apply propext;exact⟨fun hh=>hh.elim id (fun hh=>absurd hh h),.inl⟩)
theorem Q2.mono{P:Program}{f:FuncId}{args:List Value}{Q Q':Value->Y0->Nat->Prop}(h:Q2 P f args H nx Q)(hq:∀ v H' nx',Q v H' nx'->Q' v H' nx'):Q2 P f args H nx Q':=
 let ⟨v,H',nx',h1,h2⟩:=h;⟨v,H',nx',h1,hq _ _ _ h2⟩
def N27(P:Program)(ms:List Nat)(N:Nat)(as:List (Nat × V3))(r:Rd):List Nat->List Y0->Y0->List Nat->Prop
 | es,Ms,M,later=>
  (cond (es.any (fun e=>D2 ms e r.i) || later.any (fun e=>D2 ms r.i e)) True
   (U13 ms N es r.i M (fun h=>M9 P r.r r.T h False fun v=>v=r.v) as)) /\
  (match es,Ms with
   | e :: es',M' :: Ms'=>cond (D2 ms r.i e) True (N27 P ms N as r es' Ms' M' (e :: later))
   | [],[]=>True
   | _,_=>False)
def Q55(P:Program)(ms:List Nat)(N:Nat)(as:List (Nat × V3))(es:List Nat)(Ms:List Y0)(H:Y0):List Rd->Prop
 | []=>True
 | r :: rs=>N27 P ms N as r es Ms H []/\Q55 P ms N as es Ms H rs
def W62(P:Program):E12 Prop:=fun ms N as rs es Ms H y z=>(Q55 P ms N as es Ms H rs/\y)\/z
theorem B31{P:Program}{ms:List Nat}{N:Nat}{as:List (Nat × V3)}{r:Rd}{H0:Y0}:∀(rc:List D3) (B:List Nat),N27 P ms N as r (D1 rc) (W6 H0 rc) (hR H0 rc) B->∀(pre l':List D3),rc=pre++l' ->
  (∀ e,e ∈ D1 rc->e ∉ D1 l'->D2 ms r.i e=false)->(∀ e ∈ B,D2 ms r.i e=false)->(∀ e ∈ D1 l',D2 ms e r.i=false) ->
  M9 P r.r r.T (X8 N (fun j=>D2 ms r.i j && !Y3 ms (D1 l') j) (hR H0 l') as) False (fun v=>v=r.v)
 | rc,B,h,[],l',e,_,h2,h3=>by
  simp at e;subst e;rw[N27.eq_def] at h;have c1:((D1 rc).any (fun e=>D2 ms e r.i) || B.any (fun e=>D2 ms r.i e))=false:=by
   rw[Bool.or_eq_false_iff];refine⟨?_,?_⟩
   .rw[List.any_eq_false];intro x hx;simp[h3 x hx]
   .rw[List.any_eq_false];intro x hx;simp[h2 x hx]
  have:=h.1;rw[c1] at this;simp only[cond_false] at this;rw[Q18] at this;exact this
 | [],B,h,p :: pre,l',e,_,_,_=>by simp at e
 | r0 :: l,B,h,p :: pre,l',e,h1,h2,h3=>by
  simp at e;obtain⟨rfl,rfl⟩:=e
  cases E:r0.inf with
  | e H' nx'=>
   simp only[D1,W6,hR,E] at h;rw[N27.eq_def] at h;have hb:=h.2;dsimp only at hb;have J:D2 ms r.i (pre++l').length=false:=h1 _ (by simp[D1,E]) (fun hm=>by have:=K19 hm;simp at this;omega);rw[J] at hb;simp only[cond_false] at hb;refine B31 (pre++l') _ hb pre l' rfl (fun e he hn=>h1 e (by simp[D1,E,he]) hn) ?_ h3;intro e he;rcases aU.1 he with rfl | he
   .exact J
   .exact h2 e he
  | _=>
   simp only[D1,W6,hR,E] at h;exact B31 (pre++l') B h pre l' rfl (fun e he hn=>h1 e (by simp[D1,E,he]) hn) h2 h3
theorem Y43{P:Program}{ms:List Nat}{N:Nat}{as:List (Nat × V3)}{es:List Nat}{Ms:List Y0}{H:Y0}:∀ {rs:List Rd},Q55 P ms N as es Ms H rs->∀ r ∈ rs,N27 P ms N as r es Ms H []
 | [],_,r,hr=>by cases hr
 | r0 :: rs,h,r,hr=>by
  rcases aU.1 hr with rfl | hr
  .exact h.1
  .exact Y43 h.2 r hr
theorem M66(P:Program):W34 P (W62 P):=by
 intro d n ops N H0 rc y z;unfold W62
 by_cases hz:z
 .exact .inl (by apply propext;simp[hz])
 .by_cases E:Q55 P (U1 ops) N (B3 rc) (D1 rc) (W6 H0 rc) (hR H0 rc) (G6 rc)
  .refine .inr ⟨by apply propext;simp[E,hz],fun r hr pre l' J h1 h2 nx o hc => ?_⟩
   have B:=B31 rc [] (Y43 E r hr) pre l' J h1 O2 h2;rcases U34 (P:=P) (d:=d) (n:=n) (nx:=nx) (o:=o) (T:=r.T) (H:=X8 N (fun j=>D2 (U1 ops) r.i j && !Y3 (U1 ops) (D1 l') j) (hR H0 l') (B3 rc)) hc False (fun v=>v=r.v) with h | ⟨v,h,hrv⟩
   .rw[h] at B;exact B.elim
   .rw[h] at B
    rw[<- B];exact hrv
  .exact .inl (by apply propext;simp[E])
def Y9(g:Option (Nat × Bool))(T:K0 Value):Option Bool:=V8 g T none (some true) (some false)
theorem X10(g:Option (Nat × Bool))(T:K0 Value)(z E no:β):V8 g T z E no=match Y9 g T with | none=>z | some true=>E | some false=>no:=by
 unfold Y9 V8
 cases g with
 | none=>rfl
 | some tw=>
  obtain⟨t,B⟩:=tw;dsimp only;rw[J11,J11]
  cases tg T t with
  | none=>rfl
  | some v=>
   dsimp only[aN]
   cases v<;>try rfl
   rename_i b;dsimp only;rw[E14,E14]
   cases b<;>cases B<;>rfl
theorem M62{t q:Nat}{B:Bool}(hw:WF d T)(ht:t<2^d)(hq:q<2^d)(E:q≠t):Y9 (some (t,B)) (ts d T q v)=Y9 (some (t,B)) T:=by
 unfold Y9 V8;dsimp only;rw[J11,J11,K21 d T q t v hw hq ht,if_neg (eT E)]
theorem D49{α:Type}:∀(d:Nat) (T:K0 α) (t:Nat) (v:α),WF d T->t<2^d->tg T t=some v->ts d T t v=T:=by
 intro d
 induction d with
 | zero=>
  intro T t v hw ht hg
  cases T with
  | leaf=>simp at hg
  | tip a=>simp at hg;subst hg;rfl
  | node l r=>exact hw.elim
 | succ d ih=>
  intro T t v hw ht hg;have B:t/2<2^d:=by rw[dR] at ht;omega
  cases T with
  | leaf=>simp at hg
  | tip a=>exact hw.elim
  | node l r=>
   rw[G36] at hg;rw[R36];dsimp only
   split at hg
   .rename_i h;rw[if_pos h,ih l _ v hw.1 B hg]
   .rename_i h;rw[if_neg h,ih r _ v hw.2 B hg]
def okT(d:Nat):Option (Nat × Bool)->Bool
 | none=>true
 | some (t,_)=>dE t (2^d)
inductive HT where
 | nil
 | one (r:HT)
 | tst (y n:HT)
abbrev G:=Option (Nat × Bool) × List S
def Y8(g:Option (Nat × Bool))(s:S):S:=⟨g,s.dst,s.i⟩
def Q11:List G->List S
 | []=>[]
 | (g,l) :: gs=>l.map (Y8 g)++Q11 gs
def okL(d:Nat)(g:Option (Nat × Bool)):List S->Bool
 | []=>true
 | s :: l=>(match s.guard with | none=>true | some _=>false)&&(match g,s.dst with
  | some (t,_),some q=>dE t (2^d)&&dE q (2^d) && !(bR q t)
  | _,_=>true)&&okL d g l
def okG(d:Nat):List G->Bool
 | []=>true
 | (g,l) :: gs=>okL d g l&&(match l with | []=>false | _=>true)&&okG d gs&&okT d g
def Y15{β:Type}(d:Nat)(k:K0 Value->β):List S->K0 Value->β
 | [],T=>k T
 | s :: l,T=>E4 d s.dst undef T fun T=>Y15 d k l T
def B30(d:Nat)(dst:Option Nat)(v:Value)(T:K0 Value):K0 Value:=
 match dst with
 | none=>T
 | some t=>ts d T t v
theorem R46(d:Nat)(dst:Option Nat)(v:Value)(T:K0 Value)(k:K0 Value->β):E4 d dst v T k=k (B30 d dst v T):=by
 cases dst with
 | none=>rfl
 | some t=>exact Z15 d T t v k
theorem K28{dst:Option Nat}(h:WF d T):WF d (B30 d dst v T):=by
 cases dst with
 | none=>exact h
 | some t=>exact U16 d T t v h
theorem V21{s:S}(hw:WF d T)(B:okL d g (s :: l)=true):Y9 g (B30 d s.dst v T)=Y9 g T:=by
 cases g with
 | none=>rfl
 | some tw=>
  obtain⟨t,E⟩:=tw
  cases hd:s.dst with
  | none=>rfl
  | some q=>
   simp only[okL,hd,aG,Nat.blt_eq] at B;exact M62 hw B.1.2.1.1 B.1.2.1.2 (by rintro rfl;have:=B.1.2.2;simp at this)
theorem J23{s:S}(h:okL d g (s :: l)=true):okL d g l=true:=by
 simp only[okL,aG] at h;exact h.2
theorem X43{s:S}(h:okL d g (s :: l)=true):s.guard=none:=by
 simp only[okL,aG] at h
 cases hg:s.guard with
 | none=>rfl
 | some _=>rw[hg] at h;cases h.1.1
section
variable {β:Type} {P:Program} {d:Nat} {call:Z3 β} {z:β}
theorem M25(k:K0 Value->Y0->Nat->β)(s:S)(l:List S)(T:K0 Value)(H:Y0)(nx:Nat):C9 P d call z k (s :: l) T H nx=U18 P d call s T H nx z (C9 P d call z k l):=rfl
theorem J31(g:Option (Nat × Bool))(dst:Option Nat)(i:I)(T:K0 Value)(H:Y0)(nx:Nat)(k:K0 Value->Y0->Nat->β):
  U18 P d call ⟨g,dst,i⟩ T H nx z k=V8 g T z (V30 i P d dst call T H nx z k) (E4 d dst undef T fun T=>k T H nx):=rfl
theorem G39(T:K0 Value):Y9 none T=some true:=rfl
theorem Q54(i:I)(dst:Option Nat)(T:K0 Value)(H:Y0)(nx:Nat)(k k':K0 Value->Y0->Nat->β)(h:∀ v H nx,k (B30 d dst v T) H nx=k' (B30 d dst v T) H nx):
  V30 i P d dst call T H nx z k=V30 i P d dst call T H nx z k':=by
 cases i with
 | p i=>
  show X4 P i T z (fun v=>E4 d dst v T fun T=>k T H nx)=X4 P i T z (fun v=>E4 d dst v T fun T=>k' T H nx);congr 1;funext v;rw[R46,R46,h]
 | r i=>
  show M9 P i T H z (fun v=>E4 d dst v T fun T=>k T H nx)=M9 P i T H z (fun v=>E4 d dst v T fun T=>k' T H nx);congr 1;funext v;rw[R46,R46,h]
 | a i=>
  show evA i T z (J36 d dst T H nx k)=evA i T z (J36 d dst T H nx k');congr 1;funext b y;unfold J36;rw[G4,G4,G1,G1,E7,E7,R46,R46,h]
 | e i=>
  show D6 i call T H nx z (fun v H nx=>E4 d dst v T fun T=>k T H nx)=D6 i call T H nx z (fun v H nx=>E4 d dst v T fun T=>k' T H nx);congr 1;funext v H nx;rw[R46,R46,h]
theorem M49(g:Option (Nat × Bool))(k:K0 Value->Y0->Nat->β):∀(l:List S) (T:K0 Value) (H:Y0) (nx:Nat),WF d T->okL d g l=true->Y9 g T=some true ->
  C9 P d call z k (l.map (Y8 g)) T H nx=C9 P d call z k l T H nx
 | [],T,H,nx,_,_,_=>rfl
 | s :: l,T,H,nx,hw,hok,hd=>by
  obtain⟨g0,dst,i⟩:=s;have B:g0=none:=X43 hok;subst B;rw[aC,M25,M25];show U18 P d call ⟨g,dst,i⟩ T H nx z _=_;rw[J31,J31,X10,X10 none,hd,G39];exact Q54 i dst T H nx _ _ fun v H nx=>M49 g k l _ H nx (K28 hw) (J23 hok) ((V21 hw hok).trans hd)
theorem X59(g:Option (Nat × Bool))(k:K0 Value->Y0->Nat->β):∀(l:List S) (T:K0 Value) (H:Y0) (nx:Nat),WF d T->okL d g l=true->Y9 g T=some false ->
  C9 P d call z k (l.map (Y8 g)) T H nx=Y15 d (fun T=>k T H nx) l T
 | [],T,H,nx,_,_,_=>rfl
 | s :: l,T,H,nx,hw,hok,hd=>by
  obtain⟨g0,dst,i⟩:=s;rw[aC,M25];show U18 P d call ⟨g,dst,i⟩ T H nx z _=_;rw[J31,X10,hd];simp only[Y15];rw[R46,R46];exact X59 g k l _ H nx (K28 hw) (J23 hok) ((V21 (s:=⟨g0,dst,i⟩) hw hok).trans hd)
end
def G54(d:Nat)(g:Option (Nat × Bool))(T:K0 Value)(B no:K0 Value->Prop):Prop:=
 match g with
 | none=>False
 | some (t,want)=>N9 T t False fun v=>match v with
  | .bool b=>ifK (cond b want (!want)) (E9 d T t (.bool want) B) (E9 d T t (.bool (!want)) no)
  | _=>False
theorem Q51{E no:K0 Value->Prop}(hw:WF d T)(hg:okT d g=true)(h:G54 d g T E no):(Y9 g T=some true/\E T)\/(Y9 g T=some false/\no T):=by
 unfold G54 at h;unfold Y9 V8
 cases g with
 | none=>exact h.elim
 | some tw=>
  obtain⟨t,B⟩:=tw;have ht:t<2^d:=by simpa [okT] using hg
  dsimp only at h ⊢;rw[J11] at h ⊢
  cases hv:tg T t with
  | none=>rw[hv] at h;exact h.elim
  | some v=>
   rw[hv] at h;dsimp only[aN] at h ⊢
   split at h
   .rename_i b
    dsimp only;rw[E14,Z15,Z15] at h;rw[E14]
    cases hb:cond b B (!B) with
    | true=>
     have:b=B:=by cases b<;>cases B<;>first | rfl | cases hb
     subst this;rw[hb,if_pos rfl,D49 d T t _ hw ht hv] at h;exact .inl ⟨rfl,h⟩
    | false=>
     have:b=(!B):=by cases b<;>cases B<;>first | rfl | cases hb
     subst this;rw[hb,if_neg O2,D49 d T t _ hw ht hv] at h;exact .inr ⟨rfl,h⟩
   .exact h.elim
def Q17(P:Program)(d:Nat)(k:K0 Value->Y0->Nat->Prop):List G->HT->K0 Value->Y0->Nat->Prop
 | [],_,T,H,nx=>k T H nx
 | (g,l) :: gs,ht,T,H,nx=>match ht with
  | .nil=>False
  | .one r=>V8 g T False (C9 P d (M8 P) False (Q17 P d k gs r) l T H nx) (Y15 d (fun T=>Q17 P d k gs r T H nx) l T)
  | .tst y n=>G54 d g T (fun T=>C9 P d (M8 P) False (Q17 P d k gs y) l T H nx) (fun T=>Y15 d (fun T=>Q17 P d k gs n T H nx) l T)
section
variable {P:Program} {d n:Nat} {ops:List Oper}
theorem W19{l2:List S}:∀ {l1:List S} {suf:List Oper},R3 P n ops suf=some (l1++l2)->∃ s1 s2,suf=s1++s2/\R3 P n ops s1=some l1/\R3 P n ops s2=some l2
 | [],suf,h=>⟨[],suf,rfl,rfl,h⟩
 | s :: l1,[],h=>by simp[R3] at h
 | s :: l1,o :: suf,h=>by
  simp only[R3] at h
  cases hs:K16 P n ops o with
  | none=>simp[hs] at h
  | some s'=>cases hl:R3 P n ops suf with
   | none=>simp[hs,hl] at h
   | some l'=>
    simp[hs,hl] at h;obtain⟨rfl,rfl⟩:=h;obtain⟨s1,s2,h1,h2,h3⟩:=W19 hl;exact⟨o :: s1,s2,by rw[h1];rfl,by simp[R3,hs,h2],h3⟩
theorem J34(g:Option (Nat × Bool)):∀(l:List S),Q10 (l.map (Y8 g))=Q10 l
 | []=>rfl
 | s :: l=>by simp[Q10,J34 g l,Y8]
def X28:List G->List Nat
 | []=>[]
 | (_,l) :: gs=>Q10 l++X28 gs
theorem W27{T:K0 Value}{k:K0 Value->Y0->Nat->Prop}(hw:WF d T)(B:okL d g l=true)(h:(Y9 g T=some true/\C9 P d (M8 P) False k l T H nx)\/(Y9 g T=some false/\Y15 d (fun T=>k T H nx) l T)):C9 P d (M8 P) False k (l.map (Y8 g)) T H nx:=by
 rcases h with ⟨hd,h⟩ | ⟨hd,h⟩
 .rw[M49 g k l T H nx hw B hd];exact h
 .rw[X59 g k l T H nx hw B hd];exact h
theorem D33(hn:n<=2^d)(k:K0 Value->Y0->Nat->Prop):∀(gs:List G) (ht:HT) (suf:List Oper) (i:Nat),R3 P n ops suf=some (Q11 gs)->(∀ j,j<suf.length->suf[j]? = ops[i+j]?)->okG d gs=true->∀(T:K0 Value) (H:Y0) (nx:Nat),WF d T ->
  Q17 P d k gs ht T H nx->∃ T' H' nx',k T' H' nx'/\WF d T'/\U8 n (X28 gs) T T' /\
   ∀(F:FM) (a:Act) (w:World) (Q:Exit->Act->World->Prop),TR d F T n a.tmps->HR F H nx w ->
    (∀ F' a' w',TR d F' T' n a'.tmps->N2 F H nx w F' H' nx' w'->a'.defers=a.defers->Q .normal a' w')->wpOps P ops.toArray Q (List.range' i suf.length) a w
 | [],ht,suf,i,hc,hsuf,hok,T,H,nx,hw,h=>by
  cases suf with
  | nil=>exact⟨T,H,nx,h,hw,U8.refl _ _ _,fun F a w Q ht hr hk=>hk F a w ht (N2.refl hr) rfl⟩
  | cons o suf=>
   simp only[Q11,R3] at hc
   split at hc<;>simp at hc
 | (g,l) :: gs,ht,suf,i,hc,hsuf,hok,T,H,nx,hw,h=>by
  simp only[okG,aG] at hok;obtain⟨s1,s2,rfl,U,O⟩:=W19 hc;have V:∃ B,C9 P d (M8 P) False (Q17 P d k gs B) (l.map (Y8 g)) T H nx:=by
   simp only[Q17] at h
   cases ht with
   | nil=>exact h.elim
   | one r=>
    dsimp only at h;rw[X10] at h;refine⟨r,W27 hw hok.1.1.1 ?_⟩
    cases hd:Y9 g T with
    | none=>rw[hd] at h;exact h.elim
    | some b=>
     rw[hd] at h
     cases b with
     | true=>exact .inl ⟨rfl,h⟩
     | false=>exact .inr ⟨rfl,h⟩
   | tst y m=>
    dsimp only at h;rcases Q51 hw hok.2 h with ⟨hd,h⟩ | ⟨hd,h⟩
    .exact⟨y,W27 hw hok.1.1.1 (.inl ⟨hd,h⟩)⟩
    .exact⟨m,W27 hw hok.1.1.1 (.inr ⟨hd,h⟩)⟩
  obtain⟨B,h'⟩:=V;have R:∀ j,j<s1.length->s1[j]? = ops[i+j]? := fun j hj=>by
   have:=hsuf j O5;rw[bQ hj] at this;exact this
  have a1:∀ j,j<s2.length->s2[j]? = ops[i+s1.length+j]? := fun j hj=>by
   have:=hsuf (s1.length+j) O5;rw[bS O0] at this;simpa [eH] using this
  rcases D37 (d:=d) hn (X48 P) False (Q17 P d k gs B) s1 _ i U R T H nx with h1 | ⟨T1,H1,nx1,h1,hw1,hp1⟩
  .rw[h1] at h';exact h'.elim
  .rw[h1] at h'
   obtain⟨T2,H2,nx2,h2,Y,M,W⟩:=D33 hn k gs B s2 (i+s1.length) O a1 hok.1.2 T1 H1 nx1 (hw1 hw).1 h';refine⟨T2,H2,nx2,h2,Y,?_,fun F a w Q ht hr hk => ?_⟩
   .have:=(hw1 hw).2
    rw[J34] at this;exact this.trans M
   .have e:List.range' i (s1++s2).length=List.range' i s1.length++List.range' (i+s1.length) s2.length:=by
     rw[bH,<- List.range'_append];simp
    rw[e];refine hp1 F a w Q _ ht hr fun F' a' w' B E Z => ?_
    exact W F' a' w' Q B E.hr fun F2 a2 w2 a0 L J=>hk F2 a2 w2 a0 (E.trans L) (J.trans Z)
end
end
section
variable {T:K0 Value} {d n:Nat}
abbrev DK(β:Type):=K0 Value->Y0->Nat->List Y0->List Nat->List (Nat × V3)->List Rd->β
section
variable {β:Type} {P:Program} {d:Nat} {call:Z3 β} {z:β} {ms:List Nat} {N:Nat}
def X42(P:Program)(d:Nat)(call:Z3 β)(ms:List Nat)(N:Nat)(z:β)(k:DK β)(dst:Option Nat)(op:I)(i:Nat):DK β:=fun T H nx Ms es as rs=>
 match op with
   | .p op=>X4 P op T z fun v=>E4 d dst v T fun T=>k T H nx Ms es as rs
   | .r op=>U13 ms N es i H (fun h=>M9 P op T h z fun v=>E4 d dst v T fun T'=>k T' H nx Ms es as (⟨i,op,T,v⟩ :: rs)) as
   | .a op=>evA op T z fun b y=>M2 (N+i) fun q=>M0 (y.val q) fun v=>E4 d dst v T fun T=>k T H nx Ms es ((i,b) :: as) rs
   | .e op=>cond (es.all fun e=>D2 ms i e)
    (U13 ms N es i H (fun h=>D6 op call T h nx z fun v H' nx=>E4 d dst v T fun T=>k T H' nx (H :: Ms) (i :: es) as rs) as) z
theorem K23(k:DK β)(g:Option (Nat × Bool))(dst:Option Nat)(op:I)(l:List S)(i:Nat)(T:K0 Value)(H:Y0)(nx:Nat)(Ms:List Y0)(es:List Nat)(as:List (Nat × V3))(rs:List Rd):
  Z4 P d call ms N z k (⟨g,dst,op⟩ :: l) i T H nx Ms es as rs=V8 g T z (X42 P d call ms N z (Z4 P d call ms N z k l (i+1)) dst op i T H nx Ms es as rs)
   (E4 d dst undef T fun T=>Z4 P d call ms N z k l (i+1) T H nx Ms es as rs):=rfl
theorem G49(k k':DK β)(dst:Option Nat)(op:I)(i:Nat)(T:K0 Value)(H:Y0)(nx:Nat)(Ms:List Y0)(es:List Nat)(as:List (Nat × V3))(rs:List Rd)(h:∀ v H nx Ms es as rs,k (B30 d dst v T) H nx Ms es as rs=k' (B30 d dst v T) H nx Ms es as rs):X42 P d call ms N z k dst op i T H nx Ms es as rs=X42 P d call ms N z k' dst op i T H nx Ms es as rs:=by
 unfold X42
 cases op with
 | p op=>dsimp only;congr 1;funext v;rw[R46,R46,h]
 | r op=>dsimp only;congr 1;funext hh;congr 1;funext v;rw[R46,R46,h]
 | a op=>dsimp only;congr 1;funext b y;rw[G1,G1,Y5,Y5,R46,R46,h]
 | e op=>dsimp only;congr 1;congr 1;funext hh;congr 1;funext v H' nx';rw[R46,R46,h]
theorem Q47(g:Option (Nat × Bool))(k:DK β):∀(l:List S) (i:Nat) (T:K0 Value) (H:Y0) (nx:Nat) (Ms:List Y0) (es:List Nat) (as:List (Nat × V3)) (rs:List Rd),WF d T->okL d g l=true->Y9 g T=some true ->
  Z4 P d call ms N z k (l.map (Y8 g)) i T H nx Ms es as rs=Z4 P d call ms N z k l i T H nx Ms es as rs
 | [],i,T,H,nx,Ms,es,as,rs,_,_,_=>rfl
 | s :: l,i,T,H,nx,Ms,es,as,rs,hw,hok,hd=>by
  obtain⟨g0,dst,op⟩:=s;have B:g0=none:=X43 hok;subst B;show Z4 P d call ms N z k (⟨g,dst,op⟩ :: l.map (Y8 g)) i T H nx Ms es as rs=_;rw[K23,K23,X10,X10 none,hd,G39];exact G49 _ _ dst op i T H nx Ms es as rs fun v H nx Ms es as rs=>Q47 g k l (i+1) _ H nx Ms es as rs (K28 hw) (J23 hok) ((V21 hw hok).trans hd)
theorem N49(g:Option (Nat × Bool))(k:DK β):∀(l:List S) (i:Nat) (T:K0 Value) (H:Y0) (nx:Nat) (Ms:List Y0) (es:List Nat) (as:List (Nat × V3)) (rs:List Rd),WF d T->okL d g l=true->Y9 g T=some false ->
  Z4 P d call ms N z k (l.map (Y8 g)) i T H nx Ms es as rs=Y15 d (fun T=>k T H nx Ms es as rs) l T
 | [],i,T,H,nx,Ms,es,as,rs,_,_,_=>rfl
 | s :: l,i,T,H,nx,Ms,es,as,rs,hw,hok,hd=>by
  obtain⟨g0,dst,op⟩:=s;show Z4 P d call ms N z k (⟨g,dst,op⟩ :: l.map (Y8 g)) i T H nx Ms es as rs=_;rw[K23,X10,hd];simp only[Y15];rw[R46,R46];exact N49 g k l (i+1) _ H nx Ms es as rs (K28 hw) (J23 hok) ((V21 (s:=⟨g0,dst,op⟩) hw hok).trans hd)
end
def G16(P:Program)(d:Nat)(ms:List Nat)(N:Nat)(k:DK Prop):List G->HT->Nat->DK Prop
 | [],_,_,T,H,nx,Ms,es,as,rs=>k T H nx Ms es as rs
 | (g,l) :: gs,ht,i,T,H,nx,Ms,es,as,rs=>match ht with
  | .nil=>False
  | .one r=>V8 g T False
   (Z4 P d (M8 P) ms N False (fun T H nx Ms es as rs=>G16 P d ms N k gs r (i+l.length) T H nx Ms es as rs) l i T H nx Ms es as rs)
   (Y15 d (fun T=>G16 P d ms N k gs r (i+l.length) T H nx Ms es as rs) l T)
  | .tst y n=>G54 d g T
   (fun T=>Z4 P d (M8 P) ms N False (fun T H nx Ms es as rs=>G16 P d ms N k gs y (i+l.length) T H nx Ms es as rs) l i T H nx Ms es as rs)
   (fun T=>Y15 d (fun T=>G16 P d ms N k gs n (i+l.length) T H nx Ms es as rs) l T)
theorem U30{P:Program}{ms:List Nat}{N:Nat}{g:Option (Nat × Bool)}{l:List S}{i:Nat}{T:K0 Value}{H:Y0}{nx:Nat}{Ms:List Y0}{es:List Nat}{as:List (Nat × V3)}{rs:List Rd}{k:DK Prop}(hw:WF d T)(B:okL d g l=true)(h:(Y9 g T=some true/\Z4 P d (M8 P) ms N False k l i T H nx Ms es as rs)\/(Y9 g T=some false/\Y15 d (fun T=>k T H nx Ms es as rs) l T)):Z4 P d (M8 P) ms N False k (l.map (Y8 g)) i T H nx Ms es as rs:=by
 rcases h with ⟨hd,h⟩ | ⟨hd,h⟩
 .rw[Q47 g k l i T H nx Ms es as rs hw B hd];exact h
 .rw[N49 g k l i T H nx Ms es as rs hw B hd];exact h
theorem Z39{P:Program}{d n:Nat}{ops:List Oper}{N:Nat}{H0:Y0}{n0:Nat}{T0:K0 Value}(hn:n<=2^d)(k:DK Prop):
  ∀(gs:List G) (ht:HT) (suf:List Oper) (rc:List D3) (T:K0 Value),R3 P n ops suf=some (Q11 gs)->(∀ j,j<suf.length->suf[j]? = ops[rc.length+j]?)->okG d gs=true->B11 P d n ops N H0 n0 T0 rc->WF d T->(∀ t,t<n->(tg T t).getD undef=C10 ops T0 rc t) ->
  G16 P d (U1 ops) N k gs ht rc.length T (hR H0 rc) (nR n0 rc) (W6 H0 rc) (D1 rc) (B3 rc) (G6 rc) ->
  ∃ B T',B.length=rc.length+suf.length/\B11 P d n ops N H0 n0 T0 B/\WF d T'/\(∀ t,t<n->(tg T' t).getD undef=C10 ops T0 B t) /\
   k T' (hR H0 B) (nR n0 B) (W6 H0 B) (D1 B) (B3 B) (G6 B)
 | [],ht,suf,rc,T,hc,hsuf,hok,hall,hw,hT,h=>by
  cases suf with
  | nil=>exact⟨rc,T,rfl,hall,hw,hT,h⟩
  | cons o suf=>
   simp only[Q11,R3] at hc
   split at hc<;>simp at hc
 | (g,l) :: gs,ht,suf,rc,T,hc,hsuf,hok,hall,hw,hT,h=>by
  simp only[okG,aG] at hok;obtain⟨s1,s2,rfl,J,L⟩:=W19 hc;have U:l.length=s1.length:=by have:=K18 J;simpa using this
  have O:∃ E,Z4 P d (M8 P) (U1 ops) N False (fun T H nx Ms es as rs=>G16 P d (U1 ops) N k gs E (rc.length+l.length) T H nx Ms es as rs) (l.map (Y8 g)) rc.length T (hR H0 rc) (nR n0 rc) (W6 H0 rc) (D1 rc) (B3 rc) (G6 rc):=by
   simp only[G16] at h
   cases ht with
   | nil=>exact h.elim
   | one r=>
    dsimp only at h;rw[X10] at h;refine⟨r,U30 hw hok.1.1.1 ?_⟩
    cases hd:Y9 g T with
    | none=>rw[hd] at h;exact h.elim
    | some b=>
     rw[hd] at h
     cases b with
     | true=>exact .inl ⟨rfl,h⟩
     | false=>exact .inr ⟨rfl,h⟩
   | tst y m=>
    dsimp only at h;rcases Q51 hw hok.2 h with ⟨hd,h⟩ | ⟨hd,h⟩
    .exact⟨y,U30 hw hok.1.1.1 (.inl ⟨hd,h⟩)⟩
    .exact⟨m,U30 hw hok.1.1.1 (.inr ⟨hd,h⟩)⟩
  obtain⟨E,h'⟩:=O;have M:∀ j,j<s1.length->s1[j]? = ops[rc.length+j]? := fun j hj=>by
   have:=hsuf j O5;rw[bQ hj] at this;exact this
  rcases U32 (N:=N) (H0:=H0) (n0:=n0) (T0:=T0) (X48 P) hn False _ s1 _ rc T J M hall hw hT with h1 | ⟨rc1,T1,hlen,hall1,hw1,hT1,h1⟩
  .rw[h1] at h';exact h'.elim
  .rw[h1] at h'
   have R:∀ j,j<s2.length->s2[j]? = ops[rc1.length+j]? := fun j hj=>by
    have:=hsuf (s1.length+j) O5;rw[bS O0] at this;rw[hlen];simpa [eH] using this
   rw[U,<- hlen] at h';obtain⟨Q,T2,g1,g2,g3,g4,g5⟩:=Z39 hn k gs E s2 rc1 T1 L R hok.1.2 hall1 hw1 hT1 h';exact⟨Q,T2,by simp;omega,g2,g3,g4,g5⟩
inductive D where
 | skip
 | ops (gs:List G) (ht:HT)
 | draw (ms:List Nat) (gs:List G) (ht:HT)
 | seq (a b:D)
 | join (ws ds:List Nat) (a b:D)
 | cond (x:X) (t e:D)
 | block (id:Nat) (c:D)
 | loop (ws ds:List Nat) (c:D)
 | exit (id:Nat)
 | ret
def D.erase:D->C
 | .skip => .skip
 | .ops gs _ => .ops (Q11 gs)
 | .draw ms gs _ => .draw ms (Q11 gs)
 | .seq a b => .seq a.erase b.erase
 | .join _ _ a b => .seq a.erase b.erase
 | .cond x t e => .cond x t.erase e.erase
 | .block id c => .block id c.erase
 | .loop _ _ c => .loop c.erase
 | .exit id => .exit id
 | .ret => .ret
def D.writes:D->List Nat
 | .ops gs _=>X28 gs
 | .draw _ gs _=>X28 gs
 | .seq a b=>a.writes++b.writes
 | .join ws ds a b=>a.writes++((ws++ds)++b.writes)
 | .cond _ t e=>t.writes++e.writes
 | .block _ c=>c.writes
 | .loop ws ds c=>(ws++ds)++c.writes
 | _=>[]
def K54(a b:List Nat):Bool:=a.all fun x=>b.any fun y=>bR x y
def Y56(n:Nat)(l:List Nat):Bool:=l.all fun x=>dE x n
def X19:List Nat->Bool
 | []=>true
 | x :: l => !(l.any fun y=>bR x y)&&X19 l
def D.ok(n d:Nat):D->Bool
 | .ops gs _=>okG d gs
 | .draw _ gs _=>okG d gs
 | .seq a b=>a.ok n d&&b.ok n d
 | .join ws ds a b=>K54 a.writes (ws++ds)&&Y56 n (ws++ds)&&X19 ws&&a.ok n d&&b.ok n d
 | .cond _ t e=>t.ok n d&&e.ok n d
 | .block _ c=>c.ok n d
 | .loop ws ds c=>K54 c.writes (ws++ds)&&Y56 n (ws++ds)&&X19 ws&&c.ok n d
 | _=>true
abbrev JK:=List Value->Y0->Nat->Prop
def W21{β:Type}(T:K0 Value)(ws:List Nat):(List Value->β)->β:=
 @List.rec Nat (fun _=>(List Value->β)->β) (fun k=>k []) (fun w _ ih k=>N9 T w (ih fun vs=>k (undef :: vs)) fun v=>ih fun vs=>k (v :: vs)) ws
def W23{β:Type}(d:Nat)(L:List Value):List Nat->Nat->K0 Value->(K0 Value->β)->β
 | [],_,T,k=>k T
 | w :: ws,i,T,k=>E9 d T w (L.getD i undef) fun T=>W23 d L ws (i+1) T k
def Q23{β:Type}(d:Nat):List Nat->K0 Value->(K0 Value->β)->β
 | [],T,k=>k T
 | w :: ws,T,k=>E9 d T w C34 fun T=>Q23 d ws T k
def V4(body:JK->Prop)(B:JK):Prop:=body B
def Q33(F:JK->JK)(m:Nat):JK:=@fC (fun _=>JK) (fun _ _ _=>False) (fun _ ih=>F ih) m
def G3(F:JK->JK)(L:List Value)(H:Y0)(nx:Nat):Prop:=∃ m,Q33 F m L H nx
def B0(v:Value)(t e:Prop):Prop:=
 match v with
 | .bool b=>ifK b t e
 | _=>False
def wD(P:Program)(d:Nat)(c:D):K0 Value->Y0->Nat->K Prop->(Nat->K Prop)->K Prop->Prop:=
 match c with
 | .skip=>fun T H nx k _ _=>k T H nx
 | .ops gs ht=>fun T H nx k _ _=>Q17 P d k gs ht T H nx
 | .draw ms gs ht=>fun T H nx k _ _=>M2 (nx+(Q11 gs).length) fun nx'=>
   G16 P d ms nx (fun T H n Ms es as rs=>W62 P ms nx as rs es Ms H (Z13 ms nx es H (fun H=>k T H n) as) False) gs ht 0 T H nx' [] [] [] []
 | .seq a b=>fun T H nx k x r=>wD P d a T H nx (fun T H nx=>wD P d b T H nx k x r) x r
 | .join ws ds a b=>fun T H nx k x r=>V4 (fun j=>wD P d a T H nx (fun T H nx=>W21 T ws fun L=>j L H nx) x r)
   (fun L H nx=>Q23 d ds T fun T=>W23 d L ws 0 T fun T=>wD P d b T H nx k x r)
 | .cond c t e=>fun T H nx k x r=>W4 T c fun v=>B0 v (wD P d t T H nx k x r) (wD P d e T H nx k x r)
 | .block id c=>fun T H nx k x r=>wD P d c T H nx k (fun B T H nx=>cond (bR B id) (k T H nx) (x B T H nx)) r
 | .loop ws ds c=>fun T H nx _ x r=>W21 T ws fun L=>G3 (fun ih L H nx=>Q23 d ds T fun T=>W23 d L ws 0 T fun T=>wD P d c T H nx (fun T H nx=>W21 T ws fun L=>ih L H nx) x r) L H nx
 | .exit id=>fun T H nx _ x _=>x id T H nx
 | .ret=>fun T H nx _ _ r=>r T H nx
def slots(T:K0 Value)(ws:List Nat):List Value:=ws.map fun w=>(tg T w).getD undef
theorem D18{β:Type}(T:K0 Value):∀(ws:List Nat) (k:List Value->β),W21 T ws k=k (slots T ws)
 | [],k=>rfl
 | w :: ws,k=>by
  show N9 T w (W21 T ws fun vs=>k (undef :: vs)) (fun v=>W21 T ws fun vs=>k (v :: vs))=_;rw[J11]
  cases h:tg T w with
  | none=>simp only[Option.elim_none];rw[D18 T ws];simp[slots,h]
  | some v=>simp only[aN];rw[D18 T ws];simp[slots,h]
def M21(d:Nat)(L:List Value):List Nat->Nat->K0 Value->K0 Value
 | [],_,T=>T
 | w :: ws,i,T=>M21 d L ws (i+1) (ts d T w (L.getD i undef))
theorem Q31{β:Type}(d:Nat)(L:List Value):∀(ws:List Nat) (i:Nat) (T:K0 Value) (k:K0 Value->β),W23 d L ws i T k=k (M21 d L ws i T)
 | [],_,_,_=>rfl
 | w :: ws,i,T,k=>by simp only[W23,M21];rw[Z15];exact Q31 d L ws _ _ k
def J16(d:Nat):List Nat->K0 Value->K0 Value
 | [],T=>T
 | w :: ws,T=>J16 d ws (ts d T w C34)
theorem G30{β:Type}(d:Nat):∀(ws:List Nat) (T:K0 Value) (k:K0 Value->β),Q23 d ws T k=k (J16 d ws T)
 | [],_,_=>rfl
 | w :: ws,T,k=>by simp only[Q23,J16];rw[Z15];exact G30 d ws _ k
theorem U28{d:Nat}{L:List Value}:∀ {ws:List Nat} {i:Nat} {T:K0 Value},WF d T->WF d (M21 d L ws i T)
 | [],_,_,h=>h
 | w :: ws,i,T,h=>U28 (ws:=ws) (U16 d T w _ h)
theorem M15{d:Nat}:∀ {ws:List Nat} {T:K0 Value},WF d T->WF d (J16 d ws T)
 | [],_,h=>h
 | w :: ws,T,h=>M15 (ws:=ws) (U16 d T w _ h)
theorem E25{d n:Nat}(hn:n<=2^d):∀ {ws:List Nat} {T:K0 Value},WF d T->(∀ w ∈ ws,w<n)->∀ j,j<n->(tg (J16 d ws T) j).getD undef=if j ∈ ws then C34 else(tg T j).getD undef
 | [],T,_,_,j,_=>by simp[J16]
 | w :: ws,T,hw,hl,j,hj=>by
  have B:w<n:=hl w O2;simp only[J16];rw[E25 hn (U16 d T w _ hw) (fun x hx=>hl x (by simp[hx])) j hj]
  by_cases h1:j ∈ ws
  .simp[h1]
  .rw[if_neg h1,K21 d T w j _ hw O0 O0]
   by_cases h2:j=w
   .simp[h2]
   .simp[h1,h2]
theorem M30{d n:Nat}(hn:n<=2^d){L:List Value}:∀ {ws:List Nat} {i:Nat} {T:K0 Value},WF d T->(∀ w ∈ ws,w<n)->X19 ws=true->∀ j,j<n ->
  (j ∉ ws->(tg (M21 d L ws i T) j).getD undef=(tg T j).getD undef)/\(∀ q,ws[q]? = some j->(tg (M21 d L ws i T) j).getD undef=L.getD (i+q) undef)
 | [],i,T,_,_,_,j,_=>⟨fun _=>rfl,fun q h=>by simp at h⟩
 | w :: ws,i,T,hw,hl,hnd,j,hj=>by
  have J:w<n:=hl w O2;simp only[X19,aG] at hnd;have E:w ∉ ws:=by
   intro h;have:=hnd.1;simp at this;exact this w h rfl
  obtain⟨h1,h2⟩:=M30 hn (L:=L) (ws:=ws) (i:=i+1) (U16 d T w (L.getD i undef) hw) (fun x hx=>hl x (by simp[hx])) hnd.2 j hj;simp only[M21];refine⟨fun B => ?_,fun q hq => ?_⟩
  .simp at B
   rw[h1 B.2,K21 d T w j _ hw O0 O0,if_neg B.1]
  .cases q with
   | zero=>
    simp at hq;subst hq;rw[h1 E,K21 d T w w _ hw O0 O0,if_pos rfl];simp
   | succ q=>
    rw[h2 q (by simpa using hq)];congr 1;omega
theorem TR.join{F:FM}{T':K0 Value}{tmps:Array Value}{ws ds W:List Nat}(hn:n<=2^d)(J:WF d T)(ht:TR d F T' n tmps)(ha:U8 n W T T')(hs:∀ j ∈ W,j ∈ ws++ds)(hl:∀ j ∈ ws++ds,j<n)(O:X19 ws=true):
  TR d F (M21 d (slots T' ws) ws 0 (J16 d ds T)) n tmps:=by
 have Q:∀ w ∈ ws,w<n:=fun w h=>hl w (dX _ h)
 have M:∀ w ∈ ds,w<n:=fun w h=>hl w (List.mem_append_right _ h)
 refine⟨U28 (M15 J),ht.size,ht.le,fun j hj => ?_⟩;obtain⟨h1,h2⟩:=M30 hn (L:=slots T' ws) (ws:=ws) (i:=0) (M15 (ws:=ds) J) Q O j hj
 by_cases E:j ∈ ws
 .obtain⟨q,hq⟩:=cH E
  rw[h2 q hq];have:(slots T' ws).getD (0+q) undef=(tg T' j).getD undef:=by simp[slots,hq]
  rw[this];exact ht.get j hj
 .rw[h1 E,E25 hn J M j hj]
  by_cases B:j ∈ ds
  .rw[if_pos B];exact .any _
  .rw[if_neg B,<- ha j hj (fun h=>(dN.1 (hs j h)).elim E B)]
   exact ht.get j hj
theorem Y24{L:List Value}{ws ds:List Nat}(hn:n<=2^d)(E:WF d T)(hl:∀ j ∈ ws++ds,j<n)(J:X19 ws=true):U8 n (ws++ds) T (M21 d L ws 0 (J16 d ds T)):=by
 intro j hj B;rw[dN] at B;obtain⟨h1,_⟩:=M30 hn (L:=L) (ws:=ws) (i:=0) (M15 (ws:=ds) E) (fun w h=>hl w (dX _ h)) J j hj;rw[h1 (fun h=>B (.inl h)),E25 hn E (fun w h=>hl w (List.mem_append_right _ h)) j hj,if_neg (fun h=>B (.inr h))]
theorem V48{a b:List Nat}(h:K54 a b=true):∀ j ∈ a,j ∈ b:=by
 intro j hj;unfold K54 at h;have:=iE.1 h j hj;obtain⟨y,hy,he⟩:=dY.1 this;rw[dI he];exact hy
theorem X39{a:List Nat}(h:Y56 n a=true):∀ j ∈ a,j<n:=by
 intro j hj;have:=iE.1 h j hj;simpa using this
end
theorem R29:∀(gs:List G),Q10 (Q11 gs)=X28 gs
 | []=>rfl
 | (g,l) :: gs=>by
  have app:∀(a b:List S),Q10 (a++b)=Q10 a++Q10 b:=by
   intro a b
   induction a with
   | nil=>rfl
   | cons s a ih=>simp[Q10,ih]
  have mp:∀(a:List S),Q10 (a.map (Y8 g))=Q10 a:=by
   intro a
   induction a with
   | nil=>rfl
   | cons s a ih=>simp[Q10,ih,Y8]
  simp only[Q11,X28];rw[app,mp,R29 gs]
section
variable {P:Program} {d n:Nat}
theorem W45(hm:P.follows .mixedOrders=true)(hn:n<=2^d):∀(a1:Code) (c:D),R18 P n a1=some c.erase->c.ok n d=true->∀(T:K0 Value) (H:Y0) (nx:Nat) (k:K Prop) (x:Nat->K Prop) (r:K Prop),WF d T->wD P d c T H nx k x r ->
  ∃ o T' H' nx',Ox.go k x r o T' H' nx'/\WF d T'/\U8 n c.writes T T'/\R47 P d n a1 T H nx o T' H' nx':=by
 intro a1
 induction a1 with
 | skip=>
  intro c hc U T H nx k x r hw hk;simp only[R18,aZ] at hc
  cases c<;>simp[D.erase] at hc
  exact⟨.n,T,H,nx,hk,hw,U8.refl _ _ _,fun F a w Q ht hr hk=>wp_skip (hk F a w ht (N2.refl hr) rfl)⟩
 | label l=>
  intro c hc U T H nx k x r hw hk;simp only[R18,aZ] at hc
  cases c<;>simp[D.erase] at hc
  exact⟨.n,T,H,nx,hk,hw,U8.refl _ _ _,fun F a w Q ht hr hk=>wp_label (hk F a w ht (N2.refl hr) rfl)⟩
 | exit id=>
  intro c hc U T H nx k x r hw hk;simp only[R18,aZ] at hc
  cases c<;>simp[D.erase] at hc
  subst hc;exact⟨.x id,T,H,nx,hk,hw,U8.refl _ _ _,fun F a w Q ht hr hk=>wp_exit (hk F a w ht (N2.refl hr) rfl)⟩
 | ret=>
  intro c hc U T H nx k x r hw hk;simp only[R18,aZ] at hc
  cases c<;>simp[D.erase] at hc
  exact⟨.r,T,H,nx,hk,hw,U8.refl _ _ _,fun F a w Q ht hr hk=>wp_ret (hk F a w ht (N2.refl hr) rfl)⟩
 | goto l=>intro c hc;simp[R18] at hc
 | refuse am=>intro c hc;simp[R18] at hc
 | rangeFunc f ps as b _ _=>intro c hc;simp[R18] at hc
 | region id ops draw=>
  intro c hc U T H nx k x r hw hk;simp only[R18] at hc
  cases hl:R3 P n ops.toList ops.toList with
  | none=>simp[hl] at hc
  | some l=>
   simp only[hl] at hc
   cases draw with
   | false=>
    simp only[aZ] at hc
    cases c<;>simp[D.erase] at hc
    rename_i gs a4;subst hc;obtain⟨T',H',nx',ak,a9,aj,hp⟩:=D33 (d:=d) hn k gs a4 ops.toList 0 hl (fun j _=>O2) U T H nx hw hk;refine⟨.n,T',H',nx',ak,a9,aj,fun F a w Q ht hr hk=>wp_region ?_⟩;have:=hp F a w Q ht hr hk;simpa [List.range_eq_range'] using this
   | true=>
    cases hs:E13 (U1 ops.toList) ops.toList ops.toList 0 with
    | false=>simp[hs] at hc
    | true=>
     simp only[hs,cond_true,aZ] at hc
     cases c<;>simp[D.erase] at hc
     rename_i ms gs a4;obtain⟨rfl,rfl⟩:=hc;simp only[wD] at hk;rw[G1,K18 hl] at hk;obtain⟨rc,T',h1,af,a9,ae,h5⟩:=Z39 (N:=nx) (H0:=H) (n0:=nx+ops.toList.length) (T0:=T) hn _ gs a4 ops.toList [] T hl O2 U trivial hw (fun t _=>rfl) hk;rcases M66 P d n ops.toList nx H rc (Z13 (U1 ops.toList) nx (D1 rc) (hR H rc) (fun H=>k T' H (nR (nx+ops.toList.length) rc)) (B3 rc)) False with h | ⟨h,hrs⟩
     .rw[h] at h5;exact h5.elim
     .rw[h,N23] at h5
      refine⟨.n,T',_,_,h5,a9,?_,fun F a w Q ht hr hk => ?_⟩
      .have hv:U8 n (Q10 (Q11 gs)) T T':=fun j hj ad=>by rw[ae j hj];exact C24 (N21 hl) ad
       rw[R29] at hv;exact hv
      .have:=N38 hm hs hn (by simpa using h1) af a9 ae hrs id F a w Q ht hr hk
       simpa using this
 | seq a b W a8=>
  intro c hc U T H nx k x r hw hk;simp only[R18] at hc
  cases ha:R18 P n a with
  | none=>simp[ha] at hc
  | some ca=>cases hb:R18 P n b with
   | none=>simp[ha,hb] at hc
   | some cb=>
    simp only[ha,hb,aZ] at hc
    cases c<;>simp only[D.erase,C.seq.injEq,reduceCtorEq] at hc
    .rename_i da db
     obtain⟨rfl,rfl⟩:=hc;simp only[D.ok,aG] at U;obtain⟨o,T1,H1,O,h,V,R,B⟩:=W da ha U.1 T H nx (fun T H nx=>wD P d db T H nx k x r) x r hw hk
     cases o with
     | n=>
      obtain⟨o2,T2,H2,nx2,h2,a7,a6,Z⟩:=a8 db hb U.2 T1 H1 O k x r V h;refine⟨o2,T2,H2,nx2,h2,a7,R.trans a6,fun F ac w Q ht hr hk=>wp_seq (B F ac w _ ht hr fun F' a' w' M E J => ?_)⟩;exact Z F' a' w' Q M E.hr fun F2 a2 w2 a5 a0 Y=>hk F2 a2 w2 a5 (E.trans a0) (Y.trans J)
     | x id=>exact⟨.x id,T1,H1,O,h,V,R.mono (fun j hj=>dX _ hj),fun F ac w Q ht hr hk=>wp_seq (B F ac w _ ht hr fun F' a' w' M E J=>hk F' a' w' M E J)⟩
     | r=>exact⟨.r,T1,H1,O,h,V,R.mono (fun j hj=>dX _ hj),fun F ac w Q ht hr hk=>wp_seq (B F ac w _ ht hr fun F' a' w' M E J=>hk F' a' w' M E J)⟩
    .rename_i ws ds da db
     obtain⟨rfl,rfl⟩:=hc;simp only[D.ok,aG] at U;obtain⟨⟨⟨⟨q1,q2⟩,q3⟩,q4⟩,q5⟩:=U;have hl:=X39 q2;obtain⟨o,T1,H1,O,h,V,R,B⟩:=W da ha q4 T H nx (fun T1 H nx=>W21 T1 ws fun L=>Q23 d ds T fun T=>W23 d L ws 0 T fun T=>wD P d db T H nx k x r) x r hw hk
     cases o with
     | n=>
      simp only[Ox.go] at h;rw[D18,G30,Q31] at h;obtain⟨o2,T2,H2,nx2,h2,a7,a6,Z⟩:=a8 db hb q5 _ H1 O k x r (U28 (M15 hw)) h;refine⟨o2,T2,H2,nx2,h2,a7,?_,fun F ac w Q ht hr hk=>wp_seq (B F ac w _ ht hr fun F' a' w' M E J => ?_)⟩
      .exact((Y24 hn hw hl q3).trans a6).mono fun j hj=>List.mem_append_right _ hj
      .exact Z F' a' w' Q (TR.join hn hw M R (V48 q1) hl q3) E.hr fun F2 a2 w2 a5 a0 Y=>hk F2 a2 w2 a5 (E.trans a0) (Y.trans J)
     | x id=>exact⟨.x id,T1,H1,O,h,V,R.mono (fun j hj=>dX _ hj),fun F ac w Q ht hr hk=>wp_seq (B F ac w _ ht hr fun F' a' w' M E J=>hk F' a' w' M E J)⟩
     | r=>exact⟨.r,T1,H1,O,h,V,R.mono (fun j hj=>dX _ hj),fun F ac w Q ht hr hk=>wp_seq (B F ac w _ ht hr fun F' a' w' M E J=>hk F' a' w' M E J)⟩
 | cond v a b W a8=>
  intro c hc U T H nx k x r hw hk;simp only[R18] at hc
  cases hv:W13 n v with
  | none=>simp[hv] at hc
  | some cv=>cases ha:R18 P n a with
   | none=>simp[hv,ha] at hc
   | some ca=>cases hb:R18 P n b with
    | none=>simp[hv,ha,hb] at hc
    | some cb=>
     simp only[hv,ha,hb,aZ] at hc
     cases c<;>simp only[D.erase,C.cond.injEq,reduceCtorEq] at hc
     rename_i y da db;obtain⟨rfl,rfl,rfl⟩:=hc;simp only[D.ok,aG] at U;simp only[wD] at hk;rw[G2] at hk;unfold B0 at hk
     split at hk
     .rename_i t ah
      rw[E14] at hk;have ag:∀(F:FM) (ac:Act),TR d F T n ac.tmps->ac.eval v = .bool t:=fun F ac ht=>by
       have:=ht.evX hv;rw[ah] at this;exact this.bool_inv
      cases t with
      | true=>
       obtain⟨o,T1,H1,O,h,V,R,B⟩:=W da ha U.1 T H nx k x r hw (by simpa using hk);exact⟨o,T1,H1,O,h,V,R.mono (fun j hj=>dX _ hj),fun F ac w Q ht hr hk=>wp_cond_true (ag F ac ht) (B F ac w Q ht hr hk)⟩
      | false=>
       obtain⟨o,T1,H1,O,h,V,R,B⟩:=a8 db hb U.2 T H nx k x r hw (by simpa using hk);exact⟨o,T1,H1,O,h,V,R.mono (fun j hj=>List.mem_append_right _ hj),fun F ac w Q ht hr hk=>wp_cond_false (ag F ac ht) (B F ac w Q ht hr hk)⟩
     .exact hk.elim
 | block id a W=>
  intro c hc U T H nx k x r hw hk;simp only[R18] at hc
  cases ha:R18 P n a with
  | none=>simp[ha] at hc
  | some ca=>
   simp only[ha,Option.map_some,aZ] at hc
   cases c<;>simp only[D.erase,C.block.injEq,reduceCtorEq] at hc
   rename_i an da;obtain⟨rfl,rfl⟩:=hc;obtain⟨o,T1,H1,O,h,V,R,B⟩:=W da ha U T H nx k (fun a3 T H nx=>cond (bR a3 id) (k T H nx) (x a3 T H nx)) r hw hk
   cases o with
   | n=>exact⟨.n,T1,H1,O,h,V,R,fun F ac w Q ht hr hk=>wp_block (B F ac w _ ht hr fun F' a' w' M E J=>hk F' a' w' M E J)⟩
   | r=>exact⟨.r,T1,H1,O,h,V,R,fun F ac w Q ht hr hk=>wp_block (B F ac w _ ht hr fun F' a' w' M E J=>hk F' a' w' M E J)⟩
   | x a3=>
    simp only[Ox.go] at h
    cases ab:bR a3 id with
    | true=>
     have e:=dI ab;subst e;rw[ab] at h;refine⟨.n,T1,H1,O,h,V,R,fun F ac w Q ht hr hk=>wp_block (B F ac w _ ht hr fun F' a' w' M E J => ?_)⟩;simp only[Ox.exit,Exit.inBlock,if_true];exact hk F' a' w' M E J
    | false=>
     have e:a3≠id:=fun e=>by subst e;simp at ab
     rw[ab] at h;refine⟨.x a3,T1,H1,O,h,V,R,fun F ac w Q ht hr hk=>wp_block (B F ac w _ ht hr fun F' a' w' M E J => ?_)⟩;simp only[Ox.exit,Exit.inBlock,e,if_false];exact hk F' a' w' M E J
 | scope a W=>
  intro c hc U T H nx k x r hw hk;simp only[R18] at hc;obtain⟨o,T1,H1,O,h,V,R,B⟩:=W c hc U T H nx k x r hw hk;refine⟨o,T1,H1,O,h,V,R,fun F ac w Q ht hr hk=>wp_scope_straight (B F ac w _ ht hr fun F' a' w' M E J => ?_)⟩
  cases o<;>exact hk F' a' w' M E J
 | loop a W=>
  intro c hc U T H nx k x r hw hk;simp only[R18] at hc
  cases ha:R18 P n a with
  | none=>simp[ha] at hc
  | some ca=>
   simp only[ha,Option.map_some,aZ] at hc
   cases c<;>simp only[D.erase,C.loop.injEq,reduceCtorEq] at hc
   rename_i ws ds da;subst hc;simp only[D.ok,aG] at U;obtain⟨⟨⟨q1,q2⟩,q3⟩,q4⟩:=U;have hl:=X39 q2;simp only[wD] at hk;rw[D18] at hk;obtain⟨m,hk⟩:=hk;generalize hF:(fun(ih:JK) (L:List Value) (H:Y0) (nx:Nat)=>Q23 d ds T fun T=>W23 d L ws 0 T fun T=>wD P d da T H nx (fun T H nx=>W21 T ws fun L=>ih L H nx) x r)=Fn at hk;have aa:∀(m:Nat) (L:List Value) (H:Y0) (nx:Nat),Q33 Fn m L H nx ->
     ∃(o:Ox) (T':K0 Value) (H':Y0) (nx':Nat),o ≠ .n/\Ox.go k x r o T' H' nx'/\WF d T'/\U8 n ((ws++ds)++da.writes) T T' /\
      ∀(F:FM) (ac:Act) (w:World) (Q:Exit->Act->World->Prop),TR d F (M21 d L ws 0 (J16 d ds T)) n ac.tmps->HR F H nx w ->
       (∀ F' a' w',TR d F' T' n a'.tmps->N2 F H nx w F' H' nx' w'->a'.defers=ac.defers->Q o.exit a' w')->Code.rounds P a Q m ac w:=by
    intro m
    induction m with
    | zero=>intro L H nx h;exact h.elim
    | succ m ai=>
     intro L H nx h;have h':Fn (Q33 Fn m) L H nx:=h;rw[<- hF] at h';rw[G30,Q31] at h';obtain⟨o,T1,H1,O,h1,V,R,B⟩:=W da ha q4 _ H nx _ x r (U28 (M15 hw)) h'
     cases o with
     | n=>
      simp only[Ox.go] at h1;rw[D18,hF] at h1;obtain⟨o2,T2,H2,nx2,ad,h2,a7,a6,Z⟩:=ai _ H1 O h1;refine⟨o2,T2,H2,nx2,ad,h2,a7,a6,fun F ac w Q ht hr hk => ?_⟩;rw[rounds_succ];refine B F ac w _ ht hr fun F' a' w' M E J => ?_
      have al:U8 n (ws++ds) T T1:=((Y24 (L:=L) hn hw hl q3).trans R).mono fun j hj=>(dN.1 hj).elim id (V48 q1 j)
      exact Z F' a' w' Q (TR.join hn hw M al (fun j hj=>hj) hl q3) E.hr fun F2 a2 w2 a5 a0 Y=>hk F2 a2 w2 a5 (E.trans a0) (Y.trans J)
     | x id=>
      refine⟨.x id,T1,H1,O,O2,h1,V,(Y24 hn hw hl q3).trans R,fun F ac w Q ht hr hk => ?_⟩;rw[rounds_succ];exact B F ac w _ ht hr fun F' a' w' M E J=>hk F' a' w' M E J
     | r=>
      refine⟨.r,T1,H1,O,O2,h1,V,(Y24 hn hw hl q3).trans R,fun F ac w Q ht hr hk => ?_⟩;rw[rounds_succ];exact B F ac w _ ht hr fun F' a' w' M E J=>hk F' a' w' M E J
   obtain⟨o,T1,H1,O,_,h,V,R,B⟩:=aa m _ H nx hk;refine⟨o,T1,H1,O,h,V,R,fun F ac w Q ht hr hk=>wp_loop_rounds m (B F ac w Q ?_ hr hk)⟩;exact TR.join hn hw ht (U8.refl n (ws++ds) T) (fun j hj=>hj) hl q3
def X55(P:Program)(n d:Nat)(body:D)(res:List (X × Option (Option Nat)))(args:List Value)(H:Y0)(nx:Nat)(Q:Value->Y0->Nat->Prop):Prop:=
 J27 d args 0 .leaf fun T=>wD P d body T H nx (G14 P res False Q) (fun _ _ _ _=>False) (G14 P res False Q)
theorem X44(hm:P.follows .mixedOrders=true)(Z:J18 P){f:FuncId}{body:D}{res:List (X × Option (Option Nat))}(B:cfn P f=some ⟨n,d,body.erase,res⟩)(Y:body.ok n d=true){args:List Value}(hl:args.length<=n){H:Y0}{nx:Nat}{Q:Value->Y0->Nat->Prop}(h:X55 P n d body res args H nx Q):Q2 P f args H nx Q:=by
 unfold cfn at B;rw[Q8] at B
 cases hf:P.funcs.toList[f]? with
 | none=>simp[hf] at B
 | some fn=>
  simp only[hf] at B;have L:P.funcs[f]? = some fn:=by simpa using hf
  cases hb:fn.body with
  | none=>simp[hb] at B
  | some c=>
   simp only[hb] at B
   cases hc:R18 P fn.ntmps c with
   | none=>simp[hc] at B
   | some cb=>
    cases J:M17 P fn.ntmps fn.results.toList with
    | none=>simp[hc,J] at B
    | some rs=>
     simp only[hc,J,aZ,CF.mk.injEq] at B;obtain⟨rfl,hd,rfl,rfl⟩:=B;have U:fn.ntmps<=2^d:=by rw[<- hd];exact eG Nat.lt_log2_self
     unfold X55 at h;rw[Z24] at h;have wl:WF d (.leaf:K0 Value):=by cases d<;>trivial
     have hw:=Y19 d args 0 .leaf wl;obtain⟨o,T',H',nx',h1,a3,_,R⟩:=W45 hm U c body hc Y _ H nx _ _ _ hw h;have W:(o = .n\/o = .r)->G14 P rs False Q T' H' nx'->Q2 P f args H nx Q:=by
      intro hx E;unfold G14 at E;rcases B35 (d:=d) (T:=T') (H:=H') (nx:=nx') False _ rs J (fun vs=>M0 (tup vs) fun v=>Q v H' nx') with h2 | ⟨vs,h2,hok2⟩
      .rw[h2] at E;exact E.elim
      .rw[h2,Y5] at E
       refine⟨tup vs,H',nx',⟨⟨fn,c,L,hb,Z f fn L⟩,fun F a2 w hr hv => ?_⟩,E⟩;refine calls_of_wp L hb (R F _ w _ (W32 hv U hl) hr fun F' a' w' a0 O a1 => ?_);obtain⟨V,h3,h4⟩:=hok2 F' a'.tmps w' a0 O.hr.hb;have M:a'.defers=[]/\∃ v,(results fn a'.tmps).run P w' = .ok v w'/\(∃ v' F',Ending.returned v = .returned v'/\VR F' (tup vs) v'/\N2 F H nx w F' H' nx' w'):=
        ⟨a1,tup V,J29 h3,tup V,F',rfl,B58 h4,O⟩
       rcases hx with rfl | rfl<;>exact M
     cases o with
     | n=>exact W (.inl rfl) h1
     | x id=>exact h1.elim
     | r=>exact W (.inr rfl) h1
end
abbrev VP:=Value->Prop
abbrev EP:=Value->Y0->Nat->Prop
def J65(c a b:Value)(k:VP):Prop:=match c with
 | .bool t=>ifK t (k a) (k b)
 | _=>False
def D10(op:BinOp)(x y:Value)(k:VP):Prop:=J42 op x y False k
def C5(op:UnOp)(x:Value)(k:VP):Prop:=X22 (unV op x) False k
def D9(f:VF)(xs:List Value)(k:VP):Prop:=X22 (f.ev xs) False k
def B4(v:Value)(off:Nat)(k:VP):Prop:=match v with
 | .pointer (some a)=>U19 (a.off+off) a k
 | _=>False
def M3(v vi:Value)(len:Option Nat)(size:Nat)(k:VP):Prop:=match vi with
 | .int _ (.ofNat i)=>N41 len size i False k v
 | _=>False
def C70(v:Value)(k:VP):Prop:=match v with
 | .pointer (some a)=>k (.pointer (some a))
 | _=>False
def G9(v:Value)(i:Nat)(k:VP):Prop:=match v with
 | .tuple vs=>C30 vs.toList i False k
 | _=>False
def G42(v:Value)(off:Nat)(size:Option Nat)(k:VP):Prop:=match v with
 | .agg cs=>E21 cs.toList off size False k
 | _=>False
def U11(z:List Value)(pl:List (Nat × Nat))(vs:List (Nat × Value))(k:VP):Prop:=match V16 (R8 pl) z vs with
 | some cs=>spine cs fun cs=>k (.agg ⟨cs⟩)
 | none=>False
def J1(v:Value)(size:Option Nat)(H:Y0)(k:VP):Prop:=match v with
 | .pointer (some ⟨b,o,none⟩)=>D12 H b False (ldB o size False k)
 | _=>False
def wLk(kd:TypeDesc)(zero v vi:Value)(ok:Bool)(H:Y0)(k:VP):Prop:=cond (Q9 kd vi)
  ((fun(es:List MapEntry->Prop)=>match v with
   | .map none=>es []
   | .map (some r)=>D12 H r False fun b=>match b with
    | .map l _=>es l
    | _=>False
   | _=>False) fun l=>match dP kd vi l 0 with
    | some (some (_,v))=>cond ok (M6 k (.tuple ⟨[v,.bool true]⟩)) (M6 k v)
    | some none=>cond ok (M6 k (.tuple ⟨[zero,.bool false]⟩)) (M6 k zero)
    | none=>False) False
def R4(v:Value)(kd:Nat)(H:Y0)(k:VP):Prop:=match kd,v with
  | 0,.slice _ n _=>M6 k (.int .i64 (.ofNat n))
  | 1,.string s=>M2 s.size fun n=>M6 k (.int .i64 (.ofNat n))
  | 2,.map none=>M6 k (.int .i64 (.ofNat 0))
  | 2,.map (some r)=>D12 H r False fun b=>match b with
   | .map l _=>M2 l.length fun n=>M6 k (.int .i64 (.ofNat n))
   | _=>False
  | _,_=>False
def X16(v:Value)(H:Y0)(k:VP):Prop:=match v with
  | .slice none _ _=>M6 k (.string ⟨#[]⟩)
  | .slice (some a) len _=>B19 H a len False fun cs=>match R22 cs with
   | some bs=>M6 k (.string ⟨⟨bs⟩⟩)
   | none=>False
  | _=>False
def W8(kd:IntKind)(v:Value)(k:VP):Prop:=match v with
  | .int _ n=>cond (Q14 kd n) (M6 k (.int kd n)) (Q16 (kd.wrap n) fun n=>M6 k (.int kd n))
  | _=>False
def U5(v:Value)(size:Nat)(lo hi mx:Option Value)(H:Y0)(k:VP):Prop:=match v with
  | .slice none len cap=>(match B26 none len cap size lo hi mx false with
   | some r=>X13 r k
   | none=>False)
  | .slice (some ⟨b,o,none⟩) len cap=>D12 H b False (slB ⟨b,o,none⟩ len cap size lo hi mx False k)
  | .slice (some ⟨b,o,some s⟩) len cap=>cond (bR len 0&&bR cap 0) (match B26 none 0 0 size lo hi mx false with
   | some (.slice none 0 0)=>k (.slice (some ⟨b,o,some s⟩) 0 0)
   | _=>False) False
  | _=>False
def J3(b:V3)(y:Q0)(H:Y0)(nx:Nat)(k:EP):Prop:=
 E6 H nx (some b) fun H=>M2 (nx+1) fun n=>X13 (y.val nx) fun v=>k v H n
def E5(v:Value)(k:List Value->Prop):Prop:=cond (Z0 v.cells.toList) (spine v.cells.toList k) False
def K6(len size:Nat)(z:List Value)(vs:List (Nat × Value))(k:List Value->Prop):Prop:=
 match V16 (fun k=>some (k*size,size)) (Q19 z len) vs with
  | some cs=>cond (Z0 cs) (spine cs k) False
  | none=>False
def D30(vl vc:Value)(z:List Value)(k:List Value->Nat->Nat->Prop):Prop:=match vl,vc with
  | .int .i64 (.ofNat l),.int .i64 (.ofNat c)=>cond (dD l c&&dD c 1000000) (spine (Q19 z c) fun cs=>k cs l c) False
  | _,_=>False
def M64(x:Option Value)(k:Prop):Prop:=match x with
  | none=>k
  | some (.int _ _)=>k
  | _=>False
def wNm(nx i:Nat)(y:Q0)(k:VP):Prop:=M2 (nx+i) fun q=>M0 (y.val q) k
def D5(p v:Value)(size:Nat)(H:Y0)(k:Y0->Prop):Prop:=match p with
  | .pointer (some a)=>cond (bR v.cells.toList.length size&&Z0 v.cells.toList) (U12 H a v.cells.toList False k) False
  | _=>False
def W56(kd:TypeDesc)(m key v:Value)(H:Y0)(nx:Nat)(k:EP):Prop:=match m with
  | .map (some r)=>D12 H r False (G52 kd H nx r key v False k)
  | _=>False
def Y2(P:Program)(f:FuncId)(args:List Value)(H:Y0)(nx:Nat)(k:EP):Prop:=M8 P f args H nx False k
def M33(P:Program)(f:Value)(args:List Value)(H:Y0)(nx:Nat)(k:EP):Prop:=match f with
  | .func (.func g) ⟨first⟩ ⟨cap⟩=>spine (first++args++cap) fun vs=>M8 P g vs H nx False k
  | _=>False
def B5(s x:Value)(size bytes:Nat)(H:Y0)(nx:Nat)(k:EP):Prop:=Z22 H nx size bytes s x False k
def G112(s x:Value)(tag size bytes:Nat)(H:Y0)(nx:Nat)(k:EP):Prop:=M128 tag H nx size bytes s x False k
def G139(v:Value)(zero:List Value)(H:Y0)(k:Y0->Prop):Prop:=match v with
  | .slice none _ _=>k H
  | .slice (some ⟨b,o,none⟩) n _=>cond (bR n 0) (k H) (cond (Z0 (Q19 zero n)) (U12 H ⟨b,o,none⟩ (Q19 zero n) False k) False)
  | _=>False
def C1(B:Bool)(v:Value)(E no:Prop):Prop:=match v with
  | .bool b=>ifK (cond b B (!B)) E no
  | _=>False
section
variable {H H1:Y0} {c:List Value} {i m n1 nx:Nat} {v:Value}
theorem N5{body:JK->Prop}{B:JK}(R:JK)(h1:∀ j:JK,(∀ L H nx,R L H nx->j L H nx)->body j)(h2:∀ L H nx,R L H nx->B L H nx):V4 body B:=h1 B h2
theorem N13(body:JK->Prop)(B:JK):V4 body B=body B:=rfl
theorem B1{F:JK->JK}(I:Nat->List Value->Y0->Nat->Prop)(step:∀ m ih L H nx,I m L H nx->(∀ m' L' H' nx',m'<m->I m' L' H' nx'->ih L' H' nx')->F ih L H nx){m:Nat}{L:List Value}{H:Y0}{nx:Nat}(h:I m L H nx):G3 F L H nx:=by
 have key:∀(k m:Nat) (L:List Value) (H:Y0) (nx:Nat),m<k->I m L H nx->Q33 F k L H nx:=by
  intro k
  induction k with
  | zero=>intro m L H nx h;omega
  | succ k ih=>
   intro m L H nx hm hI;exact step m (Q33 F k) L H nx hI fun m' L' H' nx' E B=>ih m' L' H' nx' O0 B
 exact⟨m+1,key (m+1) m L H nx O0 h⟩
theorem R0{P:Program}{f:FuncId}{args:List Value}{k:EP}{Q:EP}(h:Q2 P f args H nx Q)(hk:∀ v H' nx',Q v H' nx'->k v H' nx'):Y2 P f args H nx k := .inr (h.mono hk)
structure D0 (H:Y0) (nx:Nat) (H':Y0) (nx':Nat):Prop where
 le:nx<=nx'
 get:∀ i,i<nx->J0 H' i=J0 H i
theorem D0.refl(H:Y0)(nx:Nat):D0 H nx H nx:=⟨aD _,fun _ _=>rfl⟩
theorem D0.trans{H:Y0}{nx:Nat}{H1:Y0}{n1:Nat}{H2:Y0}{n2:Nat}(a:D0 H nx H1 n1)(b:D0 H1 n1 H2 n2):D0 H nx H2 n2:=
 ⟨bK a.le b.le,fun i hi=>(b.get i (aO hi a.le)).trans (a.get i hi)⟩
theorem D0.new(a:D0 H nx H1 n1)(b:Option V3)(hi:nx<=i)(hm:n1<=m):D0 H nx (hs H1 i b) m:=
 ⟨bK a.le hm,fun j hj=>by rw[N7,if_neg O0];exact a.get j hj⟩
theorem D0.hs{H:Y0}{nx:Nat}{H1:Y0}{i m:Nat}{b:Option V3}(a:D0 H nx H1 m)(hi:nx<=i):D0 H nx (Go.Clo.hs H1 i b) m:=a.new b hi (aD _)
theorem D0.self(h:nx<=m):D0 H nx H m:=⟨h,fun _ _=>rfl⟩
theorem D0.more(a:D0 H nx H1 n1)(hm:n1<=m):D0 H nx H1 m:=⟨bK a.le hm,a.get⟩
theorem D0.less{n0:Nat}(a:D0 H nx H1 n1)(hm:n0<=nx):D0 H n0 H1 n1:=⟨bK hm a.le,fun i hi=>a.get i O0⟩
theorem G10(k:IntKind):eqK k k=true:=by cases k<;>rfl
theorem X6(op:BinOp)(x y:Value)(k:VP):D10 op x y k=(R9 op x y).elim False k:=V47 op x y False k
section
variable (K:IntKind) (a b:Int) (k:VP)
theorem E45:D10 .lss (.int K a) (.int K b) k=k (.bool (decide (a<b))):=by rw[X6];simp[R9,N4,G10,G7]
theorem Q43:D10 .leq (.int K a) (.int K b) k=k (.bool (decide (a<=b))):=by rw[X6];simp[R9,N4,G10,G7]
theorem G48:D10 .gtr (.int K a) (.int K b) k=k (.bool (decide (b<a))):=by rw[X6];simp[R9,N4,G10,G7]
theorem M42:D10 .geq (.int K a) (.int K b) k=k (.bool (decide (b<=a))):=by rw[X6];simp[R9,N4,G10,G7]
theorem V44:D10 .eql (.int K a) (.int K b) k=k (.bool (decide (a=b))):=by rw[X6];simp[R9,N4,G10,G7];rfl
theorem Z47:D10 .neq (.int K a) (.int K b) k=k (.bool (decide (a≠b))):=by
 rw[X6];simp only[R9,N4,G10,G7,cond_true,cond_false,aN];congr 2;rw[eX];simp
theorem Z63:D10 .add (.int K a) (.int K b) k=k (.int K (K.wrap (a+b))):=by rw[X6];simp[R9,N4,G10,G7]
theorem R11:D10 .sub (.int K a) (.int K b) k=k (.int K (K.wrap (a-b))):=by rw[X6];simp[R9,N4,G10,G7]
theorem B82:D10 .mul (.int K a) (.int K b) k=k (.int K (K.wrap (a*b))):=by rw[X6];simp[R9,N4,G10,G7]
theorem E105(h:b≠0):D10 .quo (.int K a) (.int K b) k=k (.int K (K.wrap (a.tdiv b))):=by rw[X6];simp[R9,N4,G10,G7,h]
theorem Z62(h:b≠0):D10 .rem (.int K a) (.int K b) k=k (.int K (a.tmod b)):=by rw[X6];simp[R9,N4,G10,G7,h]
theorem Y23{x:Int}(h1 : -9223372036854775808<=x)(h2:x<9223372036854775808):IntKind.i64.wrap x=x:=IntWalk.i64_in _ ⟨h1,O0⟩
theorem N32(h1 : -9223372036854775808<=a+b)(h2:a+b<9223372036854775808):D10 .add (O8 a) (O8 b) k=k (O8 (a+b)):=by rw[Z63,Y23 h1 h2]
theorem N33(h1 : -9223372036854775808<=a-b)(h2:a-b<9223372036854775808):D10 .sub (O8 a) (O8 b) k=k (O8 (a-b)):=by rw[R11,Y23 h1 h2]
end
theorem C46(b:Bool)(t e:Prop):B0 (.bool b) t e=if b=true then t else e:=by unfold B0;exact E14 b t e
theorem M29(b:Bool)(y n:Prop):C1 true (.bool b) y n=if b=true then y else n:=by cases b<;>rfl
theorem Z27(b:Bool)(y n:Prop):C1 false (.bool b) y n=if b=true then n else y:=by cases b<;>rfl
theorem Y35(a b:Value)(k:VP):J65 (.bool true) a b k=k a:=rfl
theorem X29(a b:Value)(k:VP):J65 (.bool false) a b k=k b:=rfl
theorem Z50(b:Bool)(k:VP):C5 .not (.bool b) k=k (.bool !b):=by unfold C5;rw[J8];rfl
theorem G51(b o:Nat)(s:Option Nat)(off:Nat)(k:VP):B4 (.pointer (some ⟨b,o,s⟩)) off k=k (.pointer (some ⟨b,o+off,s⟩)):=by
 show M2 (o+off) (fun n=>k (.pointer (some ⟨b,n,s⟩)))=_;rw[G1]
theorem U33{i:Int}{n:Nat}(h1:0<=i)(h2:i<n)(b o:Nat)(s:Option Nat)(c size:Nat)(kd:IntKind)(k:VP):M3 (.slice (some ⟨b,o,s⟩) n c) (.int kd i) none size k=k (.pointer (some ⟨b,o+i.toNat*size,s⟩)):=by
 obtain⟨j,rfl⟩:=fI h1;have:dE j n=true:=by simp;omega
 show cond (dE j n) (U19 (o+j*size) ⟨b,o,s⟩ k) False=_;rw[this];unfold U19;simp only[cond_true];rw[G1];rfl
theorem K32{i:Int}{n:Nat}(h1:0<=i)(h2:i<n)(b o:Nat)(s:Option Nat)(size:Nat)(kd:IntKind)(k:VP):M3 (.pointer (some ⟨b,o,s⟩)) (.int kd i) (some n) size k=k (.pointer (some ⟨b,o+i.toNat*size,s⟩)):=by
 obtain⟨j,rfl⟩:=fI h1;have:dE j n=true:=by simp;omega
 show cond (dE j n) (U19 (o+j*size) ⟨b,o,s⟩ k) False=_;rw[this];unfold U19;simp only[cond_true];rw[G1];rfl
theorem W47(a:Addr)(k:VP):C70 (.pointer (some a)) k=k (.pointer (some a)):=rfl
theorem M50(l:List Value)(i:Nat)(k:VP):G9 (.tuple ⟨l⟩) i k=(l[i]?).elim False k:=by unfold G9;exact Z12 l i False k
theorem W38(l:List Value)(o:Nat)(k:VP):G42 (.agg ⟨l⟩) o none k=(l[o]?).elim False k:=by unfold G42 E21;exact Z12 l o False k
theorem K40(l:List Value)(o n:Nat)(k:VP):G42 (.agg ⟨l⟩) o (some n) k=k (.agg ⟨(l.drop o).take n⟩):=by unfold G42 E21;exact V14 _ _
theorem J35(a:Option Addr)(n c:Nat)(H:Y0)(k:VP):R4 (.slice a n c) 0 H k=k (O8 n):=rfl
theorem R28(s:ByteArray)(H:Y0)(k:VP):R4 (.string s) 1 H k=k (O8 s.size):=by unfold R4;exact G1 _ _
theorem Z32(kd k':IntKind)(n:Int)(k:VP):W8 kd (.int k' n) k=k (.int kd (kd.wrap n)):=by
 show cond (Q14 kd n) (k (.int kd n)) (Q16 (kd.wrap n) fun n=>k (.int kd n))=_;rw[J21]
 cases hf:Q14 kd n with
 | true=>rw[Z21 hf];rfl
 | false=>rfl
theorem Q37(b:V3)(y:Q0)(H:Y0)(nx:Nat)(k:EP):J3 b y H nx k=k (y.val nx) (hs H nx (some b)) (nx+1):=by unfold J3;rw[G4,G1,E7]
theorem W59(nx i:Nat)(y:Q0)(k:VP):wNm nx i y k=k (y.val (nx+i)):=by unfold wNm;rw[G1,Y5]
theorem B18{v:Value}(h:Z0 v.cells.toList=true)(k:List Value->Prop):E5 v k=k v.cells.toList:=by unfold E5;rw[h];exact V14 _ _
theorem Y31(l:List Value)(k:List Value->Prop):E5 (.agg ⟨l⟩) k=if Z0 l=true then k l else False:=by
 show cond (Z0 l) (spine l k) False=_;rw[V14];cases Z0 l<;>rfl
theorem D45(K:IntKind)(n:Int)(k:List Value->Prop):E5 (.int K n) k=k [.int K n]:=B18 (v := .int K n) rfl k
theorem N35(A:Option Addr)(n c:Nat)(k:List Value->Prop):E5 (.slice A n c) k=k [.slice A n c]:=B18 (v := .slice A n c) rfl k
theorem Y30(s:ByteArray)(k:List Value->Prop):E5 (.string s) k=k [.string s]:=B18 (v := .string s) rfl k
theorem W41(s:Bool)(k:List Value->Prop):E5 (.bool s) k=k [.bool s]:=B18 (v := .bool s) rfl k
theorem Q45(s:Option Nat)(k:List Value->Prop):E5 (.map s) k=k [.map s]:=B18 (v := .map s) rfl k
theorem W44(s:Option Addr)(k:List Value->Prop):E5 (.pointer s) k=k [.pointer s]:=B18 (v := .pointer s) rfl k
theorem Q66(len size:Nat)(z:List Value)(vs:List (Nat × Value))(k:List Value->Prop):K6 len size z vs k=(match V16 (fun k=>some (k*size,size)) (Q19 z len) vs with | some cs=>if Z0 cs=true then k cs else False | none=>False):=by
 unfold K6
 cases V16 (fun k=>some (k*size,size)) (Q19 z len) vs with
 | none=>rfl
 | some cs=>dsimp only;rw[V14];cases Z0 cs<;>rfl
def B10(c:List Value)(o:Nat)(size:Option Nat)(k:VP):Prop:=match size with
 | none=>(c[o]?).elim False k
 | some n=>o+n<=c.length/\k (.agg ⟨(c.drop o).take n⟩)
def V7(b:Option V3)(o:Nat)(size:Option Nat)(k:VP):Prop:=match b with
 | some (.cells c _)=>B10 c o size k
 | some (.rom c)=>B10 c o size k
 | _=>False
theorem R23{α:Type}:∀ {n:Nat} {l:List α},n<=l.length->G5 n l=some (l.take n)
 | 0,l,_=>by simp[G5]
 | n+1,[],h=>by simp at h
 | n+1,a :: l,h=>by simp[G5,R23 (n:=n) (l:=l) (by simpa using h)]
theorem M23{α:Type}:∀ {n:Nat} {l:List α},l.length<n->G5 n l=none
 | 0,l,h=>O0
 | n+1,[],_=>rfl
 | n+1,a :: l,h=>by simp[G5,M23 (n:=n) (l:=l) (by simpa using h)]
theorem U57(o:Nat)(size:Option Nat)(k:VP)(c:List Value)(B:∀ n,size=some n->0<n):ldC o size False k c=B10 c o size k:=by
 unfold ldC B10
 cases size with
 | none=>exact Z12 c o False k
 | some n=>
  dsimp only;have hn:=B n rfl
  by_cases h:o+n<=c.length
  .rw[R23 O5];dsimp only;rw[V14];simp[h]
  .rw[M23 O5];simp[h]
theorem V60(b o:Nat)(size:Option Nat)(H:Y0)(k:VP)(B:∀ n,size=some n->0<n):J1 (.pointer (some ⟨b,o,none⟩)) size H k=V7 (J0 H b) o size k:=by
 show D12 H b False (ldB o size False k)=_;rw[Y4];unfold V7
 cases J0 H b with
 | none=>rfl
 | some blk=>
  cases blk with
  | map es q=>rfl
  | cells c sl=>exact U57 o size k c B
  | rom c=>exact U57 o size k c B
theorem J48(b o:Nat)(H:Y0)(k:VP):J1 (.pointer (some ⟨b,o,none⟩)) none H k=V7 (J0 H b) o none k:=V60 b o none H k (fun n h=>by cases h)
theorem W31(b o n:Nat)(H:Y0)(k:VP):J1 (.pointer (some ⟨b,o,none⟩)) (some (n+1)) H k=V7 (J0 H b) o (some (n+1)) k:=V60 b o _ H k (fun m h=>by cases h;omega)
theorem V65(b o:Nat)(H:Y0)(k:VP):J1 (.pointer (some ⟨b,o,none⟩)) (some 2) H k=V7 (J0 H b) o (some 2) k:=W31 b o 1 H k
theorem G65(b o:Nat)(H:Y0)(k:VP):J1 (.pointer (some ⟨b,o,none⟩)) (some 3) H k=V7 (J0 H b) o (some 3) k:=W31 b o 2 H k
theorem X57(b o:Nat)(H:Y0)(k:VP):J1 (.pointer (some ⟨b,o,none⟩)) (some 32) H k=V7 (J0 H b) o (some 32) k:=W31 b o 31 H k
theorem Y40(c:List Value)(sl o:Nat)(size:Option Nat)(k:VP):V7 (some (.cells c sl)) o size k=B10 c o size k:=rfl
theorem Y50(c:List Value)(o:Nat)(size:Option Nat)(k:VP):V7 (some (.rom c)) o size k=B10 c o size k:=rfl
theorem Q40(c:List Value)(o:Nat)(k:VP):B10 c o none k=(c[o]?).elim False k:=rfl
theorem X21(c:List Value)(o n:Nat)(k:VP):B10 c o (some n) k=(o+n<=c.length/\k (.agg ⟨(c.drop o).take n⟩)):=rfl
def B12(c:List Value)(o:Nat)(vs:List Value):List Value:=c.take o++vs++c.drop (o+vs.length)
def stP(b:Option V3)(o:Nat)(vs:List Value)(k:V3->Prop):Prop:=match b with
 | some (.cells c sl)=>o+vs.length<=c.length/\k (.cells (B12 c o vs) sl)
 | _=>False
theorem J30(H:Y0)(b o:Nat)(vs:List Value)(k:Y0->Prop):U12 H ⟨b,o,none⟩ vs False k=stP (J0 H b) o vs fun blk=>k (hs H b (some blk)):=by
 unfold U12 stP;dsimp only;rw[Y4]
 cases J0 H b with
 | none=>rfl
 | some blk=>
  cases blk with
  | map es q=>rfl
  | rom c=>rfl
  | cells c sl=>
   dsimp only[aN]
   by_cases h:o+vs.length<=c.length
   .rw[Nat.ble_eq_true_of_le h];simp only[cond_true];rw[V14,G4];simp[h,B12]
   .have:dD (o+vs.length) c.length=false:=by
     cases hb:dD (o+vs.length) c.length with
     | false=>rfl
     | true=>exact absurd (Nat.le_of_ble_eq_true hb) h
    rw[this];simp[h]
theorem C16{size:Nat}(h1:v.cells.toList.length=size)(h2:Z0 v.cells.toList=true)(b o:Nat)(H:Y0)(k:Y0->Prop):D5 (.pointer (some ⟨b,o,none⟩)) v size H k=stP (J0 H b) o v.cells.toList fun blk=>k (hs H b (some blk)):=by
 show cond (bR v.cells.toList.length size&&Z0 v.cells.toList) (U12 H ⟨b,o,none⟩ v.cells.toList False k) False=_;rw[h2,h1];have:bR size size=true:=O2;rw[this];exact J30 H b o _ k
theorem C49(l:List Value)(size b o:Nat)(H:Y0)(k:Y0->Prop):D5 (.pointer (some ⟨b,o,none⟩)) (.agg ⟨l⟩) size H k=if l.length=size/\Z0 l=true then stP (J0 H b) o l fun blk=>k (hs H b (some blk)) else False:=by
 by_cases h:l.length=size/\Z0 l=true
 .rw[if_pos h];exact C16 (v := .agg ⟨l⟩) h.1 h.2 b o H k
 .rw[if_neg h]
  show cond (bR l.length size&&Z0 l) (U12 H ⟨b,o,none⟩ l False k) False=False;have:(bR l.length size&&Z0 l)=false:=by
   cases hb:(bR l.length size&&Z0 l) with
   | false=>rfl
   | true=>
    rw[aG] at hb;exact absurd ⟨dI hb.1,hb.2⟩ h
  rw[this];rfl
section
variable (b o:Nat) (H:Y0) (k:Y0->Prop)
theorem D50(K:IntKind)(n:Int):D5 (.pointer (some ⟨b,o,none⟩)) (.int K n) 1 H k=stP (J0 H b) o [.int K n] fun blk=>k (hs H b (some blk)):=C16 (v := .int K n) rfl rfl b o H k
theorem M47(x:Bool):D5 (.pointer (some ⟨b,o,none⟩)) (.bool x) 1 H k=stP (J0 H b) o [.bool x] fun blk=>k (hs H b (some blk)):=C16 (v := .bool x) rfl rfl b o H k
theorem R32(x:ByteArray):D5 (.pointer (some ⟨b,o,none⟩)) (.string x) 1 H k=stP (J0 H b) o [.string x] fun blk=>k (hs H b (some blk)):=C16 (v := .string x) rfl rfl b o H k
theorem Z41(A:Option Addr)(n c:Nat):D5 (.pointer (some ⟨b,o,none⟩)) (.slice A n c) 1 H k=stP (J0 H b) o [.slice A n c] fun blk=>k (hs H b (some blk)):=C16 (v := .slice A n c) rfl rfl b o H k
theorem U51(A:Option Addr):D5 (.pointer (some ⟨b,o,none⟩)) (.pointer A) 1 H k=stP (J0 H b) o [.pointer A] fun blk=>k (hs H b (some blk)):=C16 (v := .pointer A) rfl rfl b o H k
theorem C50(r:Option Nat):D5 (.pointer (some ⟨b,o,none⟩)) (.map r) 1 H k=stP (J0 H b) o [.map r] fun blk=>k (hs H b (some blk)):=C16 (v := .map r) rfl rfl b o H k
theorem G47(f:Fn)(x y:Array Value):D5 (.pointer (some ⟨b,o,none⟩)) (.func f x y) 1 H k=stP (J0 H b) o [.func f x y] fun blk=>k (hs H b (some blk)):=C16 (v := .func f x y) rfl rfl b o H k
end
theorem U20(c:List Value)(sl o:Nat)(vs:List Value)(k:V3->Prop):stP (some (.cells c sl)) o vs k=(o+vs.length<=c.length/\k (.cells (B12 c o vs) sl)):=rfl
theorem Q87{o:Nat}(h:o<c.length):B12 c o [v]=c.set o v:=by
 unfold B12;rw[List.set_eq_take_append_cons_drop,if_pos h];simp
theorem G24{vs:List Value}(h:vs.length=c.length):B12 c 0 vs=vs:=by
 unfold B12;simp[h]
theorem Z11(H:Y0)(i:Nat)(b:Option V3):J0 (hs H i b) i=b:=by rw[N7,if_pos rfl]
theorem Z1{H:Y0}{i j:Nat}(b:Option V3)(h:j≠i):J0 (hs H i b) j=J0 H j:=by rw[N7,if_neg h]
theorem Q25(H:Y0)(size n:Nat)(b o len cap:Nat)(k:List Value->Prop)(hn:0<n*size):Z5 H size n (.slice (some ⟨b,o,none⟩) len cap) False k=match (J0 H b).bind V3.row with
  | some c=>o+n*size<=c.length/\k ((c.drop o).take (n*size))
  | none=>False:=by
 unfold Z5 B19;dsimp only;rw[Y4];have B:∀ c:List Value,(match G5 (n*size) (c.drop o) with | some l=>spine l k | none=>False)=(o+n*size<=c.length/\k ((c.drop o).take (n*size))):=by
  intro c
  by_cases h:o+n*size<=c.length
  .rw[R23 O5];dsimp only;rw[V14];simp[h]
  .rw[M23 O5];simp[h]
 cases J0 H b with
 | none=>rfl
 | some blk=>
  cases blk with
  | map es q=>rfl
  | cells c sl=>exact B c
  | rom c=>exact B c
theorem D0.gt{nx:Nat}{H':Y0}{nx':Nat}(e:D0 H nx H' nx')(i:Nat)(h:i<nx:=by omega):J0 H' i=J0 H i:=e.get i h
theorem D0.nw(a:D0 H nx H1 n1)(b:Option V3)(hi:nx<=i:=by omega)(hm:n1<=m:=by omega):D0 H nx (Go.Clo.hs H1 i b) m:=a.new b hi hm
theorem D0.h0{b:Option V3}(a:D0 H nx H1 m)(hi:nx<=i:=by omega):D0 H nx (Go.Clo.hs H1 i b) m:=a.hs hi
theorem D0.sf(h:nx<=m:=by omega):D0 H nx H m:=D0.self h
theorem gN{j:Nat}(b:Option V3)(h:j≠i:=by omega):J0 (hs H i b) j=J0 H j:=Z1 b h
end
section
variable {a b:Nat}
def Z2(a b:Nat):Nat:=a ^^^ (a &&& b)
theorem N1(a b i:Nat):(Z2 a b).testBit i=(a.testBit i && !b.testBit i):=by
 unfold Z2;rw[Nat.testBit_xor,bI];cases a.testBit i<;>cases b.testBit i<;>rfl
theorem Z6{n:Nat}(h:a<2^n):Z2 a b<2^n:=Nat.xor_lt_two_pow h (Nat.and_lt_two_pow' _ h)
where
 Nat.and_lt_two_pow' {x n:Nat} (y:Nat) (h:x<2^n):x &&& y<2^n:=iF Nat.and_le_left h
theorem D15{a:Nat}(h:a<4294967296):eW.wrap (a:Int)=a:=by
 simp only[eY,eK,dW];simp;omega
theorem W10(w a:Nat):cT w (a:Int)=BitVec.ofNat w a:=by
 apply BitVec.eq_of_toNat_eq;simp
theorem D52(h:a<4294967296):a &&& b<4294967296:=iF Nat.and_le_left h
theorem M54(ha:a<4294967296)(hb:b<4294967296):a ||| b<4294967296:=Nat.or_lt_two_pow (n:=32) ha hb
theorem U10(ha:a<4294967296):Z2 a b<4294967296:=Z6 (n:=32) ha
section
variable {a b:Nat} (k:VP)
theorem D17(ha:a<4294967296)(hb:b<4294967296):D10 .and (O9 (a:Int)) (O9 (b:Int)) k=k (O9 ((a &&& b:Nat):Int)):=by
 rw[X6];show k (O9 (eW.wrap ((cT 32 (a:Int) &&& cT 32 (b:Int)).toNat:Int)))=_;rw[W10,W10,BitVec.toNat_and,eP,eP,bV (by simpa using ha),bV (by simpa using hb),D15 (D52 ha)]
theorem D39(ha:a<4294967296)(hb:b<4294967296):D10 .or (O9 (a:Int)) (O9 (b:Int)) k=k (O9 ((a ||| b:Nat):Int)):=by
 rw[X6];show k (O9 (eW.wrap ((cT 32 (a:Int) ||| cT 32 (b:Int)).toNat:Int)))=_;rw[W10,W10,BitVec.toNat_or,eP,eP,bV (by simpa using ha),bV (by simpa using hb),D15 (M54 ha hb)]
theorem V17(ha:a<4294967296)(hb:b<4294967296):D10 .andNot (O9 (a:Int)) (O9 (b:Int)) k=k (O9 ((Z2 a b:Nat):Int)):=by
 rw[X6];show k (O9 (eW.wrap ((cT 32 (a:Int) &&& ~~~(cT 32 (b:Int))).toNat:Int)))=_;rw[W10,W10];have e:(BitVec.ofNat 32 a &&& ~~~(BitVec.ofNat 32 b)).toNat=Z2 a b:=by
  apply bZ;intro i;rw[N1,BitVec.testBit_toNat,BitVec.getLsbD_and,BitVec.getLsbD_not,BitVec.getLsbD_ofNat,BitVec.getLsbD_ofNat]
  by_cases hi:i<32
  .simp[hi]
  .have:a.testBit i=false:=dV (aO ha (aK (n:=2) O0 (show 32<=i by omega)))
   simp[hi,this]
 rw[e,D15 (U10 ha)]
theorem V15{n:Nat}{K:IntKind}(ha:a<4294967296):D10 .shr (O9 (a:Int)) (.int K (n:Int)) k=k (O9 ((a >>> n:Nat):Int)):=by
 rw[X6];have hn:¬ (n:Int)<0:=O0;simp only[R9,N4,C18,cond_true,hn,if_false,aN,dW];congr 2;have e:((2:Int)^min ((n:Int)).toNat 32)=((2^min n 32:Nat):Int):=O2;rw[e,Int.fdiv_eq_ediv_of_nonneg _ (Int.natCast_nonneg _),<- Int.natCast_ediv,eO];congr 1
 by_cases h:n<=32
 .rw[Nat.min_eq_left h]
 .rw[Nat.min_eq_right O0,Nat.div_eq_of_lt (by simpa using ha),Nat.div_eq_of_lt (aO ha (by
   have:=aK (n:=2) O0 (show 32<=n by omega);simpa using this))]
theorem M35{n:Nat}{K:IntKind}(hn:n<32):D10 .shl (O9 1) (.int K (n:Int)) k=k (O9 ((2^n:Nat):Int)):=by
 rw[X6];have h0:¬ (n:Int)<0:=O0;simp only[R9,N4,C18,cond_true,h0,if_false,aN,dW];congr 2;have e:(1*(2:Int)^min ((n:Int)).toNat 32)=((2^n:Nat):Int):=by
  have:min n 32=n:=O0;simp[this]
 rw[e,D15];exact aO (Nat.pow_lt_pow_right O0 hn) (by decide)
theorem R40(ha:a<4294967296):D10 .and (O9 (a:Int)) (O9 1) k=k (O9 ((a%2:Nat):Int)):=by
 have:=D17 (b:=1) k ha O0;rw[Nat.and_one_is_mod] at this;exact this
theorem R39(ha:a<4294967296):D10 .rem (O9 (a:Int)) (O9 2) k=k (O9 ((a%2:Nat):Int)):=by
 rw[Z62 _ _ _ _ O0];congr 2
theorem C36(a n:Nat):decide ((((a >>> n)%2:Nat):Int)=1)=a.testBit n:=by
 rw[Nat.testBit_eq_decide_div_mod_eq,eO];congr 1;apply propext;omega
theorem V31(a n:Nat):decide ((((a >>> n)%2:Nat):Int)=0) = !a.testBit n:=by
 rw[Nat.testBit_eq_decide_div_mod_eq,eO];generalize a/2^n=m;rw[eX];simp only[decide_eq_true_eq,cJ,decide_eq_false_iff_not];omega
theorem V38(a n:Nat):decide ((a >>> n)%2=0) = !a.testBit n:=by rw[<- V31];congr 1;apply propext;omega
theorem B44(a n:Nat):decide ((a >>> n)%2=1)=a.testBit n:=by rw[<- C36];congr 1;apply propext;omega
theorem E28(a:Nat):decide ((a:Int)=0)=decide (a=0):=by congr 1;apply propext;omega
theorem J28(a:Nat):decide ((a:Int)≠0)=decide (a≠0):=by congr 1;apply propext;omega
end
end
section
variable {A:Option Addr} {H H':Y0} {c l:List Value} {e i nx nx':Nat} {es:List Nat}
def Q5(H:Y0)(b:Nat):Option (List Value):=(J0 H b).bind V3.row
theorem X3{b:Nat}{row:List Value}(h:Q5 H b=some row)(o:Nat)(size:Option Nat)(k:VP):V7 (J0 H b) o size k=B10 row o size k:=by
 unfold Q5 at h
 cases hg:J0 H b with
 | none=>rw[hg] at h;cases h
 | some blk=>
  rw[hg] at h
  cases blk with
  | map es q=>cases h
  | cells c sl=>cases h;rfl
  | rom c=>cases h;rfl
theorem D0.row{b:Nat}(h:D0 H nx H' nx')(hb:b<nx):Q5 H' b=Q5 H b:=by unfold Q5;rw[h.get b hb]
def Sl(H:Y0)(nx:Nat)(A:Option Addr)(c:List Value):Prop:=
 ∀ i v,c[i]? = some v->∃ b o row,A=some ⟨b,o,none⟩/\b<nx/\Q5 H b=some row/\row[o+i]? = some v
theorem Sl.ext(h:Sl H nx A c)(e:D0 H nx H' nx'):Sl H' nx' A c:=fun i v hv=>
 let ⟨b,o,row,h1,h2,h3,h4⟩:=h i v hv
 ⟨b,o,row,h1,aO h2 e.le,by rw[e.row h2];exact h3,h4⟩
theorem Sl.nil(H:Y0)(nx:Nat)(A:Option Addr):Sl H nx A []:=fun i v h=>by simp at h
theorem Sl.open(h:Sl H nx A c)(hi:i<c.length):
  ∃ b o row,A=some ⟨b,o,none⟩/\b<nx/\Q5 H b=some row/\∀ j v,c[j]? = some v->row[o+j]? = some v:=by
 obtain⟨b,o,row,h1,h2,h3,_⟩:=h i c[i] (aE hi);refine⟨b,o,row,h1,h2,h3,fun j v hv => ?_⟩;obtain⟨b',o',row',g1,g2,g3,g4⟩:=h j v hv;rw[h1] at g1;cases g1;rw[h3] at g3;cases g3;exact g4
theorem M51{row:List Value}{o n:Nat}(hl:l.length=n)(h:∀ j v,l[j]? = some v->row[o+j]? = some v)(k:VP)(hn:0<n):B10 row o (some n) k=k (.agg ⟨l⟩):=by
 have B:o+n<=row.length:=by
  have:=h (n-1) l[n-1] (aE O0);rcases aW (o+(n-1)) row.length with g | g
  .omega
  .rw[aT g] at this;cases this
 have e:(row.drop o).take n=l:=by
  apply dH;intro j
  by_cases hj:j<n
  .rw[aX,if_pos hj,dB,h j l[j] (aE O0),aE O0]
  .rw[aX,if_neg hj,aT O0]
 rw[X21,e];simp[B]
theorem K26(k:VP):B10 l 0 (some l.length) k=k (.agg ⟨l⟩):=by rw[X21];simp
theorem C13(x y:Value)(k:VP):B10 [x,y] 0 (some 2) k=k (.agg ⟨[x,y]⟩):=K26 (l:=[x,y]) k
theorem Y12(x y z:Value)(k:VP):B10 [x,y,z] 0 (some 3) k=k (.agg ⟨[x,y,z]⟩):=K26 (l:=[x,y,z]) k
theorem G26(a b x y:Value):B12 [a,b] 0 [x,y]=[x,y]:=rfl
theorem D7(a b c x y z:Value):B12 [a,b,c] 0 [x,y,z]=[x,y,z]:=rfl
def K12(es:List Nat):List Value:=es.map fun(e:Nat)=>cD .u32 (e:Int)
def U4(xs:List Int):List Value:=xs.map fun x=>cD .i64 x
def U14(es:List Nat):Prop:=∀ e ∈ es,e<4294967296
theorem Q3{e:Nat}(h:es[i]? = some e):(K12 es)[i]? = some (O9 (e:Int)):=by simp[K12,h]
theorem Z9{xs:List Int}{x:Int}(h:xs[i]? = some x):(U4 xs)[i]? = some (O8 x):=by simp[U4,h]
theorem C3(es:List Nat):(K12 es).length=es.length:=by simp[K12]
theorem X9(xs:List Int):(U4 xs).length=xs.length:=by simp[U4]
theorem U14.get(h:U14 es)(he:es[i]? = some e):e<4294967296:=h e (aH he)
end
section
variable {H:Y0} {a b cap lo m n nx size:Nat} {c l:List Value} {v:Value}
def J6(lo:Nat)(H:Y0)(nx:Nat)(size:Nat)(v:Value)(n:Nat)(c:List Value):Prop:=
 c.length=n*size/\((n=0/\v = .slice none 0 0)\/∃ b,lo<=b/\b<nx/\v = .slice (some ⟨b,0,none⟩) n n/\J0 H b=some (.cells c size))
theorem J6.nil(lo:Nat)(H:Y0)(nx size:Nat):J6 lo H nx size O6 0 []:=⟨O2,.inl ⟨rfl,rfl⟩⟩
theorem J6.ext{H':Y0}{nx':Nat}(h:J6 lo H nx size v n c)(e:D0 H nx H' nx'):J6 lo H' nx' size v n c:=by
 refine⟨h.1,h.2.imp id ?_⟩;rintro⟨b,h1,h2,h3,h4⟩;exact⟨b,h1,aO h2 e.le,h3,by rw[e.get b h2];exact h4⟩
theorem J6.sl(h:J6 lo H nx size v n c):∃ A,v = .slice A n n/\Sl H nx A c:=by
 obtain⟨hl,h⟩:=h;rcases h with ⟨rfl,rfl⟩ | ⟨b,h1,h2,rfl,h4⟩
 .refine⟨none,rfl,?_⟩
  simp at hl;subst hl;exact Sl.nil _ _ _
 .refine⟨_,rfl,fun i u hu=>⟨b,0,c,rfl,h2,by simp[Q5,h4,V3.row],by simpa using hu⟩⟩
theorem V6(h:a<=b):dD a b=true:=Nat.ble_eq_true_of_le h
theorem E27(h:b<a):dD a b=false:=by
 cases hb:dD a b with
 | false=>rfl
 | true=>exact absurd (Nat.le_of_ble_eq_true hb) O0
theorem D13(a:Nat):bR a a=true:=O2
theorem K43(h:a≠b):bR a b=false:=by
 cases hb:bR a b with
 | false=>rfl
 | true=>exact absurd (dI hb) h
structure Src (H:Y0) (size:Nat) (x:Value) (m:Nat) (l:List Value):Prop where
 len:Y45 x=some m
 first:∀ k:List Value->Prop,Z5 H size m x False k=k l
 size:l.length=m*size
theorem J9{sl:Nat}(hg:J0 H b=some (.cells l sl))(hl:l.length=m*size)(hm:0<m*size):Src H size (.slice (some ⟨b,0,none⟩) m cap) m l:=by
 refine⟨rfl,fun k => ?_,hl⟩;rw[Q25 _ _ _ _ _ _ _ _ hm,hg];simp only[Option.bind_some,V3.row];simp[<- hl]
theorem B68{A:Option Addr}(h:Sl H nx A l)(hl:l.length=m*size)(hm:0<m*size):Src H size (.slice A m cap) m l:=by
 obtain⟨b,o,row,rfl,hb,B,E⟩:=h.open (i:=0) O0;refine⟨rfl,fun k => ?_,hl⟩;rw[Q25 _ _ _ _ _ _ _ _ hm];unfold Q5 at B;rw[B];have:=M51 (row:=row) (o:=o) (n:=m*size) hl E (fun v=>match v with | .agg a=>k a.toList | _=>False) hm;rw[X21] at this;exact this
theorem Y20{bytes:Nat}{x:Value}{H0:Y0}{k:EP}(Q:0<size)(hA:J6 lo H nx size v n c)(hx:Src H size x m l)(hm:0<m)(ho:Z0 l=true)(J:(2*(n+m)+1000)*bytes<=281474976710656)(L:n+m<=1000000000)(hE:D0 H0 lo H nx)(E:lo<=nx)(hk:∀ v' H',J6 lo H' (nx+1) size v' (n+m) (c++l)->D0 H0 lo H' (nx+1)->(∀ i,i<nx->(∀ A n' c',v = .slice (some A) n' c'->A.block≠i)->J0 H' i=J0 H i)->k v' H' (nx+1)):B5 v x size bytes H nx k:=by
 obtain⟨hl,hA⟩:=hA;have B:(c++l).length=(n+m)*size:=by rw[bH,hl,hx.size,dM]
 unfold B5 Z22;rcases hA with ⟨rfl,rfl⟩ | ⟨b,h1,h2,rfl,h4⟩
 .have hc:c=[]:=by simp at hl;exact hl
  subst hc;rw[hx.len];dsimp only;rw[G1,V6 J,V6 L];simp only[Bool.and_self,cond_true];rw[hx.first,ho,E27 (show 0<0+m by omega)];simp only[cond_true,cond_false];show spine ([]++l) _;rw[V14];have e:([]++l).length=(0+m)*size:=B;rw[e,D13];simp only[cond_true,D22,K11];rw[G1,G1,G4];refine hk _ _ ⟨B,.inr ⟨nx,E,O0,rfl,Z11 _ _ _⟩⟩ (hE.new _ E O0) fun i hi _=>gN _
 .rw[hx.len]
  dsimp only;rw[G1,V6 J,V6 L];simp only[Bool.and_self,cond_true];rw[hx.first,ho,E27 (show n<n+m by omega)];simp only[cond_true,cond_false];have M:∀ k:List Value->Prop,Z5 H size n (.slice (some ⟨b,0,none⟩) n n) False k=k c:=by
   intro k;rcases cI n with h0 | h0
   .subst h0
    simp at hl;subst hl;unfold Z5 B19;dsimp only;rw[Y4,h4];simp only[aN,Nat.zero_mul,G5];exact V14 _ _
   .exact(J9 h4 hl (Nat.mul_pos h0 Q)).first k
  rw[M,V14,B,D13];simp only[cond_true,D22];rw[Y4,h4];simp only[aN];have R:N8 (.cells c size) 0 n size=some true:=by
   simp only[N8];rw[K43 (show size≠0 by omega),D13];simp only[cond_false,cond_true];rw[hl,cF,D13]
  rw[R];dsimp only;rw[G4];simp only[K11];rw[G1,G1,G4];refine hk _ _ ⟨B,.inr ⟨nx,E,O0,rfl,Z11 _ _ _⟩⟩ ((hE.new _ h1 (aD _)).new _ E O0) fun i hi O => ?_
  rw[gN _,Z1 _ (fun h=>O _ _ _ rfl h.symm)]
end
end Go.Clo
