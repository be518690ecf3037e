/-
  The closed executor: a region's run in the order of the text,as a record.
  The closed executor: a region's operations in whatever order: the state.
  The closed executor: a region's operations in whatever order: one operation.
  The closed executor: a region's operations in whatever order.
  The closed executor: a region that draws its order.
  The closed executor: code,calls,and what a run says.
  The closed executor: results,calls,and what a run says.
  The executor as a claim: calls by their contracts,the look at a region's readings,groups of guarded operations.
-/
import Derived.Test.YtoiioigihocgbaaGreatDoorD3
import Derived.Below
set_option maxHeartbeats 8000000
set_option maxRecDepth 100000
set_option linter.all false
noncomputable section
open Array renaming replicate->fN,toList_inj->fB
open Bool renaming and_eq_true->aG
open Go.Region renaming binds->fH,wanted->fE
open Go.Result renaming andThen_ok->aM
open Go.Sem renaming run_bind->aS,run_pure->bD
open List renaming all_eq_true->bW,any_eq_true->dY,cons_append->dL,getElem?_append_left->bQ,getElem?_append_right->bS,length_append->bH,length_cons->cV,mem_append->dN,mem_append_left->dX,mem_cons->aU,mem_cons_of_mem->eJ,mem_of_getElem?->aH,nil_append->eR
open Nat renaming add_assoc->eH,beq->bR,ble->dD,blt->dE,eq_of_beq_eq_true->bT,le_of_lt->eG,le_refl->aD,le_trans->bK,lt_of_lt_of_le->aO,pow_succ->dR,rec->fC
open Ne renaming symm->eT
open Option renaming elim_some->aN
open Option.some renaming injEq->aZ
namespace Go.Clo
inductive Inf where
 | u
 | p
 | r (i:IR)
 | a (b:V3)
 | e (H:Y0) (nx:Nat)
structure D3 where
 T:K0 Value
 v:Value
 inf:Inf
def D1:List D3->List Nat
 | []=>[]
 | r :: l=>match r.inf with
  | .e _ _=>l.length :: D1 l
  | _=>D1 l
def B3:List D3->List (Nat × V3)
 | []=>[]
 | r :: l=>match r.inf with
  | .a b=>(l.length,b) :: B3 l
  | _=>B3 l
def hR(H0:Y0):List D3->Y0
 | []=>H0
 | r :: l=>match r.inf with
  | .e H _=>H
  | _=>hR H0 l
def nR(n0:Nat):List D3->Nat
 | []=>n0
 | r :: l=>match r.inf with
  | .e _ nx=>nx
  | _=>nR n0 l
def MsR(H0:Y0):List D3->List Y0
 | []=>[]
 | r :: l=>match r.inf with
  | .e _ _=>hR H0 l :: MsR H0 l
  | _=>MsR H0 l
def rsR:List D3->List Rd
 | []=>[]
 | r :: l=>match r.inf with
  | .r i=>⟨l.length,i,r.T,r.v⟩ :: rsR l
  | _=>rsR l
def C10(ops:List Oper)(T0:K0 Value):List D3->Nat->Value
 | [],t=>(tg T0 t).getD undef
 | r :: l,t=>if (ops[l.length]?).bind (·.dst)=some t then r.v else C10 ops T0 l t
structure M63 (P:Program) (d n:Nat) (ops:List Oper) (N:Nat) (H0:Y0) (n0:Nat) (T0:K0 Value) (r:D3) (l:List D3) (o:Oper) (s:S):Prop where
 ho:ops[l.length]? = some o
 hs:K16 P n ops o=some s
 hT:∀ t,t<n->(tg r.T t).getD undef=C10 ops T0 l t
 what:match r.inf with
  | .u=>r.v=undef/\∀ F a,GR s.guard F r.T a->fE o (yielded ops.toArray a.tmps)=false
  | .p=>(∀ F a,GR s.guard F r.T a->fE o (yielded ops.toArray a.tmps)=true)/\PV P d n o r.T r.v
  | .r i=>(∀ F a,GR s.guard F r.T a->fE o (yielded ops.toArray a.tmps)=true)/\s.i = .r i
  | .a b=>(∀ F a,GR s.guard F r.T a->fE o (yielded ops.toArray a.tmps)=true)/\∃ y,AV P d n o r.T b y/\r.v=y.val (N+l.length)
  | .e H' nx'=>(∀ F a,GR s.guard F r.T a->fE o (yielded ops.toArray a.tmps)=true) /\
    EV P d n o r.T (X8 N (fun j=>D2 (U1 ops) l.length j && !Y3 (U1 ops) (D1 l) j) (hR H0 l) (B3 l)) (nR n0 l) r.v H' nx'/\∀ e ∈ D1 l,D2 (U1 ops) l.length e=true
def B11(P:Program)(d n:Nat)(ops:List Oper)(N:Nat)(H0:Y0)(n0:Nat)(T0:K0 Value):List D3->Prop
 | []=>True
 | r :: l=>(∃ o s,M63 P d n ops N H0 n0 T0 r l o s)/\B11 P d n ops N H0 n0 T0 l
section
variable {β:Type} {P:Program} {d n:Nat} {ops:List Oper} {N:Nat} {H0:Y0} {n0:Nat} {T0:K0 Value}
theorem Q22{rc:List D3}{T:K0 Value}{o:Oper}(ho:ops[rc.length]? = some o)(hn:n<=2^d)(hw:WF d T)(hT:∀ t,t<n->(tg T t).getD undef=C10 ops T0 rc t)(E:∀ q,o.dst=some q->q<n)(v:Value)(inf:Inf)(k:K0 Value->β):
  ∃ T',E4 d o.dst v T k=k T'/\WF d T'/\∀ t,t<n->(tg T' t).getD undef=C10 ops T0 (⟨T,v,inf⟩ :: rc) t:=by
 cases hd:o.dst with
 | none=>
  refine⟨T,rfl,hw,fun t ht => ?_⟩;rw[hT t ht];simp[C10,ho,hd]
 | some q=>
  have hq:=E q hd;refine⟨ts d T q v,Z15 d T q v k,U16 d T q v hw,fun t ht => ?_⟩;rw[K21 d T q t v hw (aO hq hn) (aO ht hn)];simp only[C10,ho,hd,Option.bind_some]
  by_cases e:t=q
  .subst e;simp
  .have e':¬ (some q=some t):=by simp;exact fun h=>e h.symm
   rw[if_neg e,if_neg e'];exact hT t ht
theorem N55(call:Z3 β)(ms:List Nat)(z:β)(k:K0 Value->Y0->Nat->List Y0->List Nat->List (Nat × V3)->List Rd->β)(g:Option (Nat × Bool))(dst:Option Nat)(op:I)(l:List S)(i:Nat)(T:K0 Value)(H:Y0)(nx:Nat)(Ms:List Y0)(es:List Nat)(as:List (Nat × V3))(rs:List Rd):
  Z4 P d call ms N z k (⟨g,dst,op⟩ :: l) i T H nx Ms es as rs=V8 g T z
  (match op with
   | .p op=>X4 P op T z fun v=>E4 d dst v T fun T=>Z4 P d call ms N z k l (i+1) T H nx Ms es as rs
   | .r op=>U13 ms N es i H (fun h=>M9 P op T h z fun v=>E4 d dst v T fun T'=>Z4 P d call ms N z k l (i+1) T' H nx Ms es as (⟨i,op,T,v⟩ :: rs)) as
   | .a op=>evA op T z fun b y=>M2 (N+i) fun q=>M0 (y.val q) fun v=>E4 d dst v T fun T=>Z4 P d call ms N z k l (i+1) T H nx Ms es ((i,b) :: as) rs
   | .e op=>cond (es.all fun e=>D2 ms i e)
    (U13 ms N es i H (fun h=>evE op call T h nx z fun v H' nx=>E4 d dst v T fun T=>Z4 P d call ms N z k l (i+1) T H' nx (H :: Ms) (i :: es) as rs) as) z)
  (E4 d dst undef T fun T=>Z4 P d call ms N z k l (i+1) T H nx Ms es as rs):=rfl
theorem U32{call:Z3 β}(Q:E11 P call)(hn:n<=2^d)(z:β)(k:K0 Value->Y0->Nat->List Y0->List Nat->List (Nat × V3)->List Rd->β):
  ∀(suf:List Oper) (l:List S) (rc:List D3) (T:K0 Value),R3 P n ops suf=some l->(∀ j,j<suf.length->suf[j]? = ops[rc.length+j]?)->B11 P d n ops N H0 n0 T0 rc->WF d T->(∀ t,t<n->(tg T t).getD undef=C10 ops T0 rc t) ->
  Z4 P d call (U1 ops) N z k l rc.length T (hR H0 rc) (nR n0 rc) (MsR H0 rc) (D1 rc) (B3 rc) (rsR rc)=z \/
  ∃ E T',E.length=rc.length+suf.length/\B11 P d n ops N H0 n0 T0 E/\WF d T'/\(∀ t,t<n->(tg T' t).getD undef=C10 ops T0 E t) /\
   Z4 P d call (U1 ops) N z k l rc.length T (hR H0 rc) (nR n0 rc) (MsR H0 rc) (D1 rc) (B3 rc) (rsR rc)=k T' (hR H0 E) (nR n0 E) (MsR H0 E) (D1 E) (B3 E) (rsR E)
 | [],l,rc,T,h,_,hall,hw,hT=>by
  simp[R3] at h;subst h;exact .inr ⟨rc,T,rfl,hall,hw,hT,by simp[Z4]⟩
 | o :: suf,l,rc,T,h,hsuf,hall,hw,hT=>by
  simp only[R3] at h
  cases hs:K16 P n ops o with
  | none=>simp[hs] at h
  | some s=>cases hl:R3 P n ops suf with
   | none=>simp[hs,hl] at h
   | some l'=>
    simp[hs,hl] at h;subst h;have ho:ops[rc.length]? = some o:=by have:=hsuf 0 (by simp);simpa using this.symm
    have U:∀(inf:Inf) (v:Value) j,j<suf.length->suf[j]? = ops[((⟨T,v,inf⟩:D3) :: rc).length+j]? := fun inf v j hj=>by
     have:=hsuf (j+1) (by simp;omega);simp at this ⊢;rw[this];congr 1;omega
    obtain⟨hg,hd,J,hi⟩:=M16 hs;obtain⟨g,dst,i⟩:=s;dsimp only at hg hd hi;subst hd;have next:∀(inf:Inf) (v:Value) (T':K0 Value),(∃ o s,M63 P d n ops N H0 n0 T0 ⟨T,v,inf⟩ rc o s)->WF d T'->(∀ t,t<n->(tg T' t).getD undef=C10 ops T0 (⟨T,v,inf⟩ :: rc) t) ->
      Z4 P d call (U1 ops) N z k l' (rc.length+1) T' (hR H0 (⟨T,v,inf⟩ :: rc)) (nR n0 (⟨T,v,inf⟩ :: rc)) (MsR H0 (⟨T,v,inf⟩ :: rc)) (D1 (⟨T,v,inf⟩ :: rc)) (B3 (⟨T,v,inf⟩ :: rc)) (rsR (⟨T,v,inf⟩ :: rc))=z \/
      ∃ E O,E.length=rc.length+(o :: suf).length/\B11 P d n ops N H0 n0 T0 E/\WF d O/\(∀ t,t<n->(tg O t).getD undef=C10 ops T0 E t) /\
       Z4 P d call (U1 ops) N z k l' (rc.length+1) T' (hR H0 (⟨T,v,inf⟩ :: rc)) (nR n0 (⟨T,v,inf⟩ :: rc)) (MsR H0 (⟨T,v,inf⟩ :: rc)) (D1 (⟨T,v,inf⟩ :: rc)) (B3 (⟨T,v,inf⟩ :: rc)) (rsR (⟨T,v,inf⟩ :: rc))=k O (hR H0 E) (nR n0 E) (MsR H0 E) (D1 E) (B3 E) (rsR E):=by
     intro inf v T' hf W Z;rcases U32 Q hn z k suf l' (⟨T,v,inf⟩ :: rc) T' hl (U inf v) ⟨hf,hall⟩ W Z with h | ⟨E,O,h1,h2,h3,h4,h5⟩
     .exact .inl h
     .exact .inr ⟨E,O,by simp at h1 ⊢;omega,h2,h3,h4,h5⟩
    rw[N55];rcases B28 hg T z _ _ with e | ⟨e,hw1⟩ | ⟨e,hw1⟩
    .exact .inl e
    .rw[e]
     cases i with
     | p ip=>
      dsimp only;rcases K61 (P:=P) (d:=d) (T:=T) hi z _ with h | ⟨v,h,hp⟩
      .exact .inl h
      .rw[h]
       obtain⟨T',e1,e2,e3⟩:=Q22 (T0:=T0) ho hn hw hT J v .p (fun T=>Z4 P d call (U1 ops) N z k l' (rc.length+1) T (hR H0 rc) (nR n0 rc) (MsR H0 rc) (D1 rc) (B3 rc) (rsR rc));rw[e1];exact next .p v T' ⟨o,_,ho,hs,hT,hw1,hp⟩ e2 e3
     | r ir=>
      dsimp only;rw[Q18];rcases U34 (P:=P) (d:=d) (nx:=0) (T:=T) (H:=X8 N (fun j=>D2 (U1 ops) rc.length j && !Y3 (U1 ops) (D1 rc) j) (hR H0 rc) (B3 rc)) hi z _ with h | ⟨v,h,hp⟩
      .exact .inl h
      .rw[h]
       obtain⟨T',e1,e2,e3⟩:=Q22 (T0:=T0) ho hn hw hT J v (.r ir) (fun T'=>Z4 P d call (U1 ops) N z k l' (rc.length+1) T' (hR H0 rc) (nR n0 rc) (MsR H0 rc) (D1 rc) (B3 rc) (⟨rc.length,ir,T,v⟩ :: rsR rc));rw[e1];exact next (.r ir) v T' ⟨o,_,ho,hs,hT,hw1,rfl⟩ e2 e3
     | a ia=>
      dsimp only;rcases W57 (P:=P) (d:=d) (T:=T) hi z _ with h | ⟨b,y,h,hp⟩
      .exact .inl h
      .rw[h,G1,Y5]
       obtain⟨T',e1,e2,e3⟩:=Q22 (T0:=T0) ho hn hw hT J (y.val (N+rc.length)) (.a b) (fun T=>Z4 P d call (U1 ops) N z k l' (rc.length+1) T (hR H0 rc) (nR n0 rc) (MsR H0 rc) (D1 rc) ((rc.length,b) :: B3 rc) (rsR rc));rw[e1];exact next (.a b) _ T' ⟨o,_,ho,hs,hT,hw1,y,hp,rfl⟩ e2 e3
     | e ie=>
      dsimp only
      cases V:(D1 rc).all fun e=>D2 (U1 ops) rc.length e with
      | false=>exact .inl rfl
      | true=>
       dsimp only[cond_true];rw[Q18];rcases C60 (P:=P) (d:=d) (T:=T) (nx:=nR n0 rc) (H:=X8 N (fun j=>D2 (U1 ops) rc.length j && !Y3 (U1 ops) (D1 rc) j) (hR H0 rc) (B3 rc)) hi Q z _ with h | ⟨v,H',nx',h,hp⟩
       .exact .inl h
       .rw[h]
        obtain⟨T',e1,e2,e3⟩:=Q22 (T0:=T0) ho hn hw hT J v (.e H' nx') (fun T=>Z4 P d call (U1 ops) N z k l' (rc.length+1) T H' nx' (hR H0 rc :: MsR H0 rc) (rc.length :: D1 rc) (B3 rc) (rsR rc));rw[e1];exact next (.e H' nx') v T' ⟨o,_,ho,hs,hT,hw1,hp,fun e he=>by rw[bW] at V;exact V e he⟩ e2 e3
    .rw[e]
     obtain⟨T',e1,e2,e3⟩:=Q22 (T0:=T0) ho hn hw hT J undef .u (fun T=>Z4 P d call (U1 ops) N z k l' (rc.length+1) T (hR H0 rc) (nR n0 rc) (MsR H0 rc) (D1 rc) (B3 rc) (rsR rc));rw[e1];exact next .u undef T' ⟨o,_,ho,hs,hT,rfl,hw1⟩ e2 e3
end
section
variable {a b:Value} {β:Type}
theorem U71{a b:Value}:∀(n:Nat),(∀ a b,veq n a b=true->a=b)/\(∀ a b,D25 n a b=true->a=b):=by
 intro n
 induction n with
 | zero=>exact⟨fun a b h=>by simp[veq] at h,fun a b h=>by simp[D25] at h⟩
 | succ n ih=>
  obtain⟨J,E⟩:=ih;refine⟨fun a b h => ?_,fun a b h => ?_⟩
  .unfold veq at h
   split at h
   .simp at h;rw[h]
   .rw[aG,Q26] at h;rw[J33 h.1];simp at h;rw[h.2]
   .rw[aG] at h;have:=bT h.2;simp at h;rw[h.1,this]
   .simp at h;rw[h]
   .simp at h;rw[h]
   .rw[aG,aG] at h
    have e1:=bT h.1.2;have e2:=bT h.2;simp at h;rw[h.1.1,e1,e2]
   .simp at h;rw[h]
   .rfl
   .rfl
   .rw[aG,aG] at h
    have e1:=fB.1 (E _ _ h.1.2);have e2:=fB.1 (E _ _ h.2);simp at h;rw[h.1.1,e1,e2]
   .rw[aG] at h
    rw[bT h.1,J _ _ h.2]
   .rw[fB.1 (E _ _ h)]
   .rw[fB.1 (E _ _ h)]
   .cases h
  .unfold D25 at h
   split at h
   .rfl
   .rw[aG] at h
    rw[J _ _ h.1,E _ _ h.2]
   .cases h
theorem B69{n:Nat}(h:veq n a b=true):a=b:=(U71 (a:=a) (b:=b) n).1 a b h
theorem K19:∀{l:List D3}{e:Nat},e ∈ D1 l->e<l.length
 | [],e,h=>by simp[D1] at h
 | r :: l,e,h=>by
  simp only[D1] at h
  split at h
  .rcases aU.1 h with rfl | h
   .simp
   .have:=K19 h;simp;omega
  .have:=K19 h;simp;omega
theorem Q13:∀(l:List D3),X17 l.length (B3 l)
 | []=>trivial
 | r :: l=>by
  have ih:=Q13 l;have up:∀ {m:List (Nat × V3)} {a b:Nat},a<=b->X17 a m->X17 b m:=by
   intro m
   induction m with
   | nil=>intros;trivial
   | cons x m E=>intro a b J h;obtain⟨h1,h2,h3⟩:=h;exact⟨by omega,h2,E J h3⟩
  have low:∀ {m:List (Nat × V3)} {a:Nat},X17 a m->∀ q ∈ m,q.1<a:=by
   intro m
   induction m with
   | nil=>intro a _ q hq;cases hq
   | cons x m E=>
    intro a h q hq;obtain⟨h1,h2,h3⟩:=h;rcases aU.1 hq with rfl | hq
    .exact h1
    .exact E h3 q hq
  simp only[B3]
  split
  .refine⟨by simp,fun q hq => ?_,up (by simp) ih⟩
   have:=low ih q hq;omega
  .exact up (by simp) ih
theorem Z37{P:Program}{ms:List Nat}{N:Nat}{as:List (Nat × V3)}{r:Rd}{H0:Y0}:∀(rc:List D3) (E:List Nat),E22 P ms N as r (D1 rc) (MsR H0 rc) (hR H0 rc) E=true->∀(pre l':List D3),rc=pre++l' ->
  (∀ e,e ∈ D1 rc->e ∉ D1 l'->D2 ms r.i e=false)->(∀ e ∈ E,D2 ms r.i e=false)->(∀ e ∈ D1 l',D2 ms e r.i=false) ->
  M9 P r.r r.T (X8 N (fun j=>D2 ms r.i j && !Y3 ms (D1 l') j) (hR H0 l') as) false (fun v=>veq 64 v r.v)=true
 | rc,E,h,[],l',e,_,h2,h3=>by
  simp at e;subst e;rw[E22.eq_def] at h;rw[aG] at h;have c1:((D1 rc).any (fun e=>D2 ms e r.i) || E.any (fun e=>D2 ms r.i e))=false:=by
   rw[Bool.or_eq_false_iff];refine⟨?_,?_⟩
   .rw[List.any_eq_false];intro x hx;simp[h3 x hx]
   .rw[List.any_eq_false];intro x hx;simp[h2 x hx]
  have:=h.1;rw[c1] at this;simp only[cond_false] at this;rw[Q18] at this;exact this
 | [],E,h,p :: pre,l',e,_,_,_=>by simp at e
 | r0 :: l,E,h,p :: pre,l',e,h1,h2,h3=>by
  simp at e;obtain⟨rfl,rfl⟩:=e
  cases J:r0.inf with
  | e H' nx'=>
   simp only[D1,MsR,hR,J] at h;rw[E22.eq_def] at h;rw[aG] at h;have hb:=h.2;dsimp only at hb;have O:D2 ms r.i (pre++l').length=false:=h1 _ (by simp[D1,J]) (fun hm=>by have:=K19 hm;simp at this;omega);rw[O] at hb;simp only[cond_false] at hb;refine Z37 (pre++l') _ hb pre l' rfl (fun e he hn=>h1 e (by simp[D1,J,he]) hn) ?_ h3;intro e he;rcases aU.1 he with rfl | he
   .exact O
   .exact h2 e he
  | _=>
   simp only[D1,MsR,hR,J] at h;exact Z37 (pre++l') E h pre l' rfl (fun e he hn=>h1 e (by simp[D1,J,he]) hn) h2 h3
def R41(P:Program)(d n:Nat)(ops:List Oper)(N:Nat)(H0:Y0)(rc:List D3):Prop:=
 ∀ r ∈ rsR rc,∀(pre l':List D3),rc=pre++l'->(∀ e,e ∈ D1 rc->e ∉ D1 l'->D2 (U1 ops) r.i e=false)->(∀ e ∈ D1 l',D2 (U1 ops) e r.i=false) ->
  ∀(nx:Nat) (o:Oper),W18 P n o=some (.r r.r)->RV P d n nx o r.T (X8 N (fun j=>D2 (U1 ops) r.i j && !Y3 (U1 ops) (D1 l') j) (hR H0 l') (B3 rc)) r.v
def W34(P:Program)(E:E12 β):Prop:=∀(d n:Nat) (ops:List Oper) (N:Nat) (H0:Y0) (rc:List D3) (y z:β),
 E (U1 ops) N (B3 rc) (rsR rc) (D1 rc) (MsR H0 rc) (hR H0 rc) y z=z \/
 (E (U1 ops) N (B3 rc) (rsR rc) (D1 rc) (MsR H0 rc) (hR H0 rc) y z=y/\R41 P d n ops N H0 rc)
theorem Z67(P:Program):W34 (β:=β) P (D43 P):=by
 intro d n ops N H0 rc y z;unfold D43
 cases O:(rsR rc).all fun r=>E22 P (U1 ops) N (B3 rc) r (D1 rc) (MsR H0 rc) (hR H0 rc) [] with
 | false=>exact .inl rfl
 | true=>
  refine .inr ⟨rfl,fun r hr pre l' J h1 h2 nx o hc => ?_⟩;have E:=Z37 rc [] (bW.1 O r hr) pre l' J h1 (by simp) h2;rcases U34 (P:=P) (d:=d) (n:=n) (nx:=nx) (o:=o) (T:=r.T) (H:=X8 N (fun j=>D2 (U1 ops) r.i j && !Y3 (U1 ops) (D1 l') j) (hR H0 l') (B3 rc)) hc false (fun v=>veq 64 v r.v) with h | ⟨v,h,hrv⟩
  .rw[h] at E;cases E
  .rw[h] at E
   have Q:=B69 E;rw[<- Q];exact hrv
def W9(ops:List Oper)(T0:K0 Value)(D:Nat->Bool):List D3->Nat->Value
 | [],t=>(tg T0 t).getD undef
 | r :: l,t=>if D l.length=true/\(ops[l.length]?).bind (·.dst)=some t then r.v else W9 ops T0 D l t
theorem Y37{ops:List Oper}{T0:K0 Value}{D:Nat->Bool}{t:Nat}:∀ {l:List D3},(∀ j,j<l.length->(ops[j]?).bind (·.dst)=some t->D j=true)->W9 ops T0 D l t=C10 ops T0 l t
 | [],_=>rfl
 | r :: l,h=>by
  simp only[W9,C10]
  by_cases hd:(ops[l.length]?).bind (·.dst)=some t
  .have:=h l.length (by simp) hd
   simp[hd,this]
  .rw[if_neg (fun hc=>hd hc.2),if_neg hd]
   exact Y37 fun j hj=>h j (by simp;omega)
theorem Y39{ops:List Oper}{T0:K0 Value}{D:Nat->Bool}{t:Nat}{l:List D3}:∀ {pre:List D3},(∀ j,l.length<=j->j<(pre++l).length->(ops[j]?).bind (·.dst)=some t->D j=false)->W9 ops T0 D (pre++l) t=W9 ops T0 D l t
 | [],_=>rfl
 | r :: pre,h=>by
  simp only[dL,W9];rw[if_neg]
  .exact Y39 fun j h1 h2 h3=>h j h1 (by simp at h2 ⊢;omega) h3
  .rintro⟨h1,h2⟩
   have:=h (pre++l).length (by simp) (by simp) h2;rw[h1] at this;cases this
theorem Z45{ops:List Oper}{T0:K0 Value}{D D':Nat->Bool}{i:Nat}(hD:∀ j,D' j=if j=i then true else D j){r:D3}{l:List D3}(hl:l.length=i){t:Nat}(E:∀ j,j≠i->(ops[i]?).bind (·.dst)=some t->(ops[j]?).bind (·.dst)≠some t)(O:D i=false):
  ∀ {pre:List D3},W9 ops T0 D' (pre++r :: l) t=if (ops[i]?).bind (·.dst)=some t then r.v else W9 ops T0 D (pre++r :: l) t
 | []=>by
  simp only[eR,W9,hl,O];have h1:D' i=true:=by simp[hD]
  have h2:W9 ops T0 D' l t=W9 ops T0 D l t:=by
   have:∀ m:List D3,m.length<=i->W9 ops T0 D' m t=W9 ops T0 D m t:=by
    intro m
    induction m with
    | nil=>intro _;rfl
    | cons x m ih=>
     intro hm;simp at hm;simp only[W9];have:D' m.length=D m.length:=by rw[hD,if_neg (by omega)]
     rw[this,ih (by omega)]
   exact this l (by omega)
  simp[h1,h2]
 | p :: pre=>by
  have ih:=Z45 hD hl E O (pre:=pre) (T0:=T0) (r:=r);simp only[dL,W9];have J:(pre++r :: l).length≠i:=by simp;omega
  have:D' (pre++r :: l).length=D (pre++r :: l).length:=by rw[hD,if_neg J]
  rw[this,ih]
  by_cases hi:(ops[i]?).bind (·.dst)=some t
  .have:=E _ J hi
   rw[if_pos hi,if_neg (fun hc=>this hc.2),if_pos hi]
  .rw[if_neg hi,if_neg hi]
theorem B11.suf{P:Program}{d n:Nat}{ops:List Oper}{N:Nat}{H0:Y0}{n0:Nat}{T0:K0 Value}:∀ {pre l:List D3},B11 P d n ops N H0 n0 T0 (pre++l)->B11 P d n ops N H0 n0 T0 l
 | [],_,h=>h
 | _ :: _,_,h=>B11.suf h.2
theorem V46:∀{rc:List D3}{i:Nat},i<rc.length->∃ pre r l,rc=pre++r :: l/\l.length=i
 | [],i,h=>by simp at h
 | r :: l,i,h=>by
  by_cases e:l.length=i
  .exact⟨[],r,l,rfl,e⟩
  .obtain⟨pre,r',l',h1,h2⟩:=V46 (rc:=l) (i:=i) (by simp at h;omega)
   exact⟨r :: pre,r',l',by rw[h1];rfl,h2⟩
end
section
variable {b:V3} {i t:Nat} {l pre pre0:List D3} {o:Oper} {r:D3}
theorem G17{E l':List D3}{r':D3}(h:pre++r :: l=E++r' :: l')(hl:l.length=l'.length):r=r'/\l=l':=by
 have h2:(r :: l)=(r' :: l'):=by
  have:=congrArg (fun x=>x.drop (pre.length)) h;have hp:pre.length=E.length:=by have:=congrArg List.length h;simp at this;omega
  simp at this;rw[hp] at this;simpa using this
 cases h2;exact⟨rfl,rfl⟩
theorem E18:∀{rc:List D3}{j:Nat}{b:V3},(j,b) ∈ B3 rc->∃ pre r l,rc=pre++r :: l/\l.length=j/\r.inf = .a b
 | [],j,b,h=>by simp[B3] at h
 | r :: l,j,b,h=>by
  have E:(j,b) ∈ B3 l->∃ pre r' l',r :: l=pre++r' :: l'/\l'.length=j/\r'.inf = .a b:=by
   intro h;obtain⟨pre,r',l',h1,h2,h3⟩:=E18 h;exact⟨r :: pre,r',l',by rw[h1];rfl,h2,h3⟩
  simp only[B3] at h
  split at h
  .rename_i b' hb
   rcases aU.1 h with e | h
   .cases e;exact⟨[],r,l,rfl,rfl,hb⟩
   .exact E h
  .exact E h
theorem U64{pre:List D3}{r:D3}(h:r.inf = .a b):(l.length,b) ∈ B3 (pre++r :: l):=by
 induction pre with
 | nil=>simp[B3,h]
 | cons x pre ih=>
  simp only[dL,B3]
  split
  .exact eJ _ ih
  .exact ih
theorem V66{j:Nat}(h:(j,b) ∈ B3 (pre++l))(hj:j<l.length):(j,b) ∈ B3 l:=by
 induction pre with
 | nil=>exact h
 | cons x pre ih=>
  simp only[dL,B3] at h
  split at h
  .rcases aU.1 h with e | h
   .cases e;simp at hj;omega
   .exact ih h
  .exact ih h
theorem X69{q:Nat × V3}(h:q ∈ B3 l):q ∈ B3 (pre++l):=by
 induction pre with
 | nil=>exact h
 | cons x pre ih=>
  simp only[dL,B3]
  split
  .exact eJ _ ih
  .exact ih
theorem Y28:∀{rc:List D3}{e:Nat},e ∈ D1 rc->∃ pre r l H nx,rc=pre++r :: l/\l.length=e/\r.inf = .e H nx
 | [],e,h=>by simp[D1] at h
 | r :: l,e,h=>by
  have E:e ∈ D1 l->∃ pre r' l' H nx,r :: l=pre++r' :: l'/\l'.length=e/\r'.inf = .e H nx:=by
   intro h;obtain⟨pre,r',l',H,nx,h1,h2,h3⟩:=Y28 h;exact⟨r :: pre,r',l',H,nx,by rw[h1];rfl,h2,h3⟩
  simp only[D1] at h
  split at h
  .rename_i H nx hb
   rcases aU.1 h with rfl | h
   .exact⟨[],r,l,H,nx,rfl,rfl,hb⟩
   .exact E h
  .exact E h
theorem N47{q:Nat}(h:q ∈ D1 l):q ∈ D1 (pre++l):=by
 induction pre with
 | nil=>exact h
 | cons x pre ih=>
  simp only[dL,D1]
  split
  .exact eJ _ ih
  .exact ih
theorem X66{e:Nat}(h:e ∈ D1 (pre++l))(hj:e<l.length):e ∈ D1 l:=by
 induction pre with
 | nil=>exact h
 | cons x pre ih=>
  simp only[dL,D1] at h
  split at h
  .rcases aU.1 h with e | h
   .subst e;simp at hj;omega
   .exact ih h
  .exact ih h
theorem N17{H0:Y0}{n0:Nat}:∀ {E l:List D3},(∀ e ∈ D1 (E++l),e<l.length)->D1 (E++l)=D1 l/\hR H0 (E++l)=hR H0 l/\nR n0 (E++l)=nR n0 l
 | [],l,_=>⟨rfl,rfl,rfl⟩
 | r :: E,l,h=>by
  cases J:r.inf with
  | e H' nx'=>
   have:=h (E++l).length (by simp[D1,J]);simp at this;omega
  | _=>
   have h':∀ e ∈ D1 (E++l),e<l.length:=fun e he=>h e (by simp[D1,J,he])
   obtain⟨h1,h2,h3⟩:=N17 (H0:=H0) (n0:=n0) h';simp[D1,hR,nR,J,h1,h2,h3]
theorem X18{N:Nat}{p p':Nat->Bool}{q:Nat}:∀ {l:List (Nat × V3)},(∀ x ∈ l,N+x.1=q->p x.1=p' x.1)->J5 N p q l=J5 N p' q l
 | [],_=>rfl
 | (j,b) :: l,h=>by
  simp only[J5];have ih:=X18 (p:=p) (p':=p') (q:=q) (l:=l) fun x hx=>h x (by simp[hx])
  rw[ih]
  by_cases e:N+j=q
  .have:=h (j,b) (by simp) e
   simp only at this;rw[this]
  .rw[if_neg (fun hc=>e hc.1),if_neg (fun hc=>e hc.1)]
structure Inv (n:Nat) (ops:List Oper) (N:Nat) (H0:Y0) (T0:K0 Value) (rc:List D3) (F0:FM) (w0:World) (ds:List Deferred) (D:Nat->Bool) (a:Act) (w:World) (F:FM) (X:Y0) (l':List D3):Prop where
 suf:∃ pre,rc=pre++l'
 done:∀ e ∈ D1 l',D e=true
 todo:∀ e ∈ D1 rc,e ∉ D1 l'->D e=false
 size:a.tmps.size=n
 slots:∀ t,t<n->VR F (W9 ops T0 D rc t) (a.tmps.getD t undef)
 heap:∀ q,J0 X q=(J5 N (fun j=>D j && !Y3 (U1 ops) (D1 l') j) q (B3 rc)).or (J0 (hR H0 l') q)
 free:∀ j,j<ops.length->Y3 (U1 ops) (D1 l') j=false->J0 (hR H0 l') (N+j)=none
 stp:N2 F0 H0 N w0 F X (nR (N+ops.length) l') w
 res:∀ j,j<ops.length->D j=false->F (N+j)=none
 nx:N+ops.length<=nR (N+ops.length) l'
 defers:a.defers=ds
section
variable {P:Program} {d n:Nat} {ops:List Oper} {N:Nat} {H0:Y0} {T0:K0 Value} {rc:List D3} {F0:FM} {w0:World} {ds:List Deferred} {D:Nat->Bool} {a:Act} {w:World} {F:FM} {X:Y0} {l':List D3}
theorem Inv.sees(hI:Inv n ops N H0 T0 rc F0 w0 ds D a w F X l')(J:rc.length=ops.length)(hp:∀ j,D2 (U1 ops) i j=true->D j=true){as:List (Nat × V3)}{L:Nat}(hL:L<=ops.length)(hk:X17 L as)(has:∀ q ∈ as,q ∈ B3 rc):
  ∀ q b,J0 (X8 N (fun j=>D2 (U1 ops) i j && !Y3 (U1 ops) (D1 l') j) (hR H0 l') as) q=some b->J0 X q=some b:=by
 intro q b hg;rw[Y10 (L:=L) hk q] at hg;rw[hI.heap q];have Q:X17 ops.length (B3 rc):=by rw[<- J];exact Q13 rc
 cases O:J5 N (fun j=>D2 (U1 ops) i j && !Y3 (U1 ops) (D1 l') j) q as with
 | some b'=>
  rw[O] at hg;simp at hg;subst hg;obtain⟨j,hm,rfl,E⟩:=W11 O;rw[aG] at E;rw[N15 Q (has _ hm) (by rw[hp j E.1,E.2];rfl)]
  rfl
 | none=>
  rw[O] at hg;simp at hg
  cases U:J5 N (fun j=>D j && !Y3 (U1 ops) (D1 l') j) q (B3 rc) with
  | none=>simpa using hg
  | some b'=>
   exfalso;obtain⟨j,hm,rfl,E⟩:=W11 U;rw[aG] at E;have hj:j<ops.length:=by
    obtain⟨pre,r,l,h1,h2,_⟩:=E18 hm;rw[<- J,h1];simp;omega
   rw[hI.free j hj (by simpa using E.2)] at hg
   cases hg
theorem W60{ops:List Oper}(h:Operand.tmp t ∈ o.op.operands):t ∈ J17 ops o:=by
 unfold J17;apply dX;rw[List.mem_filterMap];exact⟨.tmp t,by simpa using h,rfl⟩
theorem Inv.look{o:Oper}{i:Nat}(J:∀ i o,ops[i]? = some o->R12 ops i o)(V:rc=pre0++r :: l)(hl:l.length=i)(a1:rc.length=ops.length)(ho:ops[i]? = some o)
  (O:D i=false)(hp:∀ j,D2 (U1 ops) i j=true->D j=true)(W:∀ i j,D i=true->D2 (U1 ops) i j=true->D j=true)(ht:t ∈ J17 ops o):W9 ops T0 D rc t=C10 ops T0 l t:=by
 have Q:=J i o ho;have key:∀ j,j≠i->(ops[j]?).bind (·.dst)=some t->D2 (U1 ops) i j=true\/D2 (U1 ops) j i=true:=by
  intro j hj hd
  cases E:ops[j]? with
  | none=>rw[E] at hd;cases hd
  | some oj=>
   rw[E] at hd;exact(Q.one j oj t E (by simpa using hd) (eT hj)).2 ht
 have U:(ops[i]?).bind (·.dst)≠some t:=by
  rw[ho];intro h;exact Q.self t (by simpa using h) ht
 rw[V,Y39 (l:=r :: l)]
 .simp only[W9]
  rw[if_neg (by rw[hl,O];rintro⟨h,_⟩;cases h)];apply Y37;intro j hj hd;rcases key j (by omega) hd with h | h
  .exact hp j h
  .have:=V36 J _ _ h;omega
 .intro j h1 h2 hd
  have a0:j≠i:=by simp at h1;omega
  rcases key j a0 hd with h | h
  .have:=V36 J _ _ h
   simp at h1;omega
  .cases Z:D j with
   | false=>rfl
   | true=>have:=W j i Z h;rw[O] at this;cases this
theorem Inv.or{o:Oper}{s:S}{i n0:Nat}(hI:Inv n ops N H0 T0 rc F0 w0 ds D a w F X l')(a1:∀ i o,ops[i]? = some o->R12 ops i o)(a0:rc=pre0++r :: l)(hl:l.length=i)(U:rc.length=ops.length)
  (hf:M63 P d n ops N H0 n0 T0 r l o s)(W:D i=false)(hp:∀ j,D2 (U1 ops) i j=true->D j=true)(a2:∀ i j,D i=true->D2 (U1 ops) i j=true->D j=true):OR n o F r.T a/\GR s.guard F r.T a:=by
 have ho:ops[i]? = some o:=by rw[<- hl];exact hf.ho
 have O:∀ t,t<n->t ∈ J17 ops o->VR F ((tg r.T t).getD undef) (a.tmps.getD t undef):=by
  intro t J ht;rw[hf.hT t J,<- Inv.look (T0:=T0) a1 a0 hl U ho W hp a2 ht];exact hI.slots t J
 refine⟨?_,?_⟩
 .intro x hx y hc
  cases x with
  | tmp t=>
   simp only[W13] at hc
   cases hb:dE t n with
   | false=>rw[hb] at hc;cases hc
   | true=>
    rw[hb] at hc;cases hc;rw[E53];exact O t (by simpa using hb) (W60 hx)
  | const v=>
   simp only[W13] at hc
   cases hb:X7 v with
   | false=>rw[hb] at hc;cases hc
   | true=>rw[hb] at hc;cases hc;exact C6 F v hb
  | global g=>simp[W13] at hc
  | func f=>
   simp[W13] at hc;subst hc;exact .func _ rfl (by simp) rfl (by simp)
 .intro t a3 hg
  obtain⟨E,_,_,_⟩:=M16 hf.hs;rw[hg] at E
  cases Q:o.guard with
  | none=>rw[Q] at E;simp[W16] at E
  | some jw=>
   obtain⟨j,a4⟩:=jw;rw[Q] at E;simp only[W16] at E
   split at E
   .rename_i oj Z
    split at E
    .rename_i t' V
     cases hb:dE t' n with
     | false=>rw[hb] at E;cases E
     | true=>
      rw[hb] at E;cases E;have J:t<n:=by simpa using hb
      refine⟨by rw[hI.size];exact J,O t J ?_⟩;unfold J17;apply List.mem_append_right;rw[Q];simp[Z,V]
    .cases E
   .cases E
theorem Inv.put{l:List D3}{r:D3}{pre0:List D3}{o:Oper}{i:Nat}{D':Nat->Bool}(hI:Inv n ops N H0 T0 rc F0 w0 ds D a w F X l')(Q:∀ i o,ops[i]? = some o->R12 ops i o)(J:rc=pre0++r :: l)(hl:l.length=i)(ho:ops[i]? = some o)
  (O:D i=false)(hD:∀ j,D' j=if j=i then true else D j){F':FM}(hF:F.le F'){v':Value}(hv:VR F' r.v v'):(a.put o.dst v').tmps.size=n/\∀ t,t<n->VR F' (W9 ops T0 D' rc t) ((a.put o.dst v').tmps.getD t undef):=by
 have U:=Q i o ho;refine⟨by cases hd:o.dst<;>simp[Act.put,hI.size],fun t ht => ?_⟩;rw[J,Z45 hD hl (by
  intro j hj h1 h2;rw[ho] at h1
  cases E:ops[j]? with
  | none=>rw[E] at h2;cases h2
  | some oj=>
   rw[E] at h2;exact(U.one j oj t E (by simpa using h2) (eT hj)).1 (by simpa using h1)) O,<- J]
 rw[ho];simp only[Option.bind_some]
 by_cases hd:o.dst=some t
 .rw[if_pos hd,hd]
  have:(a.put (some t) v').tmps.getD t undef=v':=by simp[Act.put,hI.size,ht]
  rw[this];exact hv
 .rw[if_neg hd]
  have:(a.put o.dst v').tmps.getD t undef=a.tmps.getD t undef:=by
   cases hq:o.dst with
   | none=>rfl
   | some q=>
    have:q≠t:=fun e=>hd (by rw[hq,e])
    simp[Act.put,Array.getElem?_setIfInBounds_ne this]
  rw[this];exact(hI.slots t ht).mono hF
end
end
section
variable {P:Program} {d n:Nat} {ops:List Oper} {N:Nat} {H0:Y0} {T0:K0 Value} {rc:List D3} {F0:FM} {w0:World} {ds:List Deferred} {D D':Nat->Bool} {a:Act} {w:World} {F:FM} {X:Y0} {l':List D3}
theorem Inv.quiet{l:List D3}{r:D3}{O:List D3}{o:Oper}{i:Nat}(hI:Inv n ops N H0 T0 rc F0 w0 ds D a w F X l')(Z:∀ i o,ops[i]? = some o->R12 ops i o)(E:rc=O++r :: l)(hl:l.length=i)(ho:ops[i]? = some o)
  (U:D i=false)(hD:∀ j,D' j=if j=i then true else D j)(W:∀ b,r.inf ≠ .a b)(V:∀ H nx,r.inf ≠ .e H nx){v':Value}(hv:VR F r.v v'):
  Inv n ops N H0 T0 rc F0 w0 ds D' (a.put o.dst v') w F X l':=by
 obtain⟨h1,h2⟩:=hI.put (D':=D') Z E hl ho U hD (fun _ _ h=>h) hv;have J:∀ q ∈ B3 rc,q.1≠i:=by
  rintro⟨j,b⟩ hq e;obtain⟨pre,r',l2,g1,g2,g3⟩:=E18 hq;obtain⟨e1,_⟩:=G17 (E.symm.trans g1) (by simp at e;omega);rw[<- e1] at g3;exact W b g3
 have Q:∀ e ∈ D1 rc,e≠i:=by
  intro e he hh;obtain⟨pre,r',l2,H,nx,g1,g2,g3⟩:=Y28 he;obtain⟨e1,_⟩:=G17 (E.symm.trans g1) (by omega);rw[<- e1] at g3;exact V H nx g3
 have up:∀ j,D j=true->D' j=true:=fun j h=>by rw[hD];split<;>simp[h]
 refine⟨hI.suf,fun e he=>up e (hI.done e he),fun e he hn => ?_,h1,h2,fun q => ?_,hI.free,hI.stp,fun j hj hd => ?_,hI.nx,(D8 a _ _).trans hI.defers⟩
 .rw[hD,if_neg (Q e he)];exact hI.todo e he hn
 .rw[hI.heap q]
  congr 1;apply X18;intro x hx _;simp only[hD,if_neg (J x hx)]
 .refine hI.res j hj ?_
  rw[hD] at hd
  split at hd
  .cases hd
  .exact hd
theorem D21(ms:List Nat)(i:Nat)(es:List Nat)(j:Nat):Y3 ms (i :: es) j=(D2 ms i j || Y3 ms es j):=by simp[Y3]
theorem Y63(a5:∀ i o,ops[i]? = some o->R12 ops i o)(V:rc.length=ops.length)(ac:B11 P d n ops N H0 (N+ops.length) T0 rc)
  (bt:R41 P d n ops N H0 rc)
  (hI:Inv n ops N H0 T0 rc F0 w0 ds D a w F X l'){i:Nat}(hi:i<ops.length)(U:D i=false)(hp:∀ j,D2 (U1 ops) i j=true->D j=true)(ah:∀ i j,D i=true->D2 (U1 ops) i j=true->D j=true)(hD:∀ j,D' j=if j=i then true else D j)
  {K:Act->World->Prop}{Q:Exit->Act->World->Prop}(hK:∀ a' w' F' X' co,Inv n ops N H0 T0 rc F0 w0 ds D' a' w' F' X' co->K a' w'):wpOp P ops.toArray Q i K a w:=by
 obtain⟨J,r,l,O,hl⟩:=V46 (rc:=rc) (i:=i) (by omega);have aq:B11 P d n ops N H0 (N+ops.length) T0 (r :: l):=B11.suf (pre:=J) (O ▸ ac);obtain⟨⟨o,s,hf⟩,_⟩:=aq;have ho:ops[i]? = some o:=by rw[<- hl];exact hf.ho
 obtain⟨ab,a6⟩:=hI.or (P:=P) (d:=d) a5 O hl V hf U hp ah;unfold wpOp;have cc:ops.toArray[i]? = some o:=by simpa using ho
 simp only[cc];have hw:=hf.what
 cases E:r.inf with
 | u=>
  rw[E] at hw;obtain⟨hv,cj⟩:=hw;rw[if_neg (by simp[cj F a a6])];exact hK _ _ F X l' (hI.quiet a5 O hl ho U hD (by simp[E]) (by simp[E]) (by rw[hv];exact VR.undef F))
 | p=>
  rw[E] at hw;obtain⟨W,c9⟩:=hw;rw[if_pos (W F a a6)];obtain⟨v',a0,hv⟩:=c9 F a w ab;exact .inl (V25 a0 (hK _ _ F X l' (hI.quiet a5 O hl ho U hD (by simp[E]) (by simp[E]) hv)))
 | r ir=>
  rw[E] at hw;obtain⟨W,c6⟩:=hw;rw[if_pos (W F a a6)];obtain⟨_,_,_,bu⟩:=M16 hf.hs;rw[c6] at bu;obtain⟨pre,a1⟩:=hI.suf;have a8:(⟨i,ir,r.T,r.v⟩:Rd) ∈ rsR rc:=by
   rw[O];clear hI ac bt a1 hf ab a6 hK O
   induction J with
   | nil=>simp[rsR,E,hl]
   | cons x J ih=>
    simp only[dL,rsR]
    split
    .exact eJ _ ih
    .exact ih
  have au:=bt _ a8 pre l' a1 (fun e he hn=>by
   cases hb:D2 (U1 ops) i e with
   | false=>rfl
   | true=>have:=hp e hb;rw[hI.todo e he hn] at this;cases this) (fun e he=>by
   cases hb:D2 (U1 ops) e i with
   | false=>rfl
   | true=>have:=ah e i (hI.done e he) hb;rw[U] at this;cases this)
  have ax:=au (nR (N+ops.length) l') o bu;dsimp only at ax;have bx:=hI.sees V hp (aD _) (by rw[<- V];exact Q13 rc) (fun q hq=>hq);have ca:HB F (X8 N (fun j=>D2 (U1 ops) i j && !Y3 (U1 ops) (D1 l') j) (hR H0 l') (B3 rc)) (nR (N+ops.length) l') w:=
   ⟨fun q b hq hg=>hI.stp.hr.blk q b hq (bx q b hg),hI.stp.hr.fresh⟩
  obtain⟨v',a0,hv⟩:=ax F a w ab ca;exact .inl (V25 a0 (hK _ _ F X l' (hI.quiet a5 O hl ho U hD (by simp[E]) (by simp[E]) hv)))
 | a b=>
  rw[E] at hw;obtain⟨W,y,ci,aw⟩:=hw;rw[if_pos (W F a a6)];obtain⟨cu,a0,bz⟩:=ci F a w ab;have bv:F (N+i)=none:=hI.res i hi U;have ck:N+i<nR (N+ops.length) l':=by have:=hI.nx;omega
  obtain⟨t,e1,e2,a3⟩:=hI.stp.addAt ck (by omega) bv bz;have ao:=M19 bv t;have hv:VR (upd F (N+i) t) r.v (y.real w.heap.size):=by
   rw[aw,hl,<- e1];exact Q0.vr (Y6 F (N+i) t) e2 y
  obtain⟨h1,h2⟩:=hI.put (D':=D') a5 O hl ho U hD ao hv;have a8:(i,b) ∈ B3 rc:=by rw[O,<- hl];exact U64 E
  have cq:Y3 (U1 ops) (D1 l') i=false:=by
   cases hm:Y3 (U1 ops) (D1 l') i with
   | false=>rfl
   | true=>
    unfold Y3 at hm;rw[dY] at hm;obtain⟨e,he,hb⟩:=hm;have:=ah e i (hI.done e he) hb;rw[U] at this;cases this
  have a9:X17 ops.length (B3 rc):=by rw[<- V];exact Q13 rc
  have b4:∀ e ∈ D1 rc,e≠i:=by
   intro e he hh;obtain⟨pre,r',l2,H,nx,g1,g2,g3⟩:=Y28 he;obtain⟨e1,_⟩:=G17 (O.symm.trans g1) (by omega);rw[<- e1,E] at g3
   cases g3
  refine .inl (V25 a0 (hK _ _ (upd F (N+i) t) (hs X (N+i) (some b)) l' ?_));refine⟨hI.suf,fun e he=>by rw[hD];split<;>simp[hI.done e he],fun e he hn=>by rw[hD,if_neg (b4 e he)];exact hI.todo e he hn,h1,h2,fun q => ?_,hI.free,a3,fun j hj hd => ?_,hI.nx,(D8 a _ _).trans hI.defers⟩
  .rw[N7]
   by_cases e:q=N+i
   .subst e
    rw[if_pos rfl,N15 a9 a8 (by rw[hD,if_pos rfl,cq];rfl)]
    rfl
   .rw[if_neg e,hI.heap q]
    congr 1;apply X18;intro x _ hx;have:x.1≠i:=fun h=>e (by omega)
    simp only[hD,if_neg this]
  .rw[hD] at hd
   split at hd
   .cases hd
   .rename_i ai
    rw[M5 F t (by omega)];exact hI.res j hj hd
 | e H' nx'=>
  rw[E] at hw;obtain⟨W,bk,Z⟩:=hw;rw[if_pos (W F a a6)];obtain⟨pre,a1⟩:=hI.suf;have bc:D1 l'=D1 l/\hR H0 l'=hR H0 l/\nR (N+ops.length) l'=nR (N+ops.length) l:=by
   have cp:∀ e ∈ D1 l,e ∈ D1 l':=by
    intro e he;have ag:e ∈ D1 rc:=by rw[O];exact N47 (pre:=J) (by simp only[D1,E];exact eJ _ he)
    cases Classical.em (e ∈ D1 l') with
    | inl h=>exact h
    | inr h=>
     have h1:=hI.todo e ag h;rw[hl] at Z;have h2:=hp e (Z e he);rw[h1] at h2;cases h2
   have c3:∀ e ∈ D1 l',e<l.length:=by
    intro e he;have an:=hI.done e he;rcases Nat.lt_trichotomy e l.length with h | h | h
    .exact h
    .rw[h,hl,U] at an;cases an
    .exfalso
     have ag:e ∈ D1 rc:=by rw[a1];exact N47 he
     obtain⟨al,r2,l2,H2,nx2,g1,g2,g3⟩:=Y28 ag;have ap:B11 P d n ops N H0 (N+ops.length) T0 (r2 :: l2):=B11.suf (pre:=al) (g1 ▸ ac);obtain⟨⟨o2,s2,cn⟩,_⟩:=ap;have ba:=cn.what;rw[g3] at ba;have cg:i ∈ D1 l2:=by
      have h1:i ∈ D1 (al++r2 :: l2):=by rw[<- g1,O];exact N47 (pre:=J) (by simp only[D1,E,hl];simp)
      have h2:i ∈ D1 (r2 :: l2):=X66 h1 (by simp;omega);simp only[D1,g3] at h2;rcases aU.1 h2 with h2 | h2
      .omega
      .exact h2
     have hb:=ba.2.2 i cg;rw[g2] at hb;have:=ah e i an hb;rw[U] at this;cases this
   have c8:(∃ a7,l'=a7++l)\/(∃ a7,l=a7++l'):=by
    have ay:pre++l'=(J++[r])++l:=by rw[<- a1,O];simp
    rcases List.append_eq_append_iff.1 ay with ⟨m,h1,h2⟩ | ⟨m,h1,h2⟩
    .exact .inl ⟨m,h2⟩
    .exact .inr ⟨m,h2⟩
   rcases c8 with ⟨a7,rfl⟩ | ⟨a7,hm⟩
   .exact N17 c3
   .have h3:∀ e ∈ D1 (a7++l'),e<l'.length:=by
     intro e he;rw[<- hm] at he;exact K19 (cp e he)
    obtain⟨g1,g2,g3⟩:=N17 (H0:=H0) (n0:=N+ops.length) h3;rw[<- hm] at g1 g2 g3;exact⟨g1.symm,g2.symm,g3.symm⟩
  obtain⟨s1,s2,s3⟩:=bc;rw[hl] at bk Z;have a9:X17 ops.length (B3 rc):=by rw[<- V];exact Q13 rc
  have ae:X17 i (B3 l):=by rw[<- hl];exact Q13 l
  have bw:∀ q ∈ B3 l,q ∈ B3 rc:=by
   intro q hq;rw[O,show J++r :: l=(J++[r])++l by simp];exact X69 hq
  have a4:=hI.sees V hp (L:=i) (by omega) ae bw;rw[s1,s2] at a4;have bd:HR F (X8 N (fun j=>D2 (U1 ops) i j && !Y3 (U1 ops) (D1 l) j) (hR H0 l) (B3 l)) (nR (N+ops.length) l) w:=by
   rw[<- s3];exact hI.stp.hr.sub (fun q b hg=>a4 q b hg)
  refine .inl (bk F a w K Q ab bd fun v' F' w' hv a3 => ?_);have ao:=a3.fle bd;obtain⟨h1,h2⟩:=hI.put (D':=D') a5 O hl ho U hD ao hv;have ad:D1 (r :: l)=i :: D1 l:=by simp only[D1,E,hl]
  have bf:hR H0 (r :: l)=H':=by simp only[hR,E]
  have bg:nR (N+ops.length) (r :: l)=nx':=by simp only[nR,E]
  have aj:∀ q ∈ B3 rc,q.1≠i:=by
   rintro⟨j,b⟩ hq e;obtain⟨b8,r',l2,g1,g2,g3⟩:=E18 hq;obtain⟨e1,_⟩:=G17 (O.symm.trans g1) (by simp at e;omega);rw[<- e1,E] at g3
   cases g3
  have bo:N+ops.length<=nR (N+ops.length) l:=by rw[<- s3];exact hI.nx
  have Q20:∀ j,j<ops.length->D2 (U1 ops) i j=false->Y3 (U1 ops) (D1 l) j=false ->
    J0 (X8 N (fun j=>D2 (U1 ops) i j && !Y3 (U1 ops) (D1 l) j) (hR H0 l) (B3 l)) (N+j)=none:=by
   intro j hj hb hm;rw[Y10 (L:=i) ae _];have e1:J0 (hR H0 l) (N+j)=none:=by rw[<- s2];exact hI.free j hj (by rw[s1];exact hm)
   rw[e1]
   cases aa:J5 N (fun j=>D2 (U1 ops) i j && !Y3 (U1 ops) (D1 l) j) (N+j) (B3 l) with
   | none=>rfl
   | some b=>
    obtain⟨j',_,h3,h4⟩:=W11 aa;have:j'=j:=by omega
    subst this;rw[hb] at h4;cases h4
  have az:∀ q,J0 (X8 N (fun j=>D' j && !Y3 (U1 ops) (D1 (r :: l)) j) H' (B3 rc)) q=(J5 N (fun j=>D' j && !Y3 (U1 ops) (D1 (r :: l)) j) q (B3 rc)).or (J0 H' q):=
   fun q=>Y10 (L:=ops.length) a9 q
  have b5:=N2.beside (X':=X8 N (fun j=>D' j && !Y3 (U1 ops) (D1 (r :: l)) j) H' (B3 rc)) (s3 ▸ hI.stp.hr) (fun q b hq hg=>a4 q b hg) a3 (by
   intro q;rw[az q]
   cases aa:J5 N (fun j=>D' j && !Y3 (U1 ops) (D1 (r :: l)) j) q (B3 rc) with
   | some b=>
    obtain⟨j,hm,rfl,a2⟩:=W11 aa;rw[aG,ad,D21] at a2;have ai:j≠i:=aj _ hm;have hj:j<ops.length:=by
     obtain⟨b8,r3,l3,g1,g2,_⟩:=E18 hm;rw[<- V,g1];simp;omega
    have cf:D j=true:=by have:=a2.1;rw[hD,if_neg ai] at this;exact this
    have av:D2 (U1 ops) i j=false/\Y3 (U1 ops) (D1 l) j=false:=by
     have:=a2.2;simp at this;exact this
    have b3:J0 X (N+j)=some b:=by
     rw[hI.heap _,N15 a9 hm (by rw[cf,s1,av.2];rfl)];rfl
    rw[if_pos ⟨by omega,Q20 j hj av.1 av.2,by rw[b3];rfl⟩,b3]
    rfl
   | none=>
    rw[if_neg]
    .rfl
    .rintro⟨g1,g2,g3⟩
     rw[hI.heap q] at g3
     cases bh:J5 N (fun j=>D j && !Y3 (U1 ops) (D1 l') j) q (B3 rc) with
     | some b=>
      obtain⟨j,hm,rfl,a2⟩:=W11 bh;rw[aG,s1] at a2;have ai:j≠i:=aj _ hm;have ak:D2 (U1 ops) i j=true:=by
       cases hb:D2 (U1 ops) i j with
       | true=>rfl
       | false=>
        exfalso;have c4:Y3 (U1 ops) (D1 l) j=false:=by simpa using a2.2
        rw[N15 a9 hm (by rw[hD,if_neg ai,a2.1,ad,D21,hb,c4];rfl)] at aa
        cases aa
      have ct:=V36 a5 _ _ ak;have ce:(j,b) ∈ B3 l:=by
       refine V66 (pre:=J++[r]) ?_ (by omega);rw[show(J++[r])++l=J++r :: l by simp,<- O];exact hm
      rw[Y10 (L:=i) ae _,N15 ae ce (by rw[ak];exact a2.2)] at g2
      cases g2
     | none=>
      rw[bh] at g3;rw[Y10 (L:=i) ae _] at g2;rw[s2] at g3
      cases hg:J0 (hR H0 l) q with
      | none=>rw[hg] at g3;simp at g3
      | some b=>
       rw[hg] at g2
       cases cd:J5 N (fun j=>D2 (U1 ops) i j && !Y3 (U1 ops) (D1 l) j) q (B3 l)<;>rw[cd] at g2<;>cases g2)
  refine hK _ _ F' _ (r :: l) ⟨⟨J,O⟩,?_,?_,h1,h2,fun q=>by rw[az q,bf],?_,?_,?_,?_,(D8 a _ _).trans hI.defers⟩
  .intro e he
   rw[ad] at he;rcases aU.1 he with rfl | he
   .rw[hD,if_pos rfl]
   .rw[hD];split
    .rfl
    .exact hI.done e (by rw[s1];exact he)
  .intro e he hn
   rw[ad] at hn;have c7:e≠i:=fun h=>hn (by simp[h])
   rw[hD,if_neg c7];exact hI.todo e he (by rw[s1];exact fun h=>hn (eJ _ h))
  .intro j hj hm
   rw[ad,D21] at hm;rw[Bool.or_eq_false_iff] at hm;rw[bf];exact a3.keep _ (by omega) (Q20 j hj hm.1 hm.2)
  .rw[bg]
   exact hI.stp.trans (s3 ▸ b5)
  .intro j hj hd
   rw[hD] at hd
   split at hd
   .cases hd
   .rw[a3.ext _ (by omega)];exact hI.res j hj hd
  .rw[bg];exact bK bo a3.le
end
section
variable {H:Y0} {P:Program} {nx:Nat} {ops:List Oper}
theorem N2.reserve{F:FM}{H:Y0}{nx:Nat}{w:World}(h:HR F H nx w){nx2:Nat}(h1:nx<=nx2):N2 F H nx w F H nx2 w:=by
 refine⟨h1,fun _ _=>rfl,rfl,rfl,rfl,aD _,fun _ _ _=>rfl,?_,fun _ _ h=>h,fun i b hg _=>⟨h.low hg,hg⟩,h.reserve h1⟩;rintro b ⟨i,k,t,hi,hg,E,hF,e⟩;exact .inl ⟨i,k,t,h.low hg,hg,E,hF,e⟩
theorem N2.congr{F:FM}{w:World}{F':FM}{X X2:Y0}{nx':Nat}{w':World}(h:N2 F H nx w F' X nx' w')(he:∀ q,J0 X2 q=J0 X q):N2 F H nx w F' X2 nx' w':=by
 have E:∀ b,Own F' X2 nx' b->Own F' X nx' b:=by
  rintro b ⟨i,k,t,hi,hg,O,hF,e⟩;exact⟨i,k,t,hi,by rw[<- he i];exact hg,O,hF,e⟩
 refine⟨h.le,h.ext,h.os,h.tape,h.output,h.size,h.frame,fun b hb=>h.own b (E b hb),fun i hi hn => ?_,fun i b hg J=>h.rom i b (by rw[<- he i];exact hg) J,h.hr.sub (fun i b hg=>by rw[<- he i];exact hg)⟩;rw[he i];exact h.keep i hi hn
def cnt:Nat->(Nat->Bool)->Nat
 | 0,_=>0
 | k+1,D=>cnt k D+(if D k then 0 else 1)
theorem M40{D D':Nat->Bool}:∀ {k:Nat},(∀ j,j<k->D j=D' j)->cnt k D=cnt k D'
 | 0,_=>rfl
 | k+1,h=>by simp only[cnt];rw[M40 fun j hj=>h j (by omega),h k (by omega)]
theorem G22{D D':Nat->Bool}{i:Nat}(hD:∀ j,D' j=if j=i then true else D j)(hi:D i=false):∀ {k:Nat},i<k->cnt k D'+1=cnt k D
 | 0,h=>by omega
 | k+1,h=>by
  simp only[cnt]
  by_cases e:i=k
  .subst e
   have:D' i=true:=by rw[hD,if_pos rfl]
   rw[this,hi,M40 (D:=D') (D':=D) fun j hj=>by rw[hD,if_neg (by omega)]];simp
  .have:=G22 hD hi (k:=k) (by omega)
   have e2:D' k=D k:=by rw[hD,if_neg (fun h=>e h.symm)]
   rw[e2];omega
theorem Z46{D:Nat->Bool}:∀ {k:Nat},cnt k D=0->∀ i,i<k->D i=true
 | 0,_,i,hi=>by omega
 | k+1,h,i,hi=>by
  simp only[cnt] at h
  by_cases e:i=k
  .subst e
   cases hd:D i with
   | true=>rfl
   | false=>rw[hd] at h;simp at h
  .exact Z46 (k:=k) (by omega) i (by omega)
theorem V50{D:Nat->Bool}(h:∀ i,D i=false):∀ k,cnt k D=k
 | 0=>rfl
 | k+1=>by simp[cnt,V50 h k,h k]
section
variable {P:Program} {d n:Nat} {ops:List Oper} {N:Nat} {H0:Y0} {T0:K0 Value} {rc:List D3} {F0:FM} {w0:World} {ds:List Deferred}
theorem Y51(J:∀ i o,ops[i]? = some o->R12 ops i o)(V:rc.length=ops.length)(U:B11 P d n ops N H0 (N+ops.length) T0 rc)
  (a0:R41 P d n ops N H0 rc){Q:Exit->Act->World->Prop}
  (hQ:∀(D:Nat->Bool) a w F X l',(∀ i,i<ops.length->D i=true)->Inv n ops N H0 T0 rc F0 w0 ds D a w F X l'->Q .normal a w):
  ∀(E:Nat) (listed:Array Bool) (a:Act) (w:World) (F:FM) (X:Y0) (l':List D3),listed.size=ops.length->cnt ops.length (fun i=>listed.getD i false)<=E->J61 ops (fun i=>listed.getD i false) ->
   Inv n ops N H0 T0 rc F0 w0 ds (fun i=>listed.getD i false) a w F X l'->wpAny P .any ops.toArray Q E listed a w
 | 0,listed,a,w,F,X,l',hsz,hc,hcl,hI=>by
  have hd:=Z46 (D:=fun i=>listed.getD i false) (k:=ops.length) (by omega);refine⟨?_,hQ _ a w F X l' hd hI⟩
  cases hr:Region.ready .any ops.toArray listed with
  | nil=>rfl
  | cons i rest=>
   obtain⟨h1,h2,_⟩:=K35 (ops:=ops.toArray) (listed:=listed) (i:=i) (by rw[hr];simp);have:=hd i (by simpa using h1);have hi:i<listed.size:=by simp at h1;omega
   simp[hi] at this h2;rw[this] at h2;cases h2
 | E+1,listed,a,w,F,X,l',hsz,hc,hcl,hI=>by
  refine⟨fun hr => ?_,fun i hi => ?_⟩
  .refine hQ _ a w F X l' (fun i hi => ?_) hI
   exact N54 (ops:=ops.toArray) (by simpa using hsz) (fun i o ho e he hb=>(J i o (by simpa using ho)).edge e he hb) hr i (by simpa using hi)
  .obtain⟨h1,h2,h3⟩:=K35 hi
   have a2:i<ops.length:=by simpa using h1
   have Z:i<listed.size:=by omega
   have W:listed.getD i false=false:=by simp[Z] at h2 ⊢;exact h2
   have O:∀ o,ops[i]? = some o->∀ e ∈ o.after,fH .any e=true->listed.getD e.on false=true:=fun o ho=>h3 o (by simpa using ho)
   have hp:=fun j=>Y33 J hcl i j O
   have a1:∀ i j,listed.getD i false=true->D2 (U1 ops) i j=true->listed.getD j false=true:=by
    intro i j hi hb;exact Y33 J hcl i j (fun o ho e he a6=>hcl i o ho hi e he a6) hb
   have hD:∀ j,(listed.setIfInBounds i true).getD j false=if j=i then true else listed.getD j false:=by
    intro j
    by_cases e:j=i
    .subst e;simp[Z]
    .simp[e,Array.getElem?_setIfInBounds_ne (eT e)]
   refine Y63 (D:=fun i=>listed.getD i false) (D':=fun j=>(listed.setIfInBounds i true).getD j false) J V U a0 hI a2 W hp a1 hD fun a' w' F' X' a5 a4 => ?_
   refine Y51 J V U a0 hQ E _ a' w' F' X' a5 (by simpa using hsz) ?_ ?_ a4
   .have:=G22 (D:=fun i=>listed.getD i false) (D':=fun j=>(listed.setIfInBounds i true).getD j false) hD W (k:=ops.length) a2
    omega
   .intro q o ho hq e he hb
    dsimp only at hq ⊢;rw[hD] at hq;rw[hD]
    split
    .rfl
    .split at hq
     .rename_i a3;subst a3;exact O o ho e he hb
     .exact hcl q o ho hq e he hb
end
theorem C39{ops:List Oper}{T0:K0 Value}{D:Nat->Bool}(h:∀ i,D i=false){t:Nat}:∀(l:List D3),W9 ops T0 D l t=(tg T0 t).getD undef
 | []=>rfl
 | r :: l=>by simp only[W9,h];simp;exact C39 h l
theorem K18{P:Program}{n:Nat}{ops:List Oper}:∀ {suf:List Oper} {l:List S},R3 P n ops suf=some l->l.length=suf.length
 | [],l,h=>by simp[R3] at h;subst h;rfl
 | o :: suf,l,h=>by
  simp only[R3] at h
  cases hs:K16 P n ops o with
  | none=>simp[hs] at h
  | some s=>cases hl:R3 P n ops suf with
   | none=>simp[hs,hl] at h
   | some l'=>simp[hs,hl] at h;subst h;simp[K18 hl]
theorem N21{P:Program}{n:Nat}{ops:List Oper}:∀ {suf:List Oper} {l:List S},R3 P n ops suf=some l->∀ o ∈ suf,∀ t,o.dst=some t->t ∈ Q10 l
 | [],l,h,o,ho=>by cases ho
 | o' :: suf,l,h,o,ho=>by
  simp only[R3] at h
  cases hs:K16 P n ops o' with
  | none=>simp[hs] at h
  | some s=>cases hl:R3 P n ops suf with
   | none=>simp[hs,hl] at h
   | some l'=>
    simp[hs,hl] at h;subst h;intro t ht;simp only[Q10,dN];rcases aU.1 ho with rfl | ho
    .refine .inl ?_
     rw[(M16 hs).2.1,ht];simp
    .exact .inr (N21 hl o ho t ht)
theorem C24{ops:List Oper}{T0:K0 Value}{W:List Nat}(hW:∀ o ∈ ops,∀ t,o.dst=some t->t ∈ W){j:Nat}(hj:j ∉ W):∀ {l:List D3},C10 ops T0 l j=(tg T0 j).getD undef
 | []=>rfl
 | r :: l=>by
  simp only[C10];rw[if_neg,C24 hW hj];intro h
  cases ho:ops[l.length]? with
  | none=>rw[ho] at h;cases h
  | some o=>rw[ho] at h;exact hj (hW o (aH ho) j h)
theorem N38{d n:Nat}(hm:P.follows .mixedOrders=true)(O:E13 (U1 ops) ops ops 0=true)(hn:n<=2^d)
  {T:K0 Value}{rc:List D3}{T':K0 Value}(J:rc.length=ops.length)(a1:B11 P d n ops nx H (nx+ops.length) T rc)(a5:WF d T')(a6:∀ t,t<n->(tg T' t).getD undef=C10 ops T rc t)(a0:R41 P d n ops nx H rc):
   ∀(id:Nat) (F:FM) (a:Act) (w:World) (Q:Exit->Act->World->Prop),TR d F T n a.tmps->HR F H nx w ->
    (∀ F' a' w',TR d F' T' n a'.tmps->N2 F H nx w F' (X8 nx (fun j => !Y3 (U1 ops) (D1 rc) j) (hR H rc) (B3 rc)) (nR (nx+ops.length) rc) w'->a'.defers=a.defers->Q .normal a' w')->(Code.region id ops.toArray true).wp P Q a w:=by
 have a4:∀ i o,ops[i]? = some o->R12 ops i o:=fun i o ho=>by simpa using D28 ops 0 O i o ho
 intro id F a w Q ht hr hk;refine wp_region_any hm ?_;have a3:HR F H nx { w with drawn:=w.drawn+1 }:=hr.drew _;have E:∀ i,(fN ops.toArray.size false).getD i false=false:=by
  intro i;simp[Array.getElem?_replicate];split<;>rfl
 refine Y51 (N:=nx) (H0:=H) (T0:=T) (rc:=rc) (F0:=F) (w0:=w) (ds:=a.defers) a4 J a1 a0 ?_ _ _ a _ F H [] (by simp) ?_ ?_ ?_
 ·
  intro D a' w' F' X l' hD hI;obtain⟨pre,V⟩:=hI.suf;have W:∀ e ∈ D1 (pre++l'),e<l'.length:=by
   intro e he;rw[<- V] at he
   cases Classical.em (e ∈ D1 l') with
   | inl h=>exact K19 h
   | inr h=>
    have h2:=hI.todo e he h;have h3:=K19 he;rw[hD e (by omega)] at h2;cases h2
  obtain⟨s1,s2,s3⟩:=N17 (H0:=H) (n0:=nx+ops.length) W;rw[<- V] at s1 s2 s3;refine hk F' a' w' ⟨a5,hI.size,hn,fun t U => ?_⟩ ?_ hI.defers
  .rw[a6 t U,<- Y37 (D:=D) (T0:=T) (ops:=ops) fun j hj _=>hD j (by omega)]
   exact hI.slots t U
  .have Z:=hI.stp
   rw[<- s3] at Z;refine Z.congr fun q => ?_
   rw[Y10 (L:=ops.length) (by rw[<- J];exact Q13 rc) q,hI.heap q,s1,s2];congr 1;apply X18;rintro⟨j,b⟩ hx _;obtain⟨a7,r3,l3,g1,g2,_⟩:=E18 hx;have hj:j<ops.length:=by rw[<- J,g1];simp;omega
   simp[hD j hj]
 .have:=V50 (D:=fun i=>(fN ops.toArray.size false).getD i false) E ops.length
  rw[this];simp
 .intro i o _ hi
  dsimp only at hi;rw[E] at hi;cases hi
 .refine⟨⟨rc,by simp⟩,by simp[D1],fun e _ _=>E e,ht.size,fun t U => ?_,fun q => ?_,fun j hj _=>hr.top _ (by omega),?_,fun j hj _=>hr.fresh _ (by omega),aD _,rfl⟩
  .rw[C39 E];exact ht.get t U
  .have:J5 nx (fun j=>(fN ops.toArray.size false).getD j false && !Y3 (U1 ops) (D1 []) j) q (B3 rc)=none:=by
    cases hp:J5 nx (fun j=>(fN ops.toArray.size false).getD j false && !Y3 (U1 ops) (D1 []) j) q (B3 rc) with
    | none=>rfl
    | some b=>
     obtain⟨j,_,_,a2⟩:=W11 hp;rw[E] at a2;cases a2
   rw[this];rfl
  .exact(N2.drew hr (w.drawn+1)).trans (N2.reserve a3 (nx2:=nx+ops.length) (by omega))
theorem V56{β:Type}{d n:Nat}{l:List S}(hm:P.follows .mixedOrders=true)(hl:R3 P n ops ops=some l)(J:E13 (U1 ops) ops ops 0=true)(hn:n<=2^d){call:Z3 β}(O:E11 P call){E:E12 β}(U:W34 P E)
  (T:K0 Value)(H:Y0)(nx:Nat)(z:β)(k:K β)(Z:WF d T):
  Z28 P d call E z (U1 ops) l T H nx k=z\/∃ T' H' nx',Z28 P d call E z (U1 ops) l T H nx k=k T' H' nx'/\(WF d T'/\U8 n (Q10 l) T T') /\
   ∀(id:Nat) (F:FM) (a:Act) (w:World) (Q:Exit->Act->World->Prop),TR d F T n a.tmps->HR F H nx w ->
    (∀ F' a' w',TR d F' T' n a'.tmps->N2 F H nx w F' H' nx' w'->a'.defers=a.defers->Q .normal a' w')->(Code.region id ops.toArray true).wp P Q a w:=by
 unfold Z28;rw[G1,K18 hl];rcases U32 (N:=nx) (H0:=H) (n0:=nx+ops.length) (T0:=T) O hn z (fun T H n Ms es as rs=>E (U1 ops) nx as rs es Ms H (Z13 (U1 ops) nx es H (fun H=>k T H n) as) z) ops l [] T hl (by simp) trivial Z (fun t _=>rfl) with h | ⟨rc,T',h1,hall,hw',hT',h5⟩
 .exact .inl h
 .have V:Z4 P d call (U1 ops) nx z (fun T H n Ms es as rs=>E (U1 ops) nx as rs es Ms H (Z13 (U1 ops) nx es H (fun H=>k T H n) as) z) l 0 T H (nx+ops.length) [] [] [] []=_:=h5
  rw[V];rcases U d n ops nx H rc (Z13 (U1 ops) nx (D1 rc) (hR H rc) (fun H=>k T' H (nR (nx+ops.length) rc)) (B3 rc)) z with h | ⟨h,hrs'⟩
  .exact .inl h
  .rw[h,N23]
   exact .inr ⟨T',_,_,rfl,⟨hw',fun j hj W=>by rw[hT' j hj];exact C24 (N21 hl) W⟩,N38 hm J hn (by simpa using h1) hall hw' hT' hrs'⟩
end
section
variable {β:Type}
inductive Ox where
 | n
 | x (id:Nat)
 | r
def Ox.exit:Ox->Exit
 | .n => .normal
 | .x id => .exit id
 | .r => .ret
def Ox.go(k:K β)(x:Nat->K β)(r:K β):Ox->K β
 | .n=>k
 | .x id=>x id
 | .r=>r
def R47(P:Program)(d n:Nat)(c:Code)(T:K0 Value)(H:Y0)(nx:Nat)(o:Ox)(T':K0 Value)(H':Y0)(nx':Nat):Prop:=
 ∀(F:FM) (a:Act) (w:World) (Q:Exit->Act->World->Prop),TR d F T n a.tmps->HR F H nx w ->
  (∀ F' a' w',TR d F' T' n a'.tmps->N2 F H nx w F' H' nx' w'->a'.defers=a.defers->Q o.exit a' w')->c.wp P Q a w
def D32(z:β)(c:K0 Value->Y0->Nat->K β->β)(m:Nat):K β:=
 @fC (fun _=>K β) (fun _ _ _=>z) (fun _ ih T H nx=>c T H nx ih) m
theorem G66(m:Nat)(z:β)(f:K β->K β):N45 m z f=D32 z (fun T H nx k=>f k T H nx) m:=rfl
def J56(fx:E15 β):Prop:=∀(z:β) (f:K β->K β) (T:K0 Value) (H:Y0) (nx:Nat),∃ m,fx z f T H nx=D32 z (fun T H nx k=>f k T H nx) m T H nx
theorem Z68(m:Nat):J56 (β:=β) (N45 m):=fun z f T H nx=>⟨m,by rw[G66]⟩
theorem R54(c:C)(P:Program)(d:Nat)(call:Z3 β)(E:E12 β)(fx:E15 β)(z:β)(T:K0 Value)(H:Y0)(nx:Nat)(k:K β)(x:Nat->K β)(r:K β):
  N6 (.loop c) P d call E fx z T H nx k x r=fx z (fun ih T H nx=>N6 c P d call E fx z T H nx ih x r) T H nx:=rfl
section
variable {β:Type} {P:Program} {d n:Nat}
theorem N51(hm:P.follows .mixedOrders=true)(hn:n<=2^d){call:Z3 β}(a1:E11 P call){U:E12 β}(a7:W34 P U){fx:E15 β}(a9:J56 fx)(z:β):∀(G6:Code) (c:C),R18 P n G6=some c->∀(T:K0 Value) (H:Y0) (nx:Nat) (k:K β) (x:Nat->K β) (r:K β),WF d T ->
  N6 c P d call U fx z T H nx k x r=z\/∃ o T' H' nx',N6 c P d call U fx z T H nx k x r=o.go k x r T' H' nx'/\WF d T'/\R47 P d n G6 T H nx o T' H' nx':=by
 intro G6
 induction G6 with
 | skip=>
  intro c hc T H nx k x r hw;simp[R18] at hc;subst hc;exact .inr ⟨.n,T,H,nx,rfl,hw,fun F a w Q ht hr hk=>wp_skip (hk F a w ht (N2.refl hr) rfl)⟩
 | label l=>
  intro c hc T H nx k x r hw;simp[R18] at hc;subst hc;exact .inr ⟨.n,T,H,nx,rfl,hw,fun F a w Q ht hr hk=>wp_label (hk F a w ht (N2.refl hr) rfl)⟩
 | exit id=>
  intro c hc T H nx k x r hw;simp[R18] at hc;subst hc;exact .inr ⟨.x id,T,H,nx,rfl,hw,fun F a w Q ht hr hk=>wp_exit (hk F a w ht (N2.refl hr) rfl)⟩
 | ret=>
  intro c hc T H nx k x r hw;simp[R18] at hc;subst hc;exact .inr ⟨.r,T,H,nx,rfl,hw,fun F a w Q ht hr hk=>wp_ret (hk F a w ht (N2.refl hr) rfl)⟩
 | goto l=>intro c hc;simp[R18] at hc
 | refuse ae=>intro c hc;simp[R18] at hc
 | rangeFunc f ps as b _ _=>intro c hc;simp[R18] at hc
 | region id ops draw=>
  intro c hc T H nx k x r hw;simp only[R18] at hc
  cases hl:R3 P n ops.toList ops.toList with
  | none=>simp[hl] at hc
  | some l=>
   simp only[hl] at hc
   cases draw with
   | false=>
    simp at hc;subst hc;show C9 P d call z k l T H nx=z\/∃ o T' H' nx',C9 P d call z k l T H nx=_/\_;rcases W58 (d:=d) hn a1 z k ops.toList l 0 hl (by simp) T H nx with h | ⟨T',H',nx',h,hw',hp⟩
    .exact .inl h
    .refine .inr ⟨.n,T',H',nx',h,(hw' hw).1,fun F a w Q ht hr hk=>wp_region ?_⟩
     have:=hp F a w Q ht hr hk;simpa [List.range_eq_range'] using this
   | true=>
    cases hs:E13 (U1 ops.toList) ops.toList ops.toList 0 with
    | false=>simp[hs] at hc
    | true=>
     simp[hs] at hc;subst hc;show Z28 P d call U z (U1 ops.toList) l T H nx k=z\/∃ o T' H' nx',Z28 P d call U z (U1 ops.toList) l T H nx k=_/\_;rcases V56 hm hl hs hn a1 a7 T H nx z k hw with h | ⟨T',H',nx',h,hw',hp⟩
     .exact .inl h
     .refine .inr ⟨.n,T',H',nx',h,hw'.1,fun F a w Q ht hr hk => ?_⟩
      have:=hp id F a w Q ht hr hk;simpa using this
 | seq a b W a5=>
  intro c hc T H nx k x r hw;simp only[R18] at hc
  cases ha:R18 P n a with
  | none=>simp[ha] at hc
  | some ca=>cases hb:R18 P n b with
   | none=>simp[ha,hb] at hc
   | some cb=>
    simp[ha,hb] at hc;subst hc;show N6 ca P d call U fx z T H nx (fun T H nx=>N6 cb P d call U fx z T H nx k x r) x r=z\/∃ o T' H' nx',N6 ca P d call U fx z T H nx (fun T H nx=>N6 cb P d call U fx z T H nx k x r) x r=_/\_;rcases W ca ha T H nx (fun T H nx=>N6 cb P d call U fx z T H nx k x r) x r hw with h | ⟨o,T1,H1,nx1,h,hw1,hok⟩
    .exact .inl h
    .cases o with
     | n=>
      rw[h];rcases a5 cb hb T1 H1 nx1 k x r hw1 with h2 | ⟨o2,T2,H2,nx2,h2,hw2,hok2⟩
      .exact .inl h2
      .refine .inr ⟨o2,T2,H2,nx2,h2,hw2,fun F ac w Q ht hr hk=>wp_seq (hok F ac w _ ht hr fun F' a' w' J E O => ?_)⟩
       exact hok2 F' a' w' Q J E.hr fun F2 a2 w2 a4 Z a0=>hk F2 a2 w2 a4 (E.trans Z) (a0.trans O)
     | x id=>exact .inr ⟨.x id,T1,H1,nx1,h,hw1,fun F ac w Q ht hr hk=>wp_seq (hok F ac w _ ht hr fun F' a' w' J E O=>hk F' a' w' J E O)⟩
     | r=>exact .inr ⟨.r,T1,H1,nx1,h,hw1,fun F ac w Q ht hr hk=>wp_seq (hok F ac w _ ht hr fun F' a' w' J E O=>hk F' a' w' J E O)⟩
 | cond v a b W a5=>
  intro c hc T H nx k x r hw;simp only[R18] at hc
  cases hv:W13 n v with
  | none=>simp[hv] at hc
  | some cv=>cases ha:R18 P n a with
   | none=>simp[hv,ha] at hc
   | some ca=>cases hb:R18 P n b with
    | none=>simp[hv,ha,hb] at hc
    | some cb=>
     simp[hv,ha,hb] at hc;subst hc;show(W4 T cv fun v=>match v with
      | .bool b=>ifK b (N6 ca P d call U fx z T H nx k x r) (N6 cb P d call U fx z T H nx k x r)
      | _=>z)=z\/∃ o T' H' nx',(W4 T cv fun v=>match v with
      | .bool b=>ifK b (N6 ca P d call U fx z T H nx k x r) (N6 cb P d call U fx z T H nx k x r)
      | _=>z)=_/\_
     rw[G2]
     split
     .rename_i t aa
      rw[E14];have a8:∀(F:FM) (ac:Act),TR d F T n ac.tmps->ac.eval v = .bool t:=fun F ac ht=>by
       have:=ht.evX hv;rw[aa] at this;exact this.bool_inv
      cases t with
      | true=>
       rcases W ca ha T H nx k x r hw with h | ⟨o,T1,H1,nx1,h,hw1,hok⟩
       .exact .inl h
       .exact .inr ⟨o,T1,H1,nx1,h,hw1,fun F ac w Q ht hr hk=>wp_cond_true (a8 F ac ht) (hok F ac w Q ht hr hk)⟩
      | false=>
       rcases a5 cb hb T H nx k x r hw with h | ⟨o,T1,H1,nx1,h,hw1,hok⟩
       .exact .inl h
       .exact .inr ⟨o,T1,H1,nx1,h,hw1,fun F ac w Q ht hr hk=>wp_cond_false (a8 F ac ht) (hok F ac w Q ht hr hk)⟩
     .exact .inl rfl
 | block id a W=>
  intro c hc T H nx k x r hw;simp only[R18] at hc
  cases ha:R18 P n a with
  | none=>simp[ha] at hc
  | some ca=>
   simp[ha] at hc;subst hc;show N6 ca P d call U fx z T H nx k (fun V T H nx=>cond (bR V id) (k T H nx) (x V T H nx)) r=z\/∃ o T' H' nx',N6 ca P d call U fx z T H nx k (fun V T H nx=>cond (bR V id) (k T H nx) (x V T H nx)) r=_/\_;rcases W ca ha T H nx k (fun V T H nx=>cond (bR V id) (k T H nx) (x V T H nx)) r hw with h | ⟨o,T1,H1,nx1,h,hw1,hok⟩
   .exact .inl h
   .cases o with
    | n=>exact .inr ⟨.n,T1,H1,nx1,h,hw1,fun F ac w Q ht hr hk=>wp_block (hok F ac w _ ht hr fun F' a' w' J E O=>hk F' a' w' J E O)⟩
    | r=>exact .inr ⟨.r,T1,H1,nx1,h,hw1,fun F ac w Q ht hr hk=>wp_block (hok F ac w _ ht hr fun F' a' w' J E O=>hk F' a' w' J E O)⟩
    | x V=>
     cases a6:bR V id with
     | true=>
      have e:=bT a6;subst e;refine .inr ⟨.n,T1,H1,nx1,by rw[h];simp[Ox.go],hw1,fun F ac w Q ht hr hk=>wp_block (hok F ac w _ ht hr fun F' a' w' J E O => ?_)⟩;simp only[Ox.exit,Exit.inBlock,if_true];exact hk F' a' w' J E O
     | false=>
      have e:V≠id:=fun e=>by subst e;simp at a6
      refine .inr ⟨.x V,T1,H1,nx1,by rw[h];simp[Ox.go,a6],hw1,fun F ac w Q ht hr hk=>wp_block (hok F ac w _ ht hr fun F' a' w' J E O => ?_)⟩;simp only[Ox.exit,Exit.inBlock,e,if_false];exact hk F' a' w' J E O
 | scope a W=>
  intro c hc T H nx k x r hw;simp only[R18] at hc;rcases W c hc T H nx k x r hw with h | ⟨o,T1,H1,nx1,h,hw1,hok⟩
  .exact .inl h
  .refine .inr ⟨o,T1,H1,nx1,h,hw1,fun F ac w Q ht hr hk=>wp_scope_straight (hok F ac w _ ht hr fun F' a' w' J E O => ?_)⟩
   cases o<;>exact hk F' a' w' J E O
 | loop a W=>
  intro c hc T H nx k x r hw;simp only[R18] at hc
  cases ha:R18 P n a with
  | none=>simp[ha] at hc
  | some ca=>
   simp[ha] at hc;subst hc;have a3:∀(m:Nat) (T:K0 Value) (H:Y0) (nx:Nat),WF d T ->
     D32 z (fun T H nx k=>N6 ca P d call U fx z T H nx k x r) m T H nx=z \/
     ∃(o:Ox) (T':K0 Value) (H':Y0) (nx':Nat),D32 z (fun T H nx k=>N6 ca P d call U fx z T H nx k x r) m T H nx=o.go k x r T' H' nx'/\WF d T' /\
      ∀(F:FM) (ac:Act) (w:World) (Q:Exit->Act->World->Prop),TR d F T n ac.tmps->HR F H nx w ->
       (∀ F' a' w',TR d F' T' n a'.tmps->N2 F H nx w F' H' nx' w'->a'.defers=ac.defers->Q o.exit a' w')->Code.rounds P a Q m ac w:=by
    intro m
    induction m with
    | zero=>intro T H nx _;exact .inl rfl
    | succ m ab=>
     intro T H nx hw;rcases W ca ha T H nx (D32 z (fun T H nx k=>N6 ca P d call U fx z T H nx k x r) m) x r hw with h | ⟨o,T1,H1,nx1,h,hw1,hok⟩
     .exact .inl h
     .cases o with
      | n=>
       rcases ab T1 H1 nx1 hw1 with h2 | ⟨o2,T2,H2,nx2,h2,hw2,hok2⟩
       .exact .inl (h.trans h2)
       .refine .inr ⟨o2,T2,H2,nx2,h.trans h2,hw2,fun F ac w Q ht hr hk => ?_⟩
        rw[rounds_succ];refine hok F ac w _ ht hr fun F' a' w' J E O => ?_
        exact hok2 F' a' w' Q J E.hr fun F2 a2 w2 a4 Z a0=>hk F2 a2 w2 a4 (E.trans Z) (a0.trans O)
      | x id=>
       refine .inr ⟨.x id,T1,H1,nx1,h,hw1,fun F ac w Q ht hr hk => ?_⟩;rw[rounds_succ];exact hok F ac w _ ht hr fun F' a' w' J E O=>hk F' a' w' J E O
      | r=>
       refine .inr ⟨.r,T1,H1,nx1,h,hw1,fun F ac w Q ht hr hk => ?_⟩;rw[rounds_succ];exact hok F ac w _ ht hr fun F' a' w' J E O=>hk F' a' w' J E O
   rw[R54];obtain⟨m,ad⟩:=a9 z (fun ih T H nx=>N6 ca P d call U fx z T H nx ih x r) T H nx;rw[ad];rcases a3 m T H nx hw with h | ⟨o,T1,H1,nx1,h,hw1,hok⟩
   .exact .inl h
   .exact .inr ⟨o,T1,H1,nx1,h,hw1,fun F ac w Q ht hr hk=>wp_loop_rounds m (hok F ac w Q ht hr hk)⟩
end
end
section
variable {F:FM} {args:List Value} {f:FuncId} {fn:Func} {β:Type}
section
variable {P:Program} {d n:Nat}
def Q34(tmps:Array Value):ResultVar->Sem Value
 | .tmp t=>pure (tmps.getD t undef)
 | .cell a t=>do loadVar t (<- asAddr (tmps.getD a undef))
def R31(tmps:Array Value):List ResultVar->Sem (List Value)
 | []=>pure []
 | r :: rs=>do
  let v <- Q34 tmps r
  let vs <- R31 tmps rs
  pure (v :: vs)
theorem B67(tmps:Array Value)(l:List ResultVar):l.mapM (Q34 tmps)=R31 tmps l:=by
 induction l with
 | nil=>rfl
 | cons r l ih=>simp only[List.mapM_cons,ih,R31]
theorem J29{tmps:Array Value}{w:World}{vs:List Value}(h:(R31 tmps fn.results.toList).run P w = .ok vs w):
  (results fn tmps).run P w = .ok (tup vs) w:=by
 have e:results fn tmps=(do let vs <- fn.results.mapM (Q34 tmps);pure (if h:vs.size=1 then vs[0] else .tuple vs)):=by
  unfold results;congr 1
 rw[e,Array.mapM_eq_mapM_toList,B67];simp only[aS,Sem.run_map,h,aM,bD]
 match vs with
 | []=>rfl
 | [v]=>rfl
 | v :: v' :: vs=>rfl
theorem B35{T:K0 Value}{H:Y0}{nx:Nat}(z:β):∀(rs:List ResultVar) (l:List (X × Option (Option Nat))),M17 P n rs=some l->∀(k:List Value->β),
  W24 P T H z k l=z\/∃ vs,W24 P T H z k l=k vs/\∀(F:FM) (tmps:Array Value) (w:World),TR d F T n tmps->HB F H nx w ->
   ∃ E,(R31 tmps rs).run P w = .ok E w/\VL F vs E:=by
 intro rs
 induction rs with
 | nil=>
  intro l hl k;simp[M17] at hl;subst hl;exact .inr ⟨[],rfl,fun F tmps w _ _=>⟨[],rfl,.nil⟩⟩
 | cons r rs ih=>
  intro l hl k;simp only[M17] at hl
  cases O:M17 P n rs with
  | none=>rw[O] at hl;split at hl<;>simp_all
  | some l2=>
   rw[O] at hl
   cases r with
   | tmp t=>
    cases ht:dE t n with
    | false=>simp[ht] at hl
    | true=>
     simp only[ht,cond_true,aZ] at hl;subst hl;have Q:t<n:=by simpa [Nat.blt_eq] using ht
     simp only[W24];rw[G2];rcases ih l2 O (fun vs=>k (ev T (.s t) :: vs)) with h | ⟨vs,h,hok⟩
     .exact .inl h
     .refine .inr ⟨_,h,fun F tmps w J hb => ?_⟩
      obtain⟨E,h1,h2⟩:=hok F tmps w J hb;refine⟨tmps.getD t undef :: E,?_,.cons ?_ h2⟩
      .simp only[R31,Q34,aS,bD,aM,h1]
      .rw[E53];exact J.get t Q
   | cell a t=>
    cases ht:dE a n with
    | false=>simp[ht] at hl
    | true=>
     cases U:E8 P t with
     | none=>simp[ht,U] at hl
     | some sh=>
      simp only[ht,U,cond_true,Option.map_some,aZ] at hl;subst hl;have Q:a<n:=by simpa [Nat.blt_eq] using ht
      simp only[W24];show rLd (.s a) sh T H z _=z\/∃ vs,rLd (.s a) sh T H z _=_/\_;rcases M38 (nx:=nx) (T:=T) (H:=H) U (.s a) z (fun v=>W24 P T H z (fun vs=>k (v :: vs)) l2) with h | ⟨v,h,hp⟩
      .exact .inl h
      .rw[h]
       rcases ih l2 O (fun vs=>k (v :: vs)) with h | ⟨vs,h,hok⟩
       .exact .inl h
       .refine .inr ⟨_,h,fun F tmps w J hb => ?_⟩
        obtain⟨E,h1,h2⟩:=hok F tmps w J hb;obtain⟨ad,v',he,hr,hv⟩:=hp F (tmps.getD a undef) w (by rw[E53];exact J.get a Q) hb;refine⟨v' :: E,?_,.cons hv h2⟩;have ha:(asAddr (tmps.getD a undef)).run P w = .ok ad w:=by rw[he];rfl
        simp only[R31,Q34,aS,ha,hr,bD,aM,h1]
theorem B58{l l':List Value}(h:VL F l l'):VR F (tup l) (tup l'):=by
 cases h with
 | nil=>exact VR.tuple' .nil
 | cons h t=>
  cases t with
  | nil=>exact h
  | cons h2 t=>exact VR.tuple' (.cons h (.cons h2 t))
def R17(d:Nat):List Value->Nat->K0 Value->K0 Value
 | [],_,T=>T
 | v :: l,i,T=>R17 d l (i+1) (ts d T i v)
theorem Z24{β:Type}(d:Nat)(f:K0 Value->β):∀(l:List Value) (i:Nat) (T:K0 Value),J27 d l i T f=f (R17 d l i T)
 | [],_,_=>rfl
 | v :: l,i,T=>by simp only[J27,R17];rw[Z15];exact Z24 d f l _ _
theorem Y19(d:Nat):∀(l:List Value) (i:Nat) (T:K0 Value),WF d T->WF d (R17 d l i T)
 | [],_,_,h=>h
 | v :: l,i,T,h=>Y19 d l (i+1) _ (U16 d T i v h)
theorem U38(d:Nat):∀(l:List Value) (i:Nat) (T:K0 Value) (j:Nat),WF d T->i+l.length<=2^d->j<2^d ->
  tg (R17 d l i T) j=if i<=j/\j<i+l.length then l[j-i]? else tg T j
 | [],i,T,j,_,_,_=>by simp[R17];omega
 | v :: l,i,T,j,hw,hl,hj=>by
  simp only[R17];simp only[cV] at hl;rw[U38 d l (i+1) _ j (U16 d T i v hw) (by omega) hj,K21 d T i j v hw (by omega) hj]
  by_cases h1:j=i
  .subst h1;rw[if_neg (by omega),if_pos rfl,if_pos (by simp)];simp
  .by_cases h2:i<=j/\j<i+(l.length+1)
   .rw[if_pos (by omega),if_pos (by simpa using h2)]
    have:j-i=(j-(i+1))+1:=by omega
    rw[this];simp
   .rw[if_neg (by omega),if_neg h1,if_neg (by simpa using h2)]
theorem W32{E:List Value}(hv:VL F args E)(hn:n<=2^d)(hl:args.length<=n):
  TR d F (R17 d args 0 .leaf) n (E.toArray++fN (n-E.toArray.size) undef):=by
 have J:=hv.length;have wl:WF d (.leaf:K0 Value):=by cases d<;>trivial
 refine⟨Y19 d args 0 _ wl,by simp;omega,hn,fun t ht => ?_⟩;rw[U38 d args 0 .leaf t wl (by omega) (by omega)]
 by_cases h:t<args.length
 .rw[if_pos (by omega)]
  have h':t<E.length:=by omega
  have e1:args[t-0]? = some args[t]:=by simp[h]
  rw[e1];have e2:(E.toArray++fN (n-E.toArray.size) undef).getD t undef=E[t]:=by
   simp[Array.getD_eq_getD_getElem?,Array.getElem?_append,h']
  rw[e2];exact hv.get t _ _ (by simp[h]) (by simp[h'])
 .rw[if_neg (by omega)]
  have e2:(E.toArray++fN (n-E.toArray.size) undef).getD t undef=undef:=by
   rw[Array.getD_eq_getD_getElem?,Array.getElem?_append,if_neg (by simp;omega),Array.getElem?_replicate]
   split<;>rfl
  rw[e2];exact VR.undef F
def B42(P:Program)(E:Orc):Prop:=
 ∀ f o,E f=some o->∀ args H nx v H' nx',o args H nx=some (v,H',nx')->CS P f args H nx v H' nx'
def J18 (P : Program) : Prop := ∀ (f : FuncId) (fn : Func), P.funcs[f]? = some fn -> (fn.name == "runtime.NumGoroutine") = false
theorem Y52 (hm : P.follows .mixedOrders = true) {c : Code} {body : C} {res : List (X × Option (Option Nat))} (hf : P.funcs[f]? = some fn) (J : (fn.name == "runtime.NumGoroutine") = false) (hb : fn.body = some c)
  (hc:R18 P fn.ntmps c=some body) (a2:M17 P fn.ntmps fn.results.toList=some res) (hd:fn.ntmps<=2^d) {call:Z3 β} (Q:E11 P call) {U:E12 β} (W:W34 P U) {fx:E15 β} (a3:J56 fx) (args:List Value) (H:Y0) (nx:Nat) (z:β) (k:Value->Y0->Nat->β):
  W28 P call U fx args H nx z k fn.ntmps d body res=z\/∃ v H' nx',W28 P call U fx args H nx z k fn.ntmps d body res=k v H' nx'/\CS P f args H nx v H' nx':=by
 unfold W28
 cases hl:dD args.length fn.ntmps with
 | false=>exact .inl rfl
 | true=>
  have hl:=Nat.le_of_ble_eq_true hl;simp only[cond_true];rw[Z24];have wl:WF d (.leaf:K0 Value):=by cases d<;>trivial
  have hw:=Y19 d args 0 .leaf wl;rcases N51 hm hd Q W a3 z c body hc _ H nx (G14 P res z k) (fun _ _ _ _=>z) (G14 P res z k) hw with h | ⟨o,T',H',nx',h,hw',hok⟩
  .exact .inl h
  .rw[h]
   have V:∀ (hx:o = .n\/o = .r),G14 P res z k T' H' nx'=z\/∃ v a0 E,G14 P res z k T' H' nx'=k v a0 E/\CS P f args H nx v a0 E:=by
    intro hx;unfold G14;rcases B35 (d:=d) (T:=T') (H:=H') (nx:=nx') z _ res a2 (fun vs=>M0 (tup vs) fun v=>k v H' nx') with h2 | ⟨vs,h2,hok2⟩
    .exact .inl h2
    .rw[h2,Y5]
     refine .inr ⟨tup vs,H',nx',rfl,⟨fn,c,hf,hb,J⟩,fun F a5 w hr hv => ?_⟩;refine calls_of_wp hf hb (hok F _ w _ (W32 hv hd hl) hr fun F' a' w' a4 Z a6 => ?_);obtain⟨a1,h3,h4⟩:=hok2 F' a'.tmps w' a4 Z.hr.hb;have O:a'.defers=[]/\∃ v,(results fn a'.tmps).run P w' = .ok v w'/\(∃ v' F',Ending.returned v = .returned v'/\VR F' (tup vs) v'/\N2 F H nx w F' H' nx' w'):=
      ⟨a6,tup a1,J29 h3,tup a1,F',rfl,B58 h4,Z⟩
     rcases hx with rfl | rfl<;>exact O
   cases o with
   | n=>exact V (.inl rfl)
   | x id=>exact .inl rfl
   | r=>exact V (.inr rfl)
theorem W22{β:Type}(hm:P.follows .mixedOrders=true)(Q:J18 P){J:Orc}(ho:B42 P J):∀ n,E11 (β:=β) P (K42 P J n)
 | 0=>fun f args H nx z k => .inl rfl
 | n+1=>by
  intro f args H nx z k;show(match J f with
   | some o=>(match o args H nx with
    | some (v,H,nx)=>k v H nx
    | none=>z)
   | none=>match cfn P f with
    | some ⟨n',d,body,res⟩=>W28 P (K42 P J n) (D43 P) (N45 1000000) args H nx z k n' d body res
    | none=>z)=z\/∃ v H' nx',(match J f with
   | some o=>(match o args H nx with
    | some (v,H,nx)=>k v H nx
    | none=>z)
   | none=>match cfn P f with
    | some ⟨n',d,body,res⟩=>W28 P (K42 P J n) (D43 P) (N45 1000000) args H nx z k n' d body res
    | none=>z)=k v H' nx'/\_
  cases V:J f with
  | some o=>
   dsimp only
   cases W:o args H nx with
   | none=>exact .inl rfl
   | some r=>obtain⟨v,H',nx'⟩:=r;exact .inr ⟨v,H',nx',rfl,ho f o V _ _ _ _ _ _ W⟩
  | none=>
   dsimp only
   cases E:cfn P f with
   | none=>exact .inl rfl
   | some r=>
    unfold cfn at E;rw[Q8] at E
    cases hf:P.funcs.toList[f]? with
    | none=>simp[hf] at E
    | some fn=>
     simp only[hf] at E;have U:P.funcs[f]? = some fn:=by simpa using hf
     cases hb:fn.body with
     | none=>simp[hb] at E
     | some c=>
      simp only[hb] at E
      cases hc:R18 P fn.ntmps c with
      | none=>simp[hc] at E
      | some body=>
       cases O:M17 P fn.ntmps fn.results.toList with
       | none=>simp[hc,O] at E
       | some res=>
        simp only[hc,O,aZ] at E;subst E;dsimp only;exact Y52 hm U (Q f fn U) hb hc O (eG Nat.lt_log2_self) (W22 hm Q ho n) (Z67 P) (Z68 _) args H nx z k
theorem B56{J:Orc}(hm:P.follows .mixedOrders=true)(U:J18 P)(ho:B42 P J){v:Value}(hr:U46 P J n f args=some v)(ha:args.all M4=true)(hv:X7 v=true)(w:World)(O:GlW w):
  Calls P f args.toArray w fun e w'=>e = .returned v/\RowKit.Below w.heap.size w w':=by
 unfold U46 at hr;rcases W22 (β:=Option Value) hm U ho n f args .leaf 0 none (fun v _ _=>some v) with h | ⟨v',H',nx',h,hcs⟩
 .rw[h] at hr;cases hr
 .rw[h] at hr;cases hr
  have h0:HR (fun _=>none) .leaf 0 w:=
   ⟨fun i b hi=>by omega,fun i j bi bj ti tj hi=>by omega,fun _ _=>rfl,fun _ _=>rfl,⟨O,fun x hx ⟨i,_,_,hi,_⟩=>by omega⟩⟩
  refine(hcs.2 (fun _=>none) args w h0 (J10 _ args ha)).mono fun e w' ⟨v',F',he,Q,E⟩ => ?_
  refine⟨by rw[he,R51 Q hv],E.os,E.tape,E.output,E.size,fun b hb=>E.frame b hb fun⟨i,_,_,hi,_⟩=>by omega⟩
end
end
section
variable {H:Y0} {T:K0 Value} {d nx:Nat} {g:Option (Nat × Bool)} {l:List S} {v:Value} {β:Type}
def Q2(P:Program)(f:FuncId)(args:List Value)(H:Y0)(nx:Nat)(Q:Value->Y0->Nat->Prop):Prop:=
 ∃ v H' nx',CS P f args H nx v H' nx'/\Q v H' nx'
def M8(P:Program):Z3 Prop:=fun f args H nx z k=>z\/Q2 P f args H nx k
theorem X48(P:Program):E11 P (M8 P):=by
 intro f args H nx z k
 by_cases hz:z
 .exact .inl (by unfold M8;simp[hz])
 .by_cases h:Q2 P f args H nx k
  .obtain⟨v,H',nx',E,hk⟩:=h
   refine .inr ⟨v,H',nx',?_,E⟩;unfold M8;apply propext;exact⟨fun _=>hk,fun _ => .inr ⟨v,H',nx',E,hk⟩⟩
  .exact .inl (by unfold M8;apply propext;exact⟨fun hh=>hh.elim id (fun hh=>absurd hh h),.inl⟩)
theorem Q2.mono{P:Program}{f:FuncId}{args:List Value}{Q Q':Value->Y0->Nat->Prop}(h:Q2 P f args H nx Q)(hq:∀ v H' nx',Q v H' nx'->Q' v H' nx'):Q2 P f args H nx Q':=
 let ⟨v,H',nx',h1,h2⟩:=h;⟨v,H',nx',h1,hq _ _ _ h2⟩
def N27(P:Program)(ms:List Nat)(N:Nat)(as:List (Nat × V3))(r:Rd):List Nat->List Y0->Y0->List Nat->Prop
 | es,Ms,M,later=>
  (cond (es.any (fun e=>D2 ms e r.i) || later.any (fun e=>D2 ms r.i e)) True
   (U13 ms N es r.i M (fun h=>M9 P r.r r.T h False fun v=>v=r.v) as)) /\
  (match es,Ms with
   | e :: es',M' :: Ms'=>cond (D2 ms r.i e) True (N27 P ms N as r es' Ms' M' (e :: later))
   | [],[]=>True
   | _,_=>False)
def Q55(P:Program)(ms:List Nat)(N:Nat)(as:List (Nat × V3))(es:List Nat)(Ms:List Y0)(H:Y0):List Rd->Prop
 | []=>True
 | r :: rs=>N27 P ms N as r es Ms H []/\Q55 P ms N as es Ms H rs
def W62(P:Program):E12 Prop:=fun ms N as rs es Ms H y z=>(Q55 P ms N as es Ms H rs/\y)\/z
theorem B31{P:Program}{ms:List Nat}{N:Nat}{as:List (Nat × V3)}{r:Rd}{H0:Y0}:∀(rc:List D3) (E:List Nat),N27 P ms N as r (D1 rc) (MsR H0 rc) (hR H0 rc) E->∀(pre l':List D3),rc=pre++l' ->
  (∀ e,e ∈ D1 rc->e ∉ D1 l'->D2 ms r.i e=false)->(∀ e ∈ E,D2 ms r.i e=false)->(∀ e ∈ D1 l',D2 ms e r.i=false) ->
  M9 P r.r r.T (X8 N (fun j=>D2 ms r.i j && !Y3 ms (D1 l') j) (hR H0 l') as) False (fun v=>v=r.v)
 | rc,E,h,[],l',e,_,h2,h3=>by
  simp at e;subst e;rw[N27.eq_def] at h;have c1:((D1 rc).any (fun e=>D2 ms e r.i) || E.any (fun e=>D2 ms r.i e))=false:=by
   rw[Bool.or_eq_false_iff];refine⟨?_,?_⟩
   .rw[List.any_eq_false];intro x hx;simp[h3 x hx]
   .rw[List.any_eq_false];intro x hx;simp[h2 x hx]
  have:=h.1;rw[c1] at this;simp only[cond_false] at this;rw[Q18] at this;exact this
 | [],E,h,p :: pre,l',e,_,_,_=>by simp at e
 | r0 :: l,E,h,p :: pre,l',e,h1,h2,h3=>by
  simp at e;obtain⟨rfl,rfl⟩:=e
  cases J:r0.inf with
  | e H' nx'=>
   simp only[D1,MsR,hR,J] at h;rw[N27.eq_def] at h;have hb:=h.2;dsimp only at hb;have O:D2 ms r.i (pre++l').length=false:=h1 _ (by simp[D1,J]) (fun hm=>by have:=K19 hm;simp at this;omega);rw[O] at hb;simp only[cond_false] at hb;refine B31 (pre++l') _ hb pre l' rfl (fun e he hn=>h1 e (by simp[D1,J,he]) hn) ?_ h3;intro e he;rcases aU.1 he with rfl | he
   .exact O
   .exact h2 e he
  | _=>
   simp only[D1,MsR,hR,J] at h;exact B31 (pre++l') E h pre l' rfl (fun e he hn=>h1 e (by simp[D1,J,he]) hn) h2 h3
theorem Y43{P:Program}{ms:List Nat}{N:Nat}{as:List (Nat × V3)}{es:List Nat}{Ms:List Y0}{H:Y0}:∀ {rs:List Rd},Q55 P ms N as es Ms H rs->∀ r ∈ rs,N27 P ms N as r es Ms H []
 | [],_,r,hr=>by cases hr
 | r0 :: rs,h,r,hr=>by
  rcases aU.1 hr with rfl | hr
  .exact h.1
  .exact Y43 h.2 r hr
theorem M66(P:Program):W34 P (W62 P):=by
 intro d n ops N H0 rc y z;unfold W62
 by_cases hz:z
 .exact .inl (by apply propext;simp[hz])
 .by_cases J:Q55 P (U1 ops) N (B3 rc) (D1 rc) (MsR H0 rc) (hR H0 rc) (rsR rc)
  .refine .inr ⟨by apply propext;simp[J,hz],fun r hr pre l' O h1 h2 nx o hc => ?_⟩
   have E:=B31 rc [] (Y43 J r hr) pre l' O h1 (by simp) h2;rcases U34 (P:=P) (d:=d) (n:=n) (nx:=nx) (o:=o) (T:=r.T) (H:=X8 N (fun j=>D2 (U1 ops) r.i j && !Y3 (U1 ops) (D1 l') j) (hR H0 l') (B3 rc)) hc False (fun v=>v=r.v) with h | ⟨v,h,hrv⟩
   .rw[h] at E;exact E.elim
   .rw[h] at E
    rw[<- E];exact hrv
  .exact .inl (by apply propext;simp[J])
def Y9(g:Option (Nat × Bool))(T:K0 Value):Option Bool:=V8 g T none (some true) (some false)
theorem X10(g:Option (Nat × Bool))(T:K0 Value)(z J no:β):V8 g T z J no=match Y9 g T with | none=>z | some true=>J | some false=>no:=by
 unfold Y9 V8
 cases g with
 | none=>rfl
 | some tw=>
  obtain⟨t,E⟩:=tw;dsimp only;rw[J11,J11]
  cases tg T t with
  | none=>rfl
  | some v=>
   dsimp only[aN]
   cases v<;>try rfl
   rename_i b;dsimp only;rw[E14,E14]
   cases b<;>cases E<;>rfl
theorem M62{t q:Nat}{E:Bool}(hw:WF d T)(ht:t<2^d)(hq:q<2^d)(J:q≠t):Y9 (some (t,E)) (ts d T q v)=Y9 (some (t,E)) T:=by
 unfold Y9 V8;dsimp only;rw[J11,J11,K21 d T q t v hw hq ht,if_neg (eT J)]
theorem D49{α:Type}:∀(d:Nat) (T:K0 α) (t:Nat) (v:α),WF d T->t<2^d->tg T t=some v->ts d T t v=T:=by
 intro d
 induction d with
 | zero=>
  intro T t v hw ht hg
  cases T with
  | leaf=>simp at hg
  | tip a=>simp at hg;subst hg;rfl
  | node l r=>exact hw.elim
 | succ d ih=>
  intro T t v hw ht hg;have E:t/2<2^d:=by rw[dR] at ht;omega
  cases T with
  | leaf=>simp at hg
  | tip a=>exact hw.elim
  | node l r=>
   rw[G36] at hg;rw[R36];dsimp only
   split at hg
   .rename_i h;rw[if_pos h,ih l _ v hw.1 E hg]
   .rename_i h;rw[if_neg h,ih r _ v hw.2 E hg]
def okT(d:Nat):Option (Nat × Bool)->Bool
 | none=>true
 | some (t,_)=>dE t (2^d)
inductive HT where
 | nil
 | one (r:HT)
 | tst (y n:HT)
abbrev G:=Option (Nat × Bool) × List S
def Y8(g:Option (Nat × Bool))(s:S):S:=⟨g,s.dst,s.i⟩
def Q11:List G->List S
 | []=>[]
 | (g,l) :: gs=>l.map (Y8 g)++Q11 gs
def okL(d:Nat)(g:Option (Nat × Bool)):List S->Bool
 | []=>true
 | s :: l=>(match s.guard with | none=>true | some _=>false)&&(match g,s.dst with
  | some (t,_),some q=>dE t (2^d)&&dE q (2^d) && !(bR q t)
  | _,_=>true)&&okL d g l
def okG (d:Nat):List G->Bool
 | []=>true
 | (g,l) :: gs=>okL d g l&&(match l with | []=>false | _=>true)&&okG d gs&&okT d g
def Y15{β:Type}(d:Nat)(k:K0 Value->β):List S->K0 Value->β
 | [],T=>k T
 | s :: l,T=>E4 d s.dst undef T fun T=>Y15 d k l T
def B30(d:Nat)(dst:Option Nat)(v:Value)(T:K0 Value):K0 Value:=
 match dst with
 | none=>T
 | some t=>ts d T t v
theorem R46(d:Nat)(dst:Option Nat)(v:Value)(T:K0 Value)(k:K0 Value->β):E4 d dst v T k=k (B30 d dst v T):=by
 cases dst with
 | none=>rfl
 | some t=>exact Z15 d T t v k
theorem K28{dst:Option Nat}(h:WF d T):WF d (B30 d dst v T):=by
 cases dst with
 | none=>exact h
 | some t=>exact U16 d T t v h
theorem V21{s:S}(hw:WF d T)(E:okL d g (s :: l)=true):Y9 g (B30 d s.dst v T)=Y9 g T:=by
 cases g with
 | none=>rfl
 | some tw=>
  obtain⟨t,J⟩:=tw
  cases hd:s.dst with
  | none=>rfl
  | some q=>
   simp only[okL,hd,aG,Nat.blt_eq] at E;exact M62 hw E.1.2.1.1 E.1.2.1.2 (by rintro rfl;have:=E.1.2.2;simp at this)
theorem J23{s:S}(h:okL d g (s :: l)=true):okL d g l=true:=by
 simp only[okL,aG] at h;exact h.2
theorem X43{s:S}(h:okL d g (s :: l)=true):s.guard=none:=by
 simp only[okL,aG] at h
 cases hg:s.guard with
 | none=>rfl
 | some _=>rw[hg] at h;cases h.1.1
section
variable {β:Type} {P:Program} {d:Nat} {call:Z3 β} {z:β}
theorem M25(k:K0 Value->Y0->Nat->β)(s:S)(l:List S)(T:K0 Value)(H:Y0)(nx:Nat):C9 P d call z k (s :: l) T H nx=U18 P d call s T H nx z (C9 P d call z k l):=rfl
theorem J31(g:Option (Nat × Bool))(dst:Option Nat)(i:I)(T:K0 Value)(H:Y0)(nx:Nat)(k:K0 Value->Y0->Nat->β):
  U18 P d call ⟨g,dst,i⟩ T H nx z k=V8 g T z (V30 i P d dst call T H nx z k) (E4 d dst undef T fun T=>k T H nx):=rfl
theorem G39(T:K0 Value):Y9 none T=some true:=rfl
theorem Q54(i:I)(dst:Option Nat)(T:K0 Value)(H:Y0)(nx:Nat)(k k':K0 Value->Y0->Nat->β)(h:∀ v H nx,k (B30 d dst v T) H nx=k' (B30 d dst v T) H nx):
  V30 i P d dst call T H nx z k=V30 i P d dst call T H nx z k':=by
 cases i with
 | p i=>
  show X4 P i T z (fun v=>E4 d dst v T fun T=>k T H nx)=X4 P i T z (fun v=>E4 d dst v T fun T=>k' T H nx);congr 1;funext v;rw[R46,R46,h]
 | r i=>
  show M9 P i T H z (fun v=>E4 d dst v T fun T=>k T H nx)=M9 P i T H z (fun v=>E4 d dst v T fun T=>k' T H nx);congr 1;funext v;rw[R46,R46,h]
 | a i=>
  show evA i T z (J36 d dst T H nx k)=evA i T z (J36 d dst T H nx k');congr 1;funext b y;unfold J36;rw[G4,G4,G1,G1,E7,E7,R46,R46,h]
 | e i=>
  show evE i call T H nx z (fun v H nx=>E4 d dst v T fun T=>k T H nx)=evE i call T H nx z (fun v H nx=>E4 d dst v T fun T=>k' T H nx);congr 1;funext v H nx;rw[R46,R46,h]
theorem M49(g:Option (Nat × Bool))(k:K0 Value->Y0->Nat->β):∀(l:List S) (T:K0 Value) (H:Y0) (nx:Nat),WF d T->okL d g l=true->Y9 g T=some true ->
  C9 P d call z k (l.map (Y8 g)) T H nx=C9 P d call z k l T H nx
 | [],T,H,nx,_,_,_=>rfl
 | s :: l,T,H,nx,hw,hok,hd=>by
  obtain⟨g0,dst,i⟩:=s;have E:g0=none:=X43 hok;subst E;rw[List.map_cons,M25,M25];show U18 P d call ⟨g,dst,i⟩ T H nx z _=_;rw[J31,J31,X10,X10 none,hd,G39];exact Q54 i dst T H nx _ _ fun v H nx=>M49 g k l _ H nx (K28 hw) (J23 hok) ((V21 hw hok).trans hd)
theorem X59(g:Option (Nat × Bool))(k:K0 Value->Y0->Nat->β):∀(l:List S) (T:K0 Value) (H:Y0) (nx:Nat),WF d T->okL d g l=true->Y9 g T=some false ->
  C9 P d call z k (l.map (Y8 g)) T H nx=Y15 d (fun T=>k T H nx) l T
 | [],T,H,nx,_,_,_=>rfl
 | s :: l,T,H,nx,hw,hok,hd=>by
  obtain⟨g0,dst,i⟩:=s;rw[List.map_cons,M25];show U18 P d call ⟨g,dst,i⟩ T H nx z _=_;rw[J31,X10,hd];simp only[Y15];rw[R46,R46];exact X59 g k l _ H nx (K28 hw) (J23 hok) ((V21 (s:=⟨g0,dst,i⟩) hw hok).trans hd)
end
def G54(d:Nat)(g:Option (Nat × Bool))(T:K0 Value)(E no:K0 Value->Prop):Prop:=
 match g with
 | none=>False
 | some (t,want)=>tgK T t False fun v=>match v with
  | .bool b=>ifK (cond b want (!want)) (tsK d T t (.bool want) E) (tsK d T t (.bool (!want)) no)
  | _=>False
theorem Q51{J no:K0 Value->Prop}(hw:WF d T)(hg:okT d g=true)(h:G54 d g T J no):(Y9 g T=some true/\J T)\/(Y9 g T=some false/\no T):=by
 unfold G54 at h;unfold Y9 V8
 cases g with
 | none=>exact h.elim
 | some tw=>
  obtain⟨t,E⟩:=tw;have ht:t<2^d:=by simpa [okT] using hg
  dsimp only at h ⊢;rw[J11] at h ⊢
  cases hv:tg T t with
  | none=>rw[hv] at h;exact h.elim
  | some v=>
   rw[hv] at h;dsimp only[aN] at h ⊢
   split at h
   .rename_i b
    dsimp only;rw[E14,Z15,Z15] at h;rw[E14]
    cases hb:cond b E (!E) with
    | true=>
     have:b=E:=by cases b<;>cases E<;>first | rfl | cases hb
     subst this;rw[hb,if_pos rfl,D49 d T t _ hw ht hv] at h;exact .inl ⟨rfl,h⟩
    | false=>
     have:b=(!E):=by cases b<;>cases E<;>first | rfl | cases hb
     subst this;rw[hb,if_neg (by simp),D49 d T t _ hw ht hv] at h;exact .inr ⟨rfl,h⟩
   .exact h.elim
def Q17(P:Program)(d:Nat)(k:K0 Value->Y0->Nat->Prop):List G->HT->K0 Value->Y0->Nat->Prop
 | [],_,T,H,nx=>k T H nx
 | (g,l) :: gs,ht,T,H,nx=>match ht with
  | .nil=>False
  | .one r=>V8 g T False (C9 P d (M8 P) False (Q17 P d k gs r) l T H nx) (Y15 d (fun T=>Q17 P d k gs r T H nx) l T)
  | .tst y n=>G54 d g T (fun T=>C9 P d (M8 P) False (Q17 P d k gs y) l T H nx) (fun T=>Y15 d (fun T=>Q17 P d k gs n T H nx) l T)
section
variable {P:Program} {d n:Nat} {ops:List Oper}
theorem W19{l2:List S}:∀ {l1:List S} {suf:List Oper},R3 P n ops suf=some (l1++l2)->∃ s1 s2,suf=s1++s2/\R3 P n ops s1=some l1/\R3 P n ops s2=some l2
 | [],suf,h=>⟨[],suf,rfl,rfl,h⟩
 | s :: l1,[],h=>by simp[R3] at h
 | s :: l1,o :: suf,h=>by
  simp only[R3] at h
  cases hs:K16 P n ops o with
  | none=>simp[hs] at h
  | some s'=>cases hl:R3 P n ops suf with
   | none=>simp[hs,hl] at h
   | some l'=>
    simp[hs,hl] at h;obtain⟨rfl,rfl⟩:=h;obtain⟨s1,s2,h1,h2,h3⟩:=W19 hl;exact⟨o :: s1,s2,by rw[h1];rfl,by simp[R3,hs,h2],h3⟩
theorem J34(g:Option (Nat × Bool)):∀(l:List S),Q10 (l.map (Y8 g))=Q10 l
 | []=>rfl
 | s :: l=>by simp[Q10,J34 g l,Y8]
def X28:List G->List Nat
 | []=>[]
 | (_,l) :: gs=>Q10 l++X28 gs
theorem W27{T:K0 Value}{k:K0 Value->Y0->Nat->Prop}(hw:WF d T)(E:okL d g l=true)
  (h:(Y9 g T=some true/\C9 P d (M8 P) False k l T H nx)\/(Y9 g T=some false/\Y15 d (fun T=>k T H nx) l T)):C9 P d (M8 P) False k (l.map (Y8 g)) T H nx:=by
 rcases h with ⟨hd,h⟩ | ⟨hd,h⟩
 .rw[M49 g k l T H nx hw E hd];exact h
 .rw[X59 g k l T H nx hw E hd];exact h
theorem D33(hn:n<=2^d)(k:K0 Value->Y0->Nat->Prop):∀(gs:List G) (ht:HT) (suf:List Oper) (i:Nat),R3 P n ops suf=some (Q11 gs)->(∀ j,j<suf.length->suf[j]? = ops[i+j]?)->okG d gs=true->∀(T:K0 Value) (H:Y0) (nx:Nat),WF d T ->
  Q17 P d k gs ht T H nx->∃ T' H' nx',k T' H' nx'/\WF d T'/\U8 n (X28 gs) T T' /\
   ∀(F:FM) (a:Act) (w:World) (Q:Exit->Act->World->Prop),TR d F T n a.tmps->HR F H nx w ->
    (∀ F' a' w',TR d F' T' n a'.tmps->N2 F H nx w F' H' nx' w'->a'.defers=a.defers->Q .normal a' w')->wpOps P ops.toArray Q (List.range' i suf.length) a w
 | [],ht,suf,i,hc,hsuf,hok,T,H,nx,hw,h=>by
  cases suf with
  | nil=>exact⟨T,H,nx,h,hw,U8.refl _ _ _,fun F a w Q ht hr hk=>hk F a w ht (N2.refl hr) rfl⟩
  | cons o suf=>
   simp only[Q11,R3] at hc
   split at hc<;>simp at hc
 | (g,l) :: gs,ht,suf,i,hc,hsuf,hok,T,H,nx,hw,h=>by
  simp only[okG,aG] at hok;obtain⟨s1,s2,rfl,V,a3⟩:=W19 hc;have a4:∃ E,C9 P d (M8 P) False (Q17 P d k gs E) (l.map (Y8 g)) T H nx:=by
   simp only[Q17] at h
   cases ht with
   | nil=>exact h.elim
   | one r=>
    dsimp only at h;rw[X10] at h;refine⟨r,W27 hw hok.1.1.1 ?_⟩
    cases hd:Y9 g T with
    | none=>rw[hd] at h;exact h.elim
    | some b=>
     rw[hd] at h
     cases b with
     | true=>exact .inl ⟨rfl,h⟩
     | false=>exact .inr ⟨rfl,h⟩
   | tst y m=>
    dsimp only at h;rcases Q51 hw hok.2 h with ⟨hd,h⟩ | ⟨hd,h⟩
    .exact⟨y,W27 hw hok.1.1.1 (.inl ⟨hd,h⟩)⟩
    .exact⟨m,W27 hw hok.1.1.1 (.inr ⟨hd,h⟩)⟩
  obtain⟨E,h'⟩:=a4;have Z:∀ j,j<s1.length->s1[j]? = ops[i+j]? := fun j hj=>by
   have:=hsuf j (by simp;omega);rw[bQ hj] at this;exact this
  have a6:∀ j,j<s2.length->s2[j]? = ops[i+s1.length+j]? := fun j hj=>by
   have:=hsuf (s1.length+j) (by simp;omega);rw[bS (by omega)] at this;simpa [eH] using this
  rcases D37 (d:=d) hn (X48 P) False (Q17 P d k gs E) s1 _ i V Z T H nx with h1 | ⟨T1,H1,nx1,h1,hw1,hp1⟩
  .rw[h1] at h';exact h'.elim
  .rw[h1] at h'
   obtain⟨T2,H2,nx2,h2,a5,a7,W⟩:=D33 hn k gs E s2 (i+s1.length) a3 a6 hok.1.2 T1 H1 nx1 (hw1 hw).1 h';refine⟨T2,H2,nx2,h2,a5,?_,fun F a w Q ht hr hk => ?_⟩
   .have:=(hw1 hw).2
    rw[J34] at this;exact this.trans a7
   .have e:List.range' i (s1++s2).length=List.range' i s1.length++List.range' (i+s1.length) s2.length:=by
     rw[bH,<- List.range'_append];simp
    rw[e];refine hp1 F a w Q _ ht hr fun F' a' w' E U a1 => ?_
    exact W F' a' w' Q E U.hr fun F2 a2 w2 a0 J O=>hk F2 a2 w2 a0 (U.trans J) (O.trans a1)
end
end
end Go.Clo
