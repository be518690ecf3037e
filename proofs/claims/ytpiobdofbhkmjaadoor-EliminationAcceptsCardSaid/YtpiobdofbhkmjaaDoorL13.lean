/-
  The executor as a claim: calls by their contracts,the look at a region's readings,groups of guarded operations.
  The executor as a claim: groups in a region that draws;code with its joins marked;what such a claim says.
-/
import Derived.Test.YtpiobdofbhkmjaaDoorL12
set_option linter.unusedSimpArgs false
set_option linter.unusedVariables false
set_option linter.unusedSectionVars false
namespace Go.Clo
variable {H:Y0} {T:U1 Value} {d nx:Nat} {g:Option (Nat × Bool)} {l:List S} {v:Value} {β:Type}
def J2 (P:Program) (f:FuncId) (args:List Value) (H:Y0) (nx:Nat) (Q:Value->Y0->Nat->Prop):Prop:=
 ∃ v H' nx',CS P f args H nx v H' nx'/\Q v H' nx'
def M12 (P:Program):B5 Prop:=fun f args H nx z k=>z\/J2 P f args H nx k
theorem V67 (P:Program):D19 P (M12 P):=by
 intro f args H nx z k
 by_cases hz:z
 .exact .inl (by unfold M12;simp[hz])
 .by_cases h:J2 P f args H nx k
  .obtain⟨v,H',nx',hcs,hk⟩:=h
   refine .inr ⟨v,H',nx',?_,hcs⟩
   unfold M12
   apply propext
   exact⟨fun _=>hk,fun _ => .inr ⟨v,H',nx',hcs,hk⟩⟩
  .exact .inl (by unfold M12;apply propext;exact⟨fun hh=>hh.elim id (fun hh=>absurd hh h),.inl⟩)
theorem J2.mono {P:Program} {f:FuncId} {args:List Value} {Q Q':Value->Y0->Nat->Prop} (h:J2 P f args H nx Q) (hq:∀ v H' nx',Q v H' nx'->Q' v H' nx'):J2 P f args H nx Q':=
 let ⟨v,H',nx',h1,h2⟩:=h;⟨v,H',nx',h1,hq _ _ _ h2⟩
noncomputable def K43 (P:Program) (ms:List Nat) (N:Nat) (as:List (Nat × V4)) (r:Rd):List Nat->List Y0->Y0->List Nat->Prop
 | es,Ms,M,later=>
  (cond (es.any (fun e=>X5 ms e r.i) || later.any (fun e=>X5 ms r.i e)) True
   (Y21 ms N es r.i M (fun h=>evR P r.r r.T h False fun v=>v=r.v) as)) /\
  (match es,Ms with
   | e :: es',M' :: Ms'=>cond (X5 ms r.i e) True (K43 P ms N as r es' Ms' M' (e :: later))
   | [],[]=>True
   | _,_=>False)
noncomputable def X75 (P:Program) (ms:List Nat) (N:Nat) (as:List (Nat × V4)) (es:List Nat) (Ms:List Y0) (H:Y0):List Rd->Prop
 | []=>True
 | r :: rs=>K43 P ms N as r es Ms H []/\X75 P ms N as es Ms H rs
noncomputable def E85 (P:Program):G20 Prop:=fun ms N as rs es Ms H y z=>(X75 P ms N as es Ms H rs/\y)\/z
theorem X48 {P:Program} {ms:List Nat} {N:Nat} {as:List (Nat × V4)} {r:Rd} {H0:Y0}:∀ (rc:List R6) (later:List Nat),K43 P ms N as r (U4 rc) (MsR H0 rc) (hR H0 rc) later->∀ (pre l':List R6),rc=pre++l' ->
  (∀ e,e ∈ U4 rc->e ∉ U4 l'->X5 ms r.i e=false)->(∀ e ∈ later,X5 ms r.i e=false)->(∀ e ∈ U4 l',X5 ms e r.i=false) ->
  evR P r.r r.T (Z14 N (fun j=>X5 ms r.i j && !D5 ms (U4 l') j) (hR H0 l') as) False (fun v=>v=r.v)
 | rc,later,h,[],l',e,_,h2,h3=>by
  simp at e;subst e
  rw[K43.eq_def] at h
  have c1:((U4 rc).any (fun e=>X5 ms e r.i) || later.any (fun e=>X5 ms r.i e))=false:=by
   rw[Bool.or_eq_false_iff]
   refine⟨?_,?_⟩
   .rw[List.any_eq_false];intro x hx;simp[h3 x hx]
   .rw[List.any_eq_false];intro x hx;simp[h2 x hx]
  have:=h.1
  rw[c1] at this
  simp only[cond_false] at this
  rw[X29] at this
  exact this
 | [],later,h,p :: pre,l',e,_,_,_=>by simp at e
 | r0 :: l,later,h,p :: pre,l',e,h1,h2,h3=>by
  simp at e
  obtain⟨rfl,rfl⟩:=e
  cases hinf:r0.inf with
  | e H' nx'=>
   simp only[U4,MsR,hR,hinf] at h
   rw[K43.eq_def] at h
   have hb:=h.2
   dsimp only at hb
   have hidx:X5 ms r.i (pre++l').length=false:=h1 _ (by simp[U4,hinf]) (fun hm=>by have:=W30 hm;simp at this;omega)
   rw[hidx] at hb
   simp only[cond_false] at hb
   refine X48 (pre++l') _ hb pre l' rfl (fun e he hn=>h1 e (by simp[U4,hinf,he]) hn) ?_ h3
   intro e he
   rcases List.mem_cons.1 he with rfl | he
   .exact hidx
   .exact h2 e he
  | _=>
   simp only[U4,MsR,hR,hinf] at h
   exact X48 (pre++l') later h pre l' rfl (fun e he hn=>h1 e (by simp[U4,hinf,he]) hn) h2 h3
theorem N66 {P:Program} {ms:List Nat} {N:Nat} {as:List (Nat × V4)} {es:List Nat} {Ms:List Y0} {H:Y0}:∀ {rs:List Rd},X75 P ms N as es Ms H rs->∀ r ∈ rs,K43 P ms N as r es Ms H []
 | [],_,r,hr=>by cases hr
 | r0 :: rs,h,r,hr=>by
  rcases List.mem_cons.1 hr with rfl | hr
  .exact h.1
  .exact N66 h.2 r hr
theorem G90 (P:Program):D52 P (E85 P):=by
 intro d n ops N H0 rc y z
 unfold E85
 by_cases hz:z
 .exact .inl (by apply propext;simp[hz])
 .by_cases hall:X75 P (Z3 ops) N (E6 rc) (U4 rc) (MsR H0 rc) (hR H0 rc) (rsR rc)
  .refine .inr ⟨by apply propext;simp[hall,hz],fun r hr pre l' hsuf h1 h2 nx o hc => ?_⟩
   have hsame:=X48 rc [] (N66 hall r hr) pre l' hsuf h1 (by simp) h2
   rcases V51 (P:=P) (d:=d) (n:=n) (nx:=nx) (o:=o) (T:=r.T) (H:=Z14 N (fun j=>X5 (Z3 ops) r.i j && !D5 (Z3 ops) (U4 l') j) (hR H0 l') (E6 rc)) hc False (fun v=>v=r.v) with h | ⟨v,h,hrv⟩
   .rw[h] at hsame;exact hsame.elim
   .rw[h] at hsame
    rw[<- hsame];exact hrv
  .exact .inl (by apply propext;simp[hall])
noncomputable def K15 (g:Option (Nat × Bool)) (T:U1 Value):Option Bool:=V14 g T none (some true) (some false)
theorem Q16 (g:Option (Nat × Bool)) (T:U1 Value) (z yes no:β):V14 g T z yes no=match K15 g T with | none=>z | some true=>yes | some false=>no:=by
 unfold K15 V14
 cases g with
 | none=>rfl
 | some tw=>
  obtain⟨t,want⟩:=tw
  dsimp only
  rw[R20,R20]
  cases tg T t with
  | none=>rfl
  | some v=>
   dsimp only[Option.elim_some]
   cases v<;>try rfl
   rename_i b
   dsimp only
   rw[D22,D22]
   cases b<;>cases want<;>rfl
theorem V84 {t q:Nat} {want:Bool} (hw:WF d T) (ht:t<2^d) (hq:q<2^d) (hne:q≠t):K15 (some (t,want)) (ts d T q v)=K15 (some (t,want)) T:=by
 unfold K15 V14
 dsimp only
 rw[R20,R20,Z32 d T q t v hw hq ht,if_neg (Ne.symm hne)]
theorem G69 {α:Type}:∀ (d:Nat) (T:U1 α) (t:Nat) (v:α),WF d T->t<2^d->tg T t=some v->ts d T t v=T:=by
 intro d
 induction d with
 | zero=>
  intro T t v hw ht hg
  cases T with
  | leaf=>simp at hg
  | tip a=>simp at hg;subst hg;rfl
  | node l r=>exact hw.elim
 | succ d ih=>
  intro T t v hw ht hg
  have ht2:t/2<2^d:=by rw[Nat.pow_succ] at ht;omega
  cases T with
  | leaf=>simp at hg
  | tip a=>exact hw.elim
  | node l r=>
   rw[N54] at hg
   rw[U56]
   dsimp only
   split at hg
   .rename_i h;rw[if_pos h,ih l _ v hw.1 ht2 hg]
   .rename_i h;rw[if_neg h,ih r _ v hw.2 ht2 hg]
def okT (d:Nat):Option (Nat × Bool)->Bool
 | none=>true
 | some (t,_)=>Nat.blt t (2^d)
inductive HT where
 | nil
 | one (r:HT)
 | tst (y n:HT)
abbrev G:=Option (Nat × Bool) × List S
def D13 (g:Option (Nat × Bool)) (s:S):S:=⟨g,s.dst,s.i⟩
def W19:List G->List S
 | []=>[]
 | (g,l) :: gs=>l.map (D13 g)++W19 gs
def okL (d:Nat) (g:Option (Nat × Bool)):List S->Bool
 | []=>true
 | s :: l=>(match s.guard with | none=>true | some _=>false)&&(match g,s.dst with
  | some (t,_),some q=>Nat.blt t (2^d)&&Nat.blt q (2^d) && !(Nat.beq q t)
  | _,_=>true)&&okL d g l
def okG (d:Nat):List G->Bool
 | []=>true
 | (g,l) :: gs=>okL d g l&&(match l with | []=>false | _=>true)&&okG d gs&&okT d g
noncomputable def B23 {β:Type} (d:Nat) (k:U1 Value->β):List S->U1 Value->β
 | [],T=>k T
 | s :: l,T=>Z9 d s.dst undef T fun T=>B23 d k l T
noncomputable def U48 (d:Nat) (dst:Option Nat) (v:Value) (T:U1 Value):U1 Value:=
 match dst with
 | none=>T
 | some t=>ts d T t v
theorem U10 (d:Nat) (dst:Option Nat) (v:Value) (T:U1 Value) (k:U1 Value->β):Z9 d dst v T k=k (U48 d dst v T):=by
 cases dst with
 | none=>rfl
 | some t=>exact X23 d T t v k
theorem U44 {dst:Option Nat} (h:WF d T):WF d (U48 d dst v T):=by
 cases dst with
 | none=>exact h
 | some t=>exact B25 d T t v h
theorem C32 {s:S} (hw:WF d T) (hok:okL d g (s :: l)=true):K15 g (U48 d s.dst v T)=K15 g T:=by
 cases g with
 | none=>rfl
 | some tw=>
  obtain⟨t,want⟩:=tw
  cases hd:s.dst with
  | none=>rfl
  | some q=>
   simp only[okL,hd,Bool.and_eq_true,Nat.blt_eq] at hok
   exact V84 hw hok.1.2.1.1 hok.1.2.1.2 (by rintro rfl;have:=hok.1.2.2;simp at this)
theorem K38 {s:S} (h:okL d g (s :: l)=true):okL d g l=true:=by
 simp only[okL,Bool.and_eq_true] at h;exact h.2
theorem J63 {s:S} (h:okL d g (s :: l)=true):s.guard=none:=by
 simp only[okL,Bool.and_eq_true] at h
 cases hg:s.guard with
 | none=>rfl
 | some _=>rw[hg] at h;cases h.1.1
section
variable {β:Type} {P:Program} {d:Nat} {call:B5 β} {z:β}
theorem D26 (k:U1 Value->Y0->Nat->β) (s:S) (l:List S) (T:U1 Value) (H:Y0) (nx:Nat):Y14 P d call z k (s :: l) T H nx=E28 P d call s T H nx z (Y14 P d call z k l):=rfl
theorem M48 (g:Option (Nat × Bool)) (dst:Option Nat) (i:I) (T:U1 Value) (H:Y0) (nx:Nat) (k:U1 Value->Y0->Nat->β):
  E28 P d call ⟨g,dst,i⟩ T H nx z k=V14 g T z (E47 i P d dst call T H nx z k) (Z9 d dst undef T fun T=>k T H nx):=rfl
theorem Q68 (k:U1 Value->Y0->Nat->β) (l2:List S):∀ (l1:List S),Y14 P d call z k (l1++l2)=Y14 P d call z (Y14 P d call z k l2) l1
 | []=>rfl
 | s :: l1=>by
  funext T H nx
  rw[List.cons_append,D26,D26,Q68 k l2 l1]
theorem U59 (T:U1 Value):K15 none T=some true:=rfl
theorem Q76 (i:I) (dst:Option Nat) (T:U1 Value) (H:Y0) (nx:Nat) (k k':U1 Value->Y0->Nat->β) (h:∀ v H nx,k (U48 d dst v T) H nx=k' (U48 d dst v T) H nx):
  E47 i P d dst call T H nx z k=E47 i P d dst call T H nx z k':=by
 cases i with
 | p i=>
  show Q7 P i T z (fun v=>Z9 d dst v T fun T=>k T H nx)=Q7 P i T z (fun v=>Z9 d dst v T fun T=>k' T H nx)
  congr 1;funext v;rw[U10,U10,h]
 | r i=>
  show evR P i T H z (fun v=>Z9 d dst v T fun T=>k T H nx)=evR P i T H z (fun v=>Z9 d dst v T fun T=>k' T H nx)
  congr 1;funext v;rw[U10,U10,h]
 | a i=>
  show evA i T z (J54 d dst T H nx k)=evA i T z (J54 d dst T H nx k')
  congr 1;funext b y;unfold J54;rw[Y8,Y8,N2,N2,J8,J8,U10,U10,h]
 | e i=>
  show evE i call T H nx z (fun v H nx=>Z9 d dst v T fun T=>k T H nx)=evE i call T H nx z (fun v H nx=>Z9 d dst v T fun T=>k' T H nx)
  congr 1;funext v H nx;rw[U10,U10,h]
theorem B69 (g:Option (Nat × Bool)) (k:U1 Value->Y0->Nat->β):∀ (l:List S) (T:U1 Value) (H:Y0) (nx:Nat),WF d T->okL d g l=true->K15 g T=some true ->
  Y14 P d call z k (l.map (D13 g)) T H nx=Y14 P d call z k l T H nx
 | [],T,H,nx,_,_,_=>rfl
 | s :: l,T,H,nx,hw,hok,hd=>by
  obtain⟨g0,dst,i⟩:=s
  have hg0:g0=none:=J63 hok
  subst hg0
  rw[List.map_cons,D26,D26]
  show E28 P d call ⟨g,dst,i⟩ T H nx z _=_
  rw[M48,M48,Q16,Q16 none,hd,U59]
  exact Q76 i dst T H nx _ _ fun v H nx=>B69 g k l _ H nx (U44 hw) (K38 hok) ((C32 hw hok).trans hd)
theorem R83 (g:Option (Nat × Bool)) (k:U1 Value->Y0->Nat->β):∀ (l:List S) (T:U1 Value) (H:Y0) (nx:Nat),WF d T->okL d g l=true->K15 g T=some false ->
  Y14 P d call z k (l.map (D13 g)) T H nx=B23 d (fun T=>k T H nx) l T
 | [],T,H,nx,_,_,_=>rfl
 | s :: l,T,H,nx,hw,hok,hd=>by
  obtain⟨g0,dst,i⟩:=s
  rw[List.map_cons,D26]
  show E28 P d call ⟨g,dst,i⟩ T H nx z _=_
  rw[M48,Q16,hd]
  simp only[B23]
  rw[U10,U10]
  exact R83 g k l _ H nx (U44 hw) (K38 hok) ((C32 (s:=⟨g0,dst,i⟩) hw hok).trans hd)
end
noncomputable def R72 (d:Nat) (g:Option (Nat × Bool)) (T:U1 Value) (yes no:U1 Value->Prop):Prop:=
 match g with
 | none=>False
 | some (t,want)=>tgK T t False fun v=>match v with
  | .bool b=>ifK (cond b want (!want)) (tsK d T t (.bool want) yes) (tsK d T t (.bool (!want)) no)
  | _=>False
theorem J69 {yes no:U1 Value->Prop} (hw:WF d T) (hg:okT d g=true) (h:R72 d g T yes no):(K15 g T=some true/\yes T)\/(K15 g T=some false/\no T):=by
 unfold R72 at h
 unfold K15 V14
 cases g with
 | none=>exact h.elim
 | some tw=>
  obtain⟨t,want⟩:=tw
  have ht:t<2^d:=by simpa [okT] using hg
  dsimp only at h ⊢
  rw[R20] at h ⊢
  cases hv:tg T t with
  | none=>rw[hv] at h;exact h.elim
  | some v=>
   rw[hv] at h
   dsimp only[Option.elim_some] at h ⊢
   split at h
   .rename_i b
    dsimp only
    rw[D22,X23,X23] at h
    rw[D22]
    cases hb:cond b want (!want) with
    | true=>
     have:b=want:=by cases b<;>cases want<;>first | rfl | cases hb
     subst this
     rw[hb,if_pos rfl,G69 d T t _ hw ht hv] at h
     exact .inl ⟨rfl,h⟩
    | false=>
     have:b=(!want):=by cases b<;>cases want<;>first | rfl | cases hb
     subst this
     rw[hb,if_neg (by simp),G69 d T t _ hw ht hv] at h
     exact .inr ⟨rfl,h⟩
   .exact h.elim
noncomputable def K28 (P:Program) (d:Nat) (k:U1 Value->Y0->Nat->Prop):List G->HT->U1 Value->Y0->Nat->Prop
 | [],_,T,H,nx=>k T H nx
 | (g,l) :: gs,ht,T,H,nx=>match ht with
  | .nil=>False
  | .one r=>V14 g T False (Y14 P d (M12 P) False (K28 P d k gs r) l T H nx) (B23 d (fun T=>K28 P d k gs r T H nx) l T)
  | .tst y n=>R72 d g T (fun T=>Y14 P d (M12 P) False (K28 P d k gs y) l T H nx) (fun T=>B23 d (fun T=>K28 P d k gs n T H nx) l T)
section
variable {P:Program} {d n:Nat} {ops:List Oper}
theorem Y30 {l2:List S}:∀ {l1:List S} {suf:List Oper},Y7 P n ops suf=some (l1++l2)->∃ s1 s2,suf=s1++s2/\Y7 P n ops s1=some l1/\Y7 P n ops s2=some l2
 | [],suf,h=>⟨[],suf,rfl,rfl,h⟩
 | s :: l1,[],h=>by simp[Y7] at h
 | s :: l1,o :: suf,h=>by
  simp only[Y7] at h
  cases hs:D25 P n ops o with
  | none=>simp[hs] at h
  | some s'=>cases hl:Y7 P n ops suf with
   | none=>simp[hs,hl] at h
   | some l'=>
    simp[hs,hl] at h
    obtain⟨rfl,rfl⟩:=h
    obtain⟨s1,s2,h1,h2,h3⟩:=Y30 hl
    exact⟨o :: s1,s2,by rw[h1];rfl,by simp[Y7,hs,h2],h3⟩
theorem R52 (g:Option (Nat × Bool)):∀ (l:List S),X17 (l.map (D13 g))=X17 l
 | []=>rfl
 | s :: l=>by simp[X17,R52 g l,D13]
def M43:List G->List Nat
 | []=>[]
 | (_,l) :: gs=>X17 l++M43 gs
theorem J40 {T:U1 Value} {k:U1 Value->Y0->Nat->Prop} (hw:WF d T) (hok:okL d g l=true)
  (h:(K15 g T=some true/\Y14 P d (M12 P) False k l T H nx)\/(K15 g T=some false/\B23 d (fun T=>k T H nx) l T)):Y14 P d (M12 P) False k (l.map (D13 g)) T H nx:=by
 rcases h with ⟨hd,h⟩ | ⟨hd,h⟩
 .rw[B69 g k l T H nx hw hok hd];exact h
 .rw[R83 g k l T H nx hw hok hd];exact h
theorem G50 (hn:n<=2^d) (k:U1 Value->Y0->Nat->Prop):∀ (gs:List G) (ht:HT) (suf:List Oper) (i:Nat),Y7 P n ops suf=some (W19 gs)->(∀ j,j<suf.length->suf[j]? = ops[i+j]?)->okG d gs=true->∀ (T:U1 Value) (H:Y0) (nx:Nat),WF d T ->
  K28 P d k gs ht T H nx->∃ T' H' nx',k T' H' nx'/\WF d T'/\Agr n (M43 gs) T T' /\
   ∀ (F:FM) (a:Act) (w:World) (Q:Exit->Act->World->Prop),TR d F T n a.tmps->HR F H nx w ->
    (∀ F' a' w',TR d F' T' n a'.tmps->U5 F H nx w F' H' nx' w'->a'.defers=a.defers->Q .normal a' w')->wpOps P ops.toArray Q (List.range' i suf.length) a w
 | [],ht,suf,i,hc,hsuf,hok,T,H,nx,hw,h=>by
  cases suf with
  | nil=>exact⟨T,H,nx,h,hw,Agr.refl _ _ _,fun F a w Q ht hr hk=>hk F a w ht (U5.refl hr) rfl⟩
  | cons o suf=>
   simp only[W19,Y7] at hc
   split at hc<;>simp at hc
 | (g,l) :: gs,ht,suf,i,hc,hsuf,hok,T,H,nx,hw,h=>by
  simp only[okG,Bool.and_eq_true] at hok
  obtain⟨s1,s2,rfl,hc1,hc2⟩:=Y30 hc
  have way:∃ ht',Y14 P d (M12 P) False (K28 P d k gs ht') (l.map (D13 g)) T H nx:=by
   simp only[K28] at h
   cases ht with
   | nil=>exact h.elim
   | one r=>
    dsimp only at h
    rw[Q16] at h
    refine⟨r,J40 hw hok.1.1.1 ?_⟩
    cases hd:K15 g T with
    | none=>rw[hd] at h;exact h.elim
    | some b=>
     rw[hd] at h
     cases b with
     | true=>exact .inl ⟨rfl,h⟩
     | false=>exact .inr ⟨rfl,h⟩
   | tst y m=>
    dsimp only at h
    rcases J69 hw hok.2 h with ⟨hd,h⟩ | ⟨hd,h⟩
    .exact⟨y,J40 hw hok.1.1.1 (.inl ⟨hd,h⟩)⟩
    .exact⟨m,J40 hw hok.1.1.1 (.inr ⟨hd,h⟩)⟩
  obtain⟨ht',h'⟩:=way
  have hs1:∀ j,j<s1.length->s1[j]? = ops[i+j]? := fun j hj=>by
   have:=hsuf j (by simp;omega)
   rw[List.getElem?_append_left hj] at this;exact this
  have hs2:∀ j,j<s2.length->s2[j]? = ops[i+s1.length+j]? := fun j hj=>by
   have:=hsuf (s1.length+j) (by simp;omega)
   rw[List.getElem?_append_right (by omega)] at this
   simpa [Nat.add_assoc] using this
  rcases J55 (d:=d) hn (V67 P) False (K28 P d k gs ht') s1 _ i hc1 hs1 T H nx with h1 | ⟨T1,H1,nx1,h1,hw1,hp1⟩
  .rw[h1] at h';exact h'.elim
  .rw[h1] at h'
   obtain⟨T2,H2,nx2,h2,hw2,hg2,hp2⟩:=G50 hn k gs ht' s2 (i+s1.length) hc2 hs2 hok.1.2 T1 H1 nx1 (hw1 hw).1 h'
   refine⟨T2,H2,nx2,h2,hw2,?_,fun F a w Q ht hr hk => ?_⟩
   .have:=(hw1 hw).2
    rw[R52] at this
    exact this.trans hg2
   .have e:List.range' i (s1++s2).length=List.range' i s1.length++List.range' (i+s1.length) s2.length:=by
     rw[List.length_append,<- List.range'_append];simp
    rw[e]
    refine hp1 F a w Q _ ht hr fun F' a' w' ht' hst hdf => ?_
    exact hp2 F' a' w' Q ht' hst.hr fun F2 a2 w2 ht2 hst2 hdf2=>hk F2 a2 w2 ht2 (hst.trans hst2) (hdf2.trans hdf)
end
end Go.Clo

namespace Go.Clo
variable {T:U1 Value} {d n:Nat}
abbrev DK (β:Type):=U1 Value->Y0->Nat->List Y0->List Nat->List (Nat × V4)->List Rd->β
section
variable {β:Type} {P:Program} {d:Nat} {call:B5 β} {z:β} {ms:List Nat} {N:Nat}
noncomputable def R61 (P:Program) (d:Nat) (call:B5 β) (ms:List Nat) (N:Nat) (z:β) (k:DK β) (dst:Option Nat) (op:I) (i:Nat):DK β:=fun T H nx Ms es as rs=>
 match op with
   | .p op=>Q7 P op T z fun v=>Z9 d dst v T fun T=>k T H nx Ms es as rs
   | .r op=>Y21 ms N es i H (fun h=>evR P op T h z fun v=>Z9 d dst v T fun T'=>k T' H nx Ms es as (⟨i,op,T,v⟩ :: rs)) as
   | .a op=>evA op T z fun b y=>E2 (N+i) fun q=>W1 (y.val q) fun v=>Z9 d dst v T fun T=>k T H nx Ms es ((i,b) :: as) rs
   | .e op=>cond (es.all fun e=>X5 ms i e)
    (Y21 ms N es i H (fun h=>evE op call T h nx z fun v H' nx=>Z9 d dst v T fun T=>k T H' nx (H :: Ms) (i :: es) as rs) as) z
theorem V37 (k:DK β) (g:Option (Nat × Bool)) (dst:Option Nat) (op:I) (l:List S) (i:Nat) (T:U1 Value) (H:Y0) (nx:Nat) (Ms:List Y0) (es:List Nat) (as:List (Nat × V4)) (rs:List Rd):
  K7 P d call ms N z k (⟨g,dst,op⟩ :: l) i T H nx Ms es as rs=V14 g T z (R61 P d call ms N z (K7 P d call ms N z k l (i+1)) dst op i T H nx Ms es as rs)
   (Z9 d dst undef T fun T=>K7 P d call ms N z k l (i+1) T H nx Ms es as rs):=rfl
theorem E67 (k k':DK β) (dst:Option Nat) (op:I) (i:Nat) (T:U1 Value) (H:Y0) (nx:Nat) (Ms:List Y0) (es:List Nat) (as:List (Nat × V4)) (rs:List Rd)
  (h:∀ v H nx Ms es as rs,k (U48 d dst v T) H nx Ms es as rs=k' (U48 d dst v T) H nx Ms es as rs):R61 P d call ms N z k dst op i T H nx Ms es as rs=R61 P d call ms N z k' dst op i T H nx Ms es as rs:=by
 unfold R61
 cases op with
 | p op=>dsimp only;congr 1;funext v;rw[U10,U10,h]
 | r op=>dsimp only;congr 1;funext hh;congr 1;funext v;rw[U10,U10,h]
 | a op=>dsimp only;congr 1;funext b y;rw[N2,N2,N7,N7,U10,U10,h]
 | e op=>dsimp only;congr 1;congr 1;funext hh;congr 1;funext v H' nx';rw[U10,U10,h]
theorem B63 (g:Option (Nat × Bool)) (k:DK β):∀ (l:List S) (i:Nat) (T:U1 Value) (H:Y0) (nx:Nat) (Ms:List Y0) (es:List Nat) (as:List (Nat × V4)) (rs:List Rd),WF d T->okL d g l=true->K15 g T=some true ->
  K7 P d call ms N z k (l.map (D13 g)) i T H nx Ms es as rs=K7 P d call ms N z k l i T H nx Ms es as rs
 | [],i,T,H,nx,Ms,es,as,rs,_,_,_=>rfl
 | s :: l,i,T,H,nx,Ms,es,as,rs,hw,hok,hd=>by
  obtain⟨g0,dst,op⟩:=s
  have hg0:g0=none:=J63 hok
  subst hg0
  show K7 P d call ms N z k (⟨g,dst,op⟩ :: l.map (D13 g)) i T H nx Ms es as rs=_
  rw[V37,V37,Q16,Q16 none,hd,U59]
  exact E67 _ _ dst op i T H nx Ms es as rs fun v H nx Ms es as rs=>B63 g k l (i+1) _ H nx Ms es as rs (U44 hw) (K38 hok) ((C32 hw hok).trans hd)
theorem W70 (g:Option (Nat × Bool)) (k:DK β):∀ (l:List S) (i:Nat) (T:U1 Value) (H:Y0) (nx:Nat) (Ms:List Y0) (es:List Nat) (as:List (Nat × V4)) (rs:List Rd),WF d T->okL d g l=true->K15 g T=some false ->
  K7 P d call ms N z k (l.map (D13 g)) i T H nx Ms es as rs=B23 d (fun T=>k T H nx Ms es as rs) l T
 | [],i,T,H,nx,Ms,es,as,rs,_,_,_=>rfl
 | s :: l,i,T,H,nx,Ms,es,as,rs,hw,hok,hd=>by
  obtain⟨g0,dst,op⟩:=s
  show K7 P d call ms N z k (⟨g,dst,op⟩ :: l.map (D13 g)) i T H nx Ms es as rs=_
  rw[V37,Q16,hd]
  simp only[B23]
  rw[U10,U10]
  exact W70 g k l (i+1) _ H nx Ms es as rs (U44 hw) (K38 hok) ((C32 (s:=⟨g0,dst,op⟩) hw hok).trans hd)
end
noncomputable def C26 (P:Program) (d:Nat) (ms:List Nat) (N:Nat) (k:DK Prop):List G->HT->Nat->DK Prop
 | [],_,_,T,H,nx,Ms,es,as,rs=>k T H nx Ms es as rs
 | (g,l) :: gs,ht,i,T,H,nx,Ms,es,as,rs=>match ht with
  | .nil=>False
  | .one r=>V14 g T False
   (K7 P d (M12 P) ms N False (fun T H nx Ms es as rs=>C26 P d ms N k gs r (i+l.length) T H nx Ms es as rs) l i T H nx Ms es as rs)
   (B23 d (fun T=>C26 P d ms N k gs r (i+l.length) T H nx Ms es as rs) l T)
  | .tst y n=>R72 d g T
   (fun T=>K7 P d (M12 P) ms N False (fun T H nx Ms es as rs=>C26 P d ms N k gs y (i+l.length) T H nx Ms es as rs) l i T H nx Ms es as rs)
   (fun T=>B23 d (fun T=>C26 P d ms N k gs n (i+l.length) T H nx Ms es as rs) l T)
theorem B48 {P:Program} {ms:List Nat} {N:Nat} {g:Option (Nat × Bool)} {l:List S} {i:Nat} {T:U1 Value} {H:Y0} {nx:Nat} {Ms:List Y0} {es:List Nat} {as:List (Nat × V4)} {rs:List Rd} {k:DK Prop} (hw:WF d T) (hok:okL d g l=true)
  (h:(K15 g T=some true/\K7 P d (M12 P) ms N False k l i T H nx Ms es as rs)\/(K15 g T=some false/\B23 d (fun T=>k T H nx Ms es as rs) l T)):K7 P d (M12 P) ms N False k (l.map (D13 g)) i T H nx Ms es as rs:=by
 rcases h with ⟨hd,h⟩ | ⟨hd,h⟩
 .rw[B63 g k l i T H nx Ms es as rs hw hok hd];exact h
 .rw[W70 g k l i T H nx Ms es as rs hw hok hd];exact h
theorem W58 {P:Program} {d n:Nat} {ops:List Oper} {N:Nat} {H0:Y0} {n0:Nat} {T0:U1 Value} (hn:n<=2^d) (k:DK Prop):
  ∀ (gs:List G) (ht:HT) (suf:List Oper) (rc:List R6) (T:U1 Value),Y7 P n ops suf=some (W19 gs)->(∀ j,j<suf.length->suf[j]? = ops[rc.length+j]?)->okG d gs=true->U19 P d n ops N H0 n0 T0 rc->WF d T->(∀ t,t<n->(tg T t).getD undef=U18 ops T0 rc t) ->
  C26 P d (Z3 ops) N k gs ht rc.length T (hR H0 rc) (nR n0 rc) (MsR H0 rc) (U4 rc) (E6 rc) (rsR rc) ->
  ∃ rc' T',rc'.length=rc.length+suf.length/\U19 P d n ops N H0 n0 T0 rc'/\WF d T'/\(∀ t,t<n->(tg T' t).getD undef=U18 ops T0 rc' t) /\
   k T' (hR H0 rc') (nR n0 rc') (MsR H0 rc') (U4 rc') (E6 rc') (rsR rc')
 | [],ht,suf,rc,T,hc,hsuf,hok,hall,hw,hT,h=>by
  cases suf with
  | nil=>exact⟨rc,T,rfl,hall,hw,hT,h⟩
  | cons o suf=>
   simp only[W19,Y7] at hc
   split at hc<;>simp at hc
 | (g,l) :: gs,ht,suf,rc,T,hc,hsuf,hok,hall,hw,hT,h=>by
  simp only[okG,Bool.and_eq_true] at hok
  obtain⟨s1,s2,rfl,hc1,hc2⟩:=Y30 hc
  have hl1:l.length=s1.length:=by have:=V28 hc1;simpa using this
  have way:∃ ht',K7 P d (M12 P) (Z3 ops) N False (fun T H nx Ms es as rs=>C26 P d (Z3 ops) N k gs ht' (rc.length+l.length) T H nx Ms es as rs) (l.map (D13 g)) rc.length T (hR H0 rc) (nR n0 rc) (MsR H0 rc) (U4 rc) (E6 rc) (rsR rc):=by
   simp only[C26] at h
   cases ht with
   | nil=>exact h.elim
   | one r=>
    dsimp only at h
    rw[Q16] at h
    refine⟨r,B48 hw hok.1.1.1 ?_⟩
    cases hd:K15 g T with
    | none=>rw[hd] at h;exact h.elim
    | some b=>
     rw[hd] at h
     cases b with
     | true=>exact .inl ⟨rfl,h⟩
     | false=>exact .inr ⟨rfl,h⟩
   | tst y m=>
    dsimp only at h
    rcases J69 hw hok.2 h with ⟨hd,h⟩ | ⟨hd,h⟩
    .exact⟨y,B48 hw hok.1.1.1 (.inl ⟨hd,h⟩)⟩
    .exact⟨m,B48 hw hok.1.1.1 (.inr ⟨hd,h⟩)⟩
  obtain⟨ht',h'⟩:=way
  have hs1:∀ j,j<s1.length->s1[j]? = ops[rc.length+j]? := fun j hj=>by
   have:=hsuf j (by simp;omega)
   rw[List.getElem?_append_left hj] at this;exact this
  rcases E46 (N:=N) (H0:=H0) (n0:=n0) (T0:=T0) (V67 P) hn False _ s1 _ rc T hc1 hs1 hall hw hT with h1 | ⟨rc1,T1,hlen,hall1,hw1,hT1,h1⟩
  .rw[h1] at h';exact h'.elim
  .rw[h1] at h'
   have hs2:∀ j,j<s2.length->s2[j]? = ops[rc1.length+j]? := fun j hj=>by
    have:=hsuf (s1.length+j) (by simp;omega)
    rw[List.getElem?_append_right (by omega)] at this
    rw[hlen]
    simpa [Nat.add_assoc] using this
   rw[hl1,<- hlen] at h'
   obtain⟨rc2,T2,g1,g2,g3,g4,g5⟩:=W58 hn k gs ht' s2 rc1 T1 hc2 hs2 hok.1.2 hall1 hw1 hT1 h'
   exact⟨rc2,T2,by simp;omega,g2,g3,g4,g5⟩
inductive D where
 | skip
 | ops (gs:List G) (ht:HT)
 | draw (ms:List Nat) (gs:List G) (ht:HT)
 | seq (a b:D)
 | join (ws ds:List Nat) (a b:D)
 | cond (x:X) (t e:D)
 | block (id:Nat) (c:D)
 | loop (ws ds:List Nat) (c:D)
 | exit (id:Nat)
 | ret
def D.erase:D->C
 | .skip => .skip
 | .ops gs _ => .ops (W19 gs)
 | .draw ms gs _ => .draw ms (W19 gs)
 | .seq a b => .seq a.erase b.erase
 | .join _ _ a b => .seq a.erase b.erase
 | .cond x t e => .cond x t.erase e.erase
 | .block id c => .block id c.erase
 | .loop _ _ c => .loop c.erase
 | .exit id => .exit id
 | .ret => .ret
def D.writes:D->List Nat
 | .ops gs _=>M43 gs
 | .draw _ gs _=>M43 gs
 | .seq a b=>a.writes++b.writes
 | .join ws ds a b=>a.writes++((ws++ds)++b.writes)
 | .cond _ t e=>t.writes++e.writes
 | .block _ c=>c.writes
 | .loop ws ds c=>(ws++ds)++c.writes
 | _=>[]
def E76 (a b:List Nat):Bool:=a.all fun x=>b.any fun y=>Nat.beq x y
def M73 (n:Nat) (l:List Nat):Bool:=l.all fun x=>Nat.blt x n
def B31:List Nat->Bool
 | []=>true
 | x :: l => !(l.any fun y=>Nat.beq x y)&&B31 l
def D.ok (n d:Nat):D->Bool
 | .ops gs _=>okG d gs
 | .draw _ gs _=>okG d gs
 | .seq a b=>a.ok n d&&b.ok n d
 | .join ws ds a b=>E76 a.writes (ws++ds)&&M73 n (ws++ds)&&B31 ws&&a.ok n d&&b.ok n d
 | .cond _ t e=>t.ok n d&&e.ok n d
 | .block _ c=>c.ok n d
 | .loop ws ds c=>E76 c.writes (ws++ds)&&M73 n (ws++ds)&&B31 ws&&c.ok n d
 | _=>true
abbrev JK:=List Value->Y0->Nat->Prop
noncomputable def G33 {β:Type} (T:U1 Value) (ws:List Nat):(List Value->β)->β:=
 @List.rec Nat (fun _=>(List Value->β)->β) (fun k=>k []) (fun w _ ih k=>tgK T w (ih fun vs=>k (undef :: vs)) fun v=>ih fun vs=>k (v :: vs)) ws
noncomputable def N36 {β:Type} (d:Nat) (L:List Value):List Nat->Nat->U1 Value->(U1 Value->β)->β
 | [],_,T,k=>k T
 | w :: ws,i,T,k=>tsK d T w (L.getD i undef) fun T=>N36 d L ws (i+1) T k
noncomputable def C37 {β:Type} (d:Nat):List Nat->U1 Value->(U1 Value->β)->β
 | [],T,k=>k T
 | w :: ws,T,k=>tsK d T w Q50 fun T=>C37 d ws T k
def B4 (body:JK->Prop) (rest:JK):Prop:=body rest
noncomputable def J52 (F:JK->JK) (m:Nat):JK:=@Nat.rec (fun _=>JK) (fun _ _ _=>False) (fun _ ih=>F ih) m
def B3 (F:JK->JK) (L:List Value) (H:Y0) (nx:Nat):Prop:=∃ m,J52 F m L H nx
def G2 (v:Value) (t e:Prop):Prop:=
 match v with
 | .bool b=>ifK b t e
 | _=>False
noncomputable def wD (P:Program) (d:Nat) (c:D):U1 Value->Y0->Nat->K Prop->(Nat->K Prop)->K Prop->Prop:=
 match c with
 | .skip=>fun T H nx k _ _=>k T H nx
 | .ops gs ht=>fun T H nx k _ _=>K28 P d k gs ht T H nx
 | .draw ms gs ht=>fun T H nx k _ _=>E2 (nx+(W19 gs).length) fun nx'=>
   C26 P d ms nx (fun T H n Ms es as rs=>E85 P ms nx as rs es Ms H (M20 ms nx es H (fun H=>k T H n) as) False) gs ht 0 T H nx' [] [] [] []
 | .seq a b=>fun T H nx k x r=>wD P d a T H nx (fun T H nx=>wD P d b T H nx k x r) x r
 | .join ws ds a b=>fun T H nx k x r=>B4 (fun j=>wD P d a T H nx (fun T H nx=>G33 T ws fun L=>j L H nx) x r)
   (fun L H nx=>C37 d ds T fun T=>N36 d L ws 0 T fun T=>wD P d b T H nx k x r)
 | .cond c t e=>fun T H nx k x r=>E7 T c fun v=>G2 v (wD P d t T H nx k x r) (wD P d e T H nx k x r)
 | .block id c=>fun T H nx k x r=>wD P d c T H nx k (fun id' T H nx=>cond (Nat.beq id' id) (k T H nx) (x id' T H nx)) r
 | .loop ws ds c=>fun T H nx _ x r=>G33 T ws fun L=>B3 (fun ih L H nx=>C37 d ds T fun T=>N36 d L ws 0 T fun T=>wD P d c T H nx (fun T H nx=>G33 T ws fun L=>ih L H nx) x r) L H nx
 | .exit id=>fun T H nx _ x _=>x id T H nx
 | .ret=>fun T H nx _ _ r=>r T H nx
noncomputable def slots (T:U1 Value) (ws:List Nat):List Value:=ws.map fun w=>(tg T w).getD undef
theorem U31 {β:Type} (T:U1 Value):∀ (ws:List Nat) (k:List Value->β),G33 T ws k=k (slots T ws)
 | [],k=>rfl
 | w :: ws,k=>by
  show tgK T w (G33 T ws fun vs=>k (undef :: vs)) (fun v=>G33 T ws fun vs=>k (v :: vs))=_
  rw[R20]
  cases h:tg T w with
  | none=>simp only[Option.elim_none];rw[U31 T ws];simp[slots,h]
  | some v=>simp only[Option.elim_some];rw[U31 T ws];simp[slots,h]
noncomputable def J34 (d:Nat) (L:List Value):List Nat->Nat->U1 Value->U1 Value
 | [],_,T=>T
 | w :: ws,i,T=>J34 d L ws (i+1) (ts d T w (L.getD i undef))
theorem N47 {β:Type} (d:Nat) (L:List Value):∀ (ws:List Nat) (i:Nat) (T:U1 Value) (k:U1 Value->β),N36 d L ws i T k=k (J34 d L ws i T)
 | [],_,_,_=>rfl
 | w :: ws,i,T,k=>by simp only[N36,J34];rw[X23];exact N47 d L ws _ _ k
noncomputable def K25 (d:Nat):List Nat->U1 Value->U1 Value
 | [],T=>T
 | w :: ws,T=>K25 d ws (ts d T w Q50)
theorem R47 {β:Type} (d:Nat):∀ (ws:List Nat) (T:U1 Value) (k:U1 Value->β),C37 d ws T k=k (K25 d ws T)
 | [],_,_=>rfl
 | w :: ws,T,k=>by simp only[C37,K25];rw[X23];exact R47 d ws _ k
theorem V43 {d:Nat} {L:List Value}:∀ {ws:List Nat} {i:Nat} {T:U1 Value},WF d T->WF d (J34 d L ws i T)
 | [],_,_,h=>h
 | w :: ws,i,T,h=>V43 (ws:=ws) (B25 d T w _ h)
theorem Q24 {d:Nat}:∀ {ws:List Nat} {T:U1 Value},WF d T->WF d (K25 d ws T)
 | [],_,h=>h
 | w :: ws,T,h=>Q24 (ws:=ws) (B25 d T w _ h)
theorem R41 {d n:Nat} (hn:n<=2^d):∀ {ws:List Nat} {T:U1 Value},WF d T->(∀ w ∈ ws,w<n)->∀ j,j<n->(tg (K25 d ws T) j).getD undef=if j ∈ ws then Q50 else (tg T j).getD undef
 | [],T,_,_,j,_=>by simp[K25]
 | w :: ws,T,hw,hl,j,hj=>by
  have hwn:w<n:=hl w (by simp)
  simp only[K25]
  rw[R41 hn (B25 d T w _ hw) (fun x hx=>hl x (by simp[hx])) j hj]
  by_cases h1:j ∈ ws
  .simp[h1]
  .rw[if_neg h1,Z32 d T w j _ hw (by omega) (by omega)]
   by_cases h2:j=w
   .simp[h2]
   .simp[h1,h2]
theorem Y48 {d n:Nat} (hn:n<=2^d) {L:List Value}:∀ {ws:List Nat} {i:Nat} {T:U1 Value},WF d T->(∀ w ∈ ws,w<n)->B31 ws=true->∀ j,j<n ->
  (j ∉ ws->(tg (J34 d L ws i T) j).getD undef=(tg T j).getD undef)/\(∀ q,ws[q]? = some j->(tg (J34 d L ws i T) j).getD undef=L.getD (i+q) undef)
 | [],i,T,_,_,_,j,_=>⟨fun _=>rfl,fun q h=>by simp at h⟩
 | w :: ws,i,T,hw,hl,hnd,j,hj=>by
  have hwn:w<n:=hl w (by simp)
  simp only[B31,Bool.and_eq_true] at hnd
  have hww:w ∉ ws:=by
   intro h
   have:=hnd.1
   simp at this
   exact this w h rfl
  obtain⟨h1,h2⟩:=Y48 hn (L:=L) (ws:=ws) (i:=i+1) (B25 d T w (L.getD i undef) hw) (fun x hx=>hl x (by simp[hx])) hnd.2 j hj
  simp only[J34]
  refine⟨fun hne => ?_,fun q hq => ?_⟩
  .simp at hne
   rw[h1 hne.2,Z32 d T w j _ hw (by omega) (by omega),if_neg hne.1]
  .cases q with
   | zero=>
    simp at hq;subst hq
    rw[h1 hww,Z32 d T w w _ hw (by omega) (by omega),if_pos rfl]
    simp
   | succ q=>
    rw[h2 q (by simpa using hq)]
    congr 1;omega
theorem TR.join {F:FM} {T':U1 Value} {tmps:Array Value} {ws ds W:List Nat} (hn:n<=2^d) (hwT:WF d T) (ht:TR d F T' n tmps) (ha:Agr n W T T') (hs:∀ j ∈ W,j ∈ ws++ds) (hl:∀ j ∈ ws++ds,j<n) (hnd:B31 ws=true):
  TR d F (J34 d (slots T' ws) ws 0 (K25 d ds T)) n tmps:=by
 have hlw:∀ w ∈ ws,w<n:=fun w h=>hl w (List.mem_append_left _ h)
 have hld:∀ w ∈ ds,w<n:=fun w h=>hl w (List.mem_append_right _ h)
 refine⟨V43 (Q24 hwT),ht.size,ht.le,fun j hj => ?_⟩
 obtain⟨h1,h2⟩:=Y48 hn (L:=slots T' ws) (ws:=ws) (i:=0) (Q24 (ws:=ds) hwT) hlw hnd j hj
 by_cases hjw:j ∈ ws
 .obtain⟨q,hq⟩:=List.getElem?_of_mem hjw
  rw[h2 q hq]
  have:(slots T' ws).getD (0+q) undef=(tg T' j).getD undef:=by simp[slots,hq]
  rw[this];exact ht.get j hj
 .rw[h1 hjw,R41 hn hwT hld j hj]
  by_cases hjd:j ∈ ds
  .rw[if_pos hjd];exact .any _
  .rw[if_neg hjd,<- ha j hj (fun h=>(List.mem_append.1 (hs j h)).elim hjw hjd)]
   exact ht.get j hj
theorem Q38 {L:List Value} {ws ds:List Nat} (hn:n<=2^d) (hwT:WF d T) (hl:∀ j ∈ ws++ds,j<n) (hnd:B31 ws=true):Agr n (ws++ds) T (J34 d L ws 0 (K25 d ds T)):=by
 intro j hj hne
 rw[List.mem_append] at hne
 obtain⟨h1,_⟩:=Y48 hn (L:=L) (ws:=ws) (i:=0) (Q24 (ws:=ds) hwT) (fun w h=>hl w (List.mem_append_left _ h)) hnd j hj
 rw[h1 (fun h=>hne (.inl h)),R41 hn hwT (fun w h=>hl w (List.mem_append_right _ h)) j hj,if_neg (fun h=>hne (.inr h))]
theorem U64 {a b:List Nat} (h:E76 a b=true):∀ j ∈ a,j ∈ b:=by
 intro j hj
 unfold E76 at h
 have:=List.all_eq_true.1 h j hj
 obtain⟨y,hy,he⟩:=List.any_eq_true.1 this
 rw[Nat.eq_of_beq_eq_true he];exact hy
theorem W57 {a:List Nat} (h:M73 n a=true):∀ j ∈ a,j<n:=by
 intro j hj
 have:=List.all_eq_true.1 h j hj
 simpa using this
end Go.Clo
