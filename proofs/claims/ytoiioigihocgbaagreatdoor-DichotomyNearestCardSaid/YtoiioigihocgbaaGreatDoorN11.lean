/-
  The closed executor: code,calls,and what a run says.
  The closed executor: results,calls,and what a run says.
  The executor as a claim: calls by their contracts,the look at a region's readings,groups of guarded operations.
-/
import Derived.Test.YtoiioigihocgbaaGreatDoorN10
import Derived.Below
set_option linter.all false
noncomputable section
namespace Go.Clo
variable {β:Type}
inductive Ox where
 | n
 | x (id:Nat)
 | r
def Ox.exit:Ox->Exit
 | .n => .normal
 | .x id => .exit id
 | .r => .ret
def Ox.go(k:K β)(x:Nat->K β)(r:K β):Ox->K β
 | .n=>k
 | .x id=>x id
 | .r=>r
def R47(P:Program)(d n:Nat)(c:Code)(T:K0 Value)(H:Y0)(nx:Nat)(o:Ox)(T':K0 Value)(H':Y0)(nx':Nat):Prop:=
 ∀(F:FM) (a:Act) (w:World) (Q:Exit->Act->World->Prop),TR d F T n a.tmps->HR F H nx w ->
  (∀ F' a' w',TR d F' T' n a'.tmps->N2 F H nx w F' H' nx' w'->a'.defers=a.defers->Q o.exit a' w')->c.wp P Q a w
def D32(z:β)(c:K0 Value->Y0->Nat->K β->β)(m:Nat):K β:=
 @Nat.rec (fun _=>K β) (fun _ _ _=>z) (fun _ ih T H nx=>c T H nx ih) m
theorem G66(m:Nat)(z:β)(f:K β->K β):N45 m z f=D32 z (fun T H nx k=>f k T H nx) m:=rfl
def J56(fx:E15 β):Prop:=∀(z:β) (f:K β->K β) (T:K0 Value) (H:Y0) (nx:Nat),∃ m,fx z f T H nx=D32 z (fun T H nx k=>f k T H nx) m T H nx
theorem Z68(m:Nat):J56 (β:=β) (N45 m):=fun z f T H nx=>⟨m,by rw[G66]⟩
theorem R54(c:C)(P:Program)(d:Nat)(call:Z3 β)(E:E12 β)(fx:E15 β)(z:β)(T:K0 Value)(H:Y0)(nx:Nat)(k:K β)(x:Nat->K β)(r:K β):
  N6 (.loop c) P d call E fx z T H nx k x r=fx z (fun ih T H nx=>N6 c P d call E fx z T H nx ih x r) T H nx:=rfl
section
variable {β:Type} {P:Program} {d n:Nat}
theorem N51(hm:P.follows .mixedOrders=true)(hn:n<=2^d){call:Z3 β}(a1:E11 P call){U:E12 β}(a8:W34 P U){fx:E15 β}(ab:J56 fx)(z:β):∀(G6:Code) (c:C),R2 P n G6=some c->∀(T:K0 Value) (H:Y0) (nx:Nat) (k:K β) (x:Nat->K β) (r:K β),WF d T ->
  N6 c P d call U fx z T H nx k x r=z\/∃ o T' H' nx',N6 c P d call U fx z T H nx k x r=o.go k x r T' H' nx'/\WF d T'/\R47 P d n G6 T H nx o T' H' nx':=by
 intro G6
 induction G6 with
 | skip=>
  intro c hc T H nx k x r hw;simp[R2] at hc;subst hc;exact .inr ⟨.n,T,H,nx,rfl,hw,fun F a w Q ht hr hk=>wp_skip (hk F a w ht (N2.refl hr) rfl)⟩
 | label l=>
  intro c hc T H nx k x r hw;simp[R2] at hc;subst hc;exact .inr ⟨.n,T,H,nx,rfl,hw,fun F a w Q ht hr hk=>wp_label (hk F a w ht (N2.refl hr) rfl)⟩
 | exit id=>
  intro c hc T H nx k x r hw;simp[R2] at hc;subst hc;exact .inr ⟨.x id,T,H,nx,rfl,hw,fun F a w Q ht hr hk=>wp_exit (hk F a w ht (N2.refl hr) rfl)⟩
 | ret=>
  intro c hc T H nx k x r hw;simp[R2] at hc;subst hc;exact .inr ⟨.r,T,H,nx,rfl,hw,fun F a w Q ht hr hk=>wp_ret (hk F a w ht (N2.refl hr) rfl)⟩
 | goto l=>intro c hc;simp[R2] at hc
 | refuse ae=>intro c hc;simp[R2] at hc
 | rangeFunc f ps as b _ _=>intro c hc;simp[R2] at hc
 | region id ops draw=>
  intro c hc T H nx k x r hw;simp only[R2] at hc
  cases hl:R3 P n ops.toList ops.toList with
  | none=>simp[hl] at hc
  | some l=>
   simp only[hl] at hc
   cases draw with
   | false=>
    simp at hc;subst hc;show C9 P d call z k l T H nx=z\/∃ o T' H' nx',C9 P d call z k l T H nx=_/\_;rcases W58 (d:=d) hn a1 z k ops.toList l 0 hl (by simp) T H nx with h | ⟨T',H',nx',h,hw',hp⟩
    .exact .inl h
    .refine .inr ⟨.n,T',H',nx',h,(hw' hw).1,fun F a w Q ht hr hk=>wp_region ?_⟩
     have:=hp F a w Q ht hr hk;simpa [List.range_eq_range'] using this
   | true=>
    cases hs:E13 (U1 ops.toList) ops.toList ops.toList 0 with
    | false=>simp[hs] at hc
    | true=>
     simp[hs] at hc;subst hc;show Z28 P d call U z (U1 ops.toList) l T H nx k=z\/∃ o T' H' nx',Z28 P d call U z (U1 ops.toList) l T H nx k=_/\_;rcases V56 hm hl hs hn a1 a8 T H nx z k hw with h | ⟨T',H',nx',h,hw',hp⟩
     .exact .inl h
     .refine .inr ⟨.n,T',H',nx',h,hw'.1,fun F a w Q ht hr hk => ?_⟩
      have:=hp id F a w Q ht hr hk;simpa using this
 | seq a b W a6=>
  intro c hc T H nx k x r hw;simp only[R2] at hc
  cases ha:R2 P n a with
  | none=>simp[ha] at hc
  | some ca=>cases hb:R2 P n b with
   | none=>simp[ha,hb] at hc
   | some cb=>
    simp[ha,hb] at hc;subst hc;show N6 ca P d call U fx z T H nx (fun T H nx=>N6 cb P d call U fx z T H nx k x r) x r=z\/∃ o T' H' nx',N6 ca P d call U fx z T H nx (fun T H nx=>N6 cb P d call U fx z T H nx k x r) x r=_/\_;rcases W ca ha T H nx (fun T H nx=>N6 cb P d call U fx z T H nx k x r) x r hw with h | ⟨o,T1,H1,nx1,h,hw1,hok⟩
    .exact .inl h
    .cases o with
     | n=>
      rw[h];rcases a6 cb hb T1 H1 nx1 k x r hw1 with h2 | ⟨o2,T2,H2,nx2,h2,hw2,hok2⟩
      .exact .inl h2
      .refine .inr ⟨o2,T2,H2,nx2,h2,hw2,fun F ac w Q ht hr hk=>wp_seq (hok F ac w _ ht hr fun F' a' w' J E O => ?_)⟩
       exact hok2 F' a' w' Q J E.hr fun F2 a2 w2 a4 a0 Z=>hk F2 a2 w2 a4 (E.trans a0) (Z.trans O)
     | x id=>exact .inr ⟨.x id,T1,H1,nx1,h,hw1,fun F ac w Q ht hr hk=>wp_seq (hok F ac w _ ht hr fun F' a' w' J E O=>hk F' a' w' J E O)⟩
     | r=>exact .inr ⟨.r,T1,H1,nx1,h,hw1,fun F ac w Q ht hr hk=>wp_seq (hok F ac w _ ht hr fun F' a' w' J E O=>hk F' a' w' J E O)⟩
 | cond v a b W a6=>
  intro c hc T H nx k x r hw;simp only[R2] at hc
  cases hv:N0 n v with
  | none=>simp[hv] at hc
  | some cv=>cases ha:R2 P n a with
   | none=>simp[hv,ha] at hc
   | some ca=>cases hb:R2 P n b with
    | none=>simp[hv,ha,hb] at hc
    | some cb=>
     simp[hv,ha,hb] at hc;subst hc;show(W4 T cv fun v=>match v with
      | .bool b=>ifK b (N6 ca P d call U fx z T H nx k x r) (N6 cb P d call U fx z T H nx k x r)
      | _=>z)=z\/∃ o T' H' nx',(W4 T cv fun v=>match v with
      | .bool b=>ifK b (N6 ca P d call U fx z T H nx k x r) (N6 cb P d call U fx z T H nx k x r)
      | _=>z)=_/\_
     rw[G2]
     split
     .rename_i t a9
      rw[E14];have a7:∀(F:FM) (ac:Act),TR d F T n ac.tmps->ac.eval v = .bool t:=fun F ac ht=>by
       have:=ht.evX hv;rw[a9] at this;exact this.bool_inv
      cases t with
      | true=>
       rcases W ca ha T H nx k x r hw with h | ⟨o,T1,H1,nx1,h,hw1,hok⟩
       .exact .inl h
       .exact .inr ⟨o,T1,H1,nx1,h,hw1,fun F ac w Q ht hr hk=>wp_cond_true (a7 F ac ht) (hok F ac w Q ht hr hk)⟩
      | false=>
       rcases a6 cb hb T H nx k x r hw with h | ⟨o,T1,H1,nx1,h,hw1,hok⟩
       .exact .inl h
       .exact .inr ⟨o,T1,H1,nx1,h,hw1,fun F ac w Q ht hr hk=>wp_cond_false (a7 F ac ht) (hok F ac w Q ht hr hk)⟩
     .exact .inl rfl
 | block id a W=>
  intro c hc T H nx k x r hw;simp only[R2] at hc
  cases ha:R2 P n a with
  | none=>simp[ha] at hc
  | some ca=>
   simp[ha] at hc;subst hc;show N6 ca P d call U fx z T H nx k (fun V T H nx=>cond (Nat.beq V id) (k T H nx) (x V T H nx)) r=z\/∃ o T' H' nx',N6 ca P d call U fx z T H nx k (fun V T H nx=>cond (Nat.beq V id) (k T H nx) (x V T H nx)) r=_/\_;rcases W ca ha T H nx k (fun V T H nx=>cond (Nat.beq V id) (k T H nx) (x V T H nx)) r hw with h | ⟨o,T1,H1,nx1,h,hw1,hok⟩
   .exact .inl h
   .cases o with
    | n=>exact .inr ⟨.n,T1,H1,nx1,h,hw1,fun F ac w Q ht hr hk=>wp_block (hok F ac w _ ht hr fun F' a' w' J E O=>hk F' a' w' J E O)⟩
    | r=>exact .inr ⟨.r,T1,H1,nx1,h,hw1,fun F ac w Q ht hr hk=>wp_block (hok F ac w _ ht hr fun F' a' w' J E O=>hk F' a' w' J E O)⟩
    | x V=>
     cases a5:Nat.beq V id with
     | true=>
      have e:=Nat.eq_of_beq_eq_true a5;subst e;refine .inr ⟨.n,T1,H1,nx1,by rw[h];simp[Ox.go],hw1,fun F ac w Q ht hr hk=>wp_block (hok F ac w _ ht hr fun F' a' w' J E O => ?_)⟩;simp only[Ox.exit,Exit.inBlock,if_true];exact hk F' a' w' J E O
     | false=>
      have e:V≠id:=fun e=>by subst e;simp at a5
      refine .inr ⟨.x V,T1,H1,nx1,by rw[h];simp[Ox.go,a5],hw1,fun F ac w Q ht hr hk=>wp_block (hok F ac w _ ht hr fun F' a' w' J E O => ?_)⟩;simp only[Ox.exit,Exit.inBlock,e,if_false];exact hk F' a' w' J E O
 | scope a W=>
  intro c hc T H nx k x r hw;simp only[R2] at hc;rcases W c hc T H nx k x r hw with h | ⟨o,T1,H1,nx1,h,hw1,hok⟩
  .exact .inl h
  .refine .inr ⟨o,T1,H1,nx1,h,hw1,fun F ac w Q ht hr hk=>wp_scope_straight (hok F ac w _ ht hr fun F' a' w' J E O => ?_)⟩
   cases o<;>exact hk F' a' w' J E O
 | loop a W=>
  intro c hc T H nx k x r hw;simp only[R2] at hc
  cases ha:R2 P n a with
  | none=>simp[ha] at hc
  | some ca=>
   simp[ha] at hc;subst hc;have a3:∀(m:Nat) (T:K0 Value) (H:Y0) (nx:Nat),WF d T ->
     D32 z (fun T H nx k=>N6 ca P d call U fx z T H nx k x r) m T H nx=z \/
     ∃(o:Ox) (T':K0 Value) (H':Y0) (nx':Nat),D32 z (fun T H nx k=>N6 ca P d call U fx z T H nx k x r) m T H nx=o.go k x r T' H' nx'/\WF d T' /\
      ∀(F:FM) (ac:Act) (w:World) (Q:Exit->Act->World->Prop),TR d F T n ac.tmps->HR F H nx w ->
       (∀ F' a' w',TR d F' T' n a'.tmps->N2 F H nx w F' H' nx' w'->a'.defers=ac.defers->Q o.exit a' w')->Code.rounds P a Q m ac w:=by
    intro m
    induction m with
    | zero=>intro T H nx _;exact .inl rfl
    | succ m aa=>
     intro T H nx hw;rcases W ca ha T H nx (D32 z (fun T H nx k=>N6 ca P d call U fx z T H nx k x r) m) x r hw with h | ⟨o,T1,H1,nx1,h,hw1,hok⟩
     .exact .inl h
     .cases o with
      | n=>
       rcases aa T1 H1 nx1 hw1 with h2 | ⟨o2,T2,H2,nx2,h2,hw2,hok2⟩
       .exact .inl (h.trans h2)
       .refine .inr ⟨o2,T2,H2,nx2,h.trans h2,hw2,fun F ac w Q ht hr hk => ?_⟩
        rw[rounds_succ];refine hok F ac w _ ht hr fun F' a' w' J E O => ?_
        exact hok2 F' a' w' Q J E.hr fun F2 a2 w2 a4 a0 Z=>hk F2 a2 w2 a4 (E.trans a0) (Z.trans O)
      | x id=>
       refine .inr ⟨.x id,T1,H1,nx1,h,hw1,fun F ac w Q ht hr hk => ?_⟩;rw[rounds_succ];exact hok F ac w _ ht hr fun F' a' w' J E O=>hk F' a' w' J E O
      | r=>
       refine .inr ⟨.r,T1,H1,nx1,h,hw1,fun F ac w Q ht hr hk => ?_⟩;rw[rounds_succ];exact hok F ac w _ ht hr fun F' a' w' J E O=>hk F' a' w' J E O
   rw[R54];obtain⟨m,ad⟩:=ab z (fun ih T H nx=>N6 ca P d call U fx z T H nx ih x r) T H nx;rw[ad];rcases a3 m T H nx hw with h | ⟨o,T1,H1,nx1,h,hw1,hok⟩
   .exact .inl h
   .exact .inr ⟨o,T1,H1,nx1,h,hw1,fun F ac w Q ht hr hk=>wp_loop_rounds m (hok F ac w Q ht hr hk)⟩
end
end Go.Clo

namespace Go.Clo
variable {F:FM} {args:List Value} {f:FuncId} {fn:Func} {β:Type}
section
variable {P:Program} {d n:Nat}
def Q34(tmps:Array Value):ResultVar->Sem Value
 | .tmp t=>pure (tmps.getD t undef)
 | .cell a t=>do loadVar t (<- asAddr (tmps.getD a undef))
def R31(tmps:Array Value):List ResultVar->Sem (List Value)
 | []=>pure []
 | r :: rs=>do
  let v <- Q34 tmps r
  let vs <- R31 tmps rs
  pure (v :: vs)
theorem B67(tmps:Array Value)(l:List ResultVar):l.mapM (Q34 tmps)=R31 tmps l:=by
 induction l with
 | nil=>rfl
 | cons r l ih=>simp only[List.mapM_cons,ih,R31]
theorem J29{tmps:Array Value}{w:World}{vs:List Value}(h:(R31 tmps fn.results.toList).run P w = .ok vs w):
  (results fn tmps).run P w = .ok (tup vs) w:=by
 have e:results fn tmps=(do let vs <- fn.results.mapM (Q34 tmps);pure (if h:vs.size=1 then vs[0] else .tuple vs)):=by
  unfold results;congr 1
 rw[e,Array.mapM_eq_mapM_toList,B67];simp only[Sem.run_bind,Sem.run_map,h,Result.andThen_ok,Sem.run_pure]
 match vs with
 | []=>rfl
 | [v]=>rfl
 | v :: v' :: vs=>rfl
theorem B35{T:K0 Value}{H:Y0}{nx:Nat}(z:β):∀(rs:List ResultVar) (l:List (X × Option (Option Nat))),M17 P n rs=some l->∀(k:List Value->β),
  W24 P T H z k l=z\/∃ vs,W24 P T H z k l=k vs/\∀(F:FM) (tmps:Array Value) (w:World),TR d F T n tmps->HB F H nx w ->
   ∃ E,(R31 tmps rs).run P w = .ok E w/\VL F vs E:=by
 intro rs
 induction rs with
 | nil=>
  intro l hl k;simp[M17] at hl;subst hl;exact .inr ⟨[],rfl,fun F tmps w _ _=>⟨[],rfl,.nil⟩⟩
 | cons r rs ih=>
  intro l hl k;simp only[M17] at hl
  cases O:M17 P n rs with
  | none=>rw[O] at hl;split at hl<;>simp_all
  | some l2=>
   rw[O] at hl
   cases r with
   | tmp t=>
    cases ht:Nat.blt t n with
    | false=>simp[ht] at hl
    | true=>
     simp only[ht,cond_true,Option.some.injEq] at hl;subst hl;have Q:t<n:=by simpa [Nat.blt_eq] using ht
     simp only[W24];rw[G2];rcases ih l2 O (fun vs=>k (ev T (.s t) :: vs)) with h | ⟨vs,h,hok⟩
     .exact .inl h
     .refine .inr ⟨_,h,fun F tmps w J hb => ?_⟩
      obtain⟨E,h1,h2⟩:=hok F tmps w J hb;refine⟨tmps.getD t undef :: E,?_,.cons ?_ h2⟩
      .simp only[R31,Q34,Sem.run_bind,Sem.run_pure,Result.andThen_ok,h1]
      .rw[E53];exact J.get t Q
   | cell a t=>
    cases ht:Nat.blt a n with
    | false=>simp[ht] at hl
    | true=>
     cases U:E8 P t with
     | none=>simp[ht,U] at hl
     | some sh=>
      simp only[ht,U,cond_true,Option.map_some,Option.some.injEq] at hl;subst hl;have Q:a<n:=by simpa [Nat.blt_eq] using ht
      simp only[W24];show rLd (.s a) sh T H z _=z\/∃ vs,rLd (.s a) sh T H z _=_/\_;rcases M38 (nx:=nx) (T:=T) (H:=H) U (.s a) z (fun v=>W24 P T H z (fun vs=>k (v :: vs)) l2) with h | ⟨v,h,hp⟩
      .exact .inl h
      .rw[h]
       rcases ih l2 O (fun vs=>k (v :: vs)) with h | ⟨vs,h,hok⟩
       .exact .inl h
       .refine .inr ⟨_,h,fun F tmps w J hb => ?_⟩
        obtain⟨E,h1,h2⟩:=hok F tmps w J hb;obtain⟨ad,v',he,hr,hv⟩:=hp F (tmps.getD a undef) w (by rw[E53];exact J.get a Q) hb;refine⟨v' :: E,?_,.cons hv h2⟩;have ha:(asAddr (tmps.getD a undef)).run P w = .ok ad w:=by rw[he];rfl
        simp only[R31,Q34,Sem.run_bind,ha,hr,Sem.run_pure,Result.andThen_ok,h1]
theorem B58{l l':List Value}(h:VL F l l'):VR F (tup l) (tup l'):=by
 cases h with
 | nil=>exact VR.tuple' .nil
 | cons h t=>
  cases t with
  | nil=>exact h
  | cons h2 t=>exact VR.tuple' (.cons h (.cons h2 t))
def R17(d:Nat):List Value->Nat->K0 Value->K0 Value
 | [],_,T=>T
 | v :: l,i,T=>R17 d l (i+1) (ts d T i v)
theorem Z24{β:Type}(d:Nat)(f:K0 Value->β):∀(l:List Value) (i:Nat) (T:K0 Value),J27 d l i T f=f (R17 d l i T)
 | [],_,_=>rfl
 | v :: l,i,T=>by simp only[J27,R17];rw[Z15];exact Z24 d f l _ _
theorem Y19(d:Nat):∀(l:List Value) (i:Nat) (T:K0 Value),WF d T->WF d (R17 d l i T)
 | [],_,_,h=>h
 | v :: l,i,T,h=>Y19 d l (i+1) _ (U16 d T i v h)
theorem U38(d:Nat):∀(l:List Value) (i:Nat) (T:K0 Value) (j:Nat),WF d T->i+l.length<=2^d->j<2^d ->
  tg (R17 d l i T) j=if i<=j/\j<i+l.length then l[j-i]? else tg T j
 | [],i,T,j,_,_,_=>by simp[R17];omega
 | v :: l,i,T,j,hw,hl,hj=>by
  simp only[R17];simp only[List.length_cons] at hl;rw[U38 d l (i+1) _ j (U16 d T i v hw) (by omega) hj,K21 d T i j v hw (by omega) hj]
  by_cases h1:j=i
  .subst h1;rw[if_neg (by omega),if_pos rfl,if_pos (by simp)];simp
  .by_cases h2:i<=j/\j<i+(l.length+1)
   .rw[if_pos (by omega),if_pos (by simpa using h2)]
    have:j-i=(j-(i+1))+1:=by omega
    rw[this];simp
   .rw[if_neg (by omega),if_neg h1,if_neg (by simpa using h2)]
theorem W32{E:List Value}(hv:VL F args E)(hn:n<=2^d)(hl:args.length<=n):
  TR d F (R17 d args 0 .leaf) n (E.toArray++Array.replicate (n-E.toArray.size) undef):=by
 have J:=hv.length;have wl:WF d (.leaf:K0 Value):=by cases d<;>trivial
 refine⟨Y19 d args 0 _ wl,by simp;omega,hn,fun t ht => ?_⟩;rw[U38 d args 0 .leaf t wl (by omega) (by omega)]
 by_cases h:t<args.length
 .rw[if_pos (by omega)]
  have h':t<E.length:=by omega
  have e1:args[t-0]? = some args[t]:=by simp[h]
  rw[e1];have e2:(E.toArray++Array.replicate (n-E.toArray.size) undef).getD t undef=E[t]:=by
   simp[Array.getD_eq_getD_getElem?,Array.getElem?_append,h']
  rw[e2];exact hv.get t _ _ (by simp[h]) (by simp[h'])
 .rw[if_neg (by omega)]
  have e2:(E.toArray++Array.replicate (n-E.toArray.size) undef).getD t undef=undef:=by
   rw[Array.getD_eq_getD_getElem?,Array.getElem?_append,if_neg (by simp;omega),Array.getElem?_replicate]
   split<;>rfl
  rw[e2];exact VR.undef F
def B42(P:Program)(E:Orc):Prop:=
 ∀ f o,E f=some o->∀ args H nx v H' nx',o args H nx=some (v,H',nx')->CS P f args H nx v H' nx'
def J18 (P : Program) : Prop := ∀ (f : FuncId) (fn : Func), P.funcs[f]? = some fn -> (fn.name == "runtime.NumGoroutine") = false
theorem Y52 (hm : P.follows .mixedOrders = true) {c : Code} {body : C} {res : List (X × Option (Option Nat))} (hf : P.funcs[f]? = some fn) (O : (fn.name == "runtime.NumGoroutine") = false) (hb : fn.body = some c)
  (hc:R2 P fn.ntmps c=some body) (a0:M17 P fn.ntmps fn.results.toList=some res) (hd:fn.ntmps<=2^d) {call:Z3 β} (U:E11 P call) {J:E12 β} (a1:W34 P J) {fx:E15 β} (a5:J56 fx) (args:List Value) (H:Y0) (nx:Nat) (z:β) (k:Value->Y0->Nat->β):
  W28 P call J fx args H nx z k fn.ntmps d body res=z\/∃ v H' nx',W28 P call J fx args H nx z k fn.ntmps d body res=k v H' nx'/\CS P f args H nx v H' nx':=by
 unfold W28
 cases hl:Nat.ble args.length fn.ntmps with
 | false=>exact .inl rfl
 | true=>
  have hl:=Nat.le_of_ble_eq_true hl;simp only[cond_true];rw[Z24];have wl:WF d (.leaf:K0 Value):=by cases d<;>trivial
  have hw:=Y19 d args 0 .leaf wl;rcases N51 hm hd U a1 a5 z c body hc _ H nx (G14 P res z k) (fun _ _ _ _=>z) (G14 P res z k) hw with h | ⟨o,T',H',nx',h,hw',hok⟩
  .exact .inl h
  .rw[h]
   have V:∀ (hx:o = .n\/o = .r),G14 P res z k T' H' nx'=z\/∃ v Z E,G14 P res z k T' H' nx'=k v Z E/\CS P f args H nx v Z E:=by
    intro hx;unfold G14;rcases B35 (d:=d) (T:=T') (H:=H') (nx:=nx') z _ res a0 (fun vs=>M0 (tup vs) fun v=>k v H' nx') with h2 | ⟨vs,h2,hok2⟩
    .exact .inl h2
    .rw[h2,Y5]
     refine .inr ⟨tup vs,H',nx',rfl,⟨fn,c,hf,hb,O⟩,fun F a4 w hr hv => ?_⟩;refine calls_of_wp hf hb (hok F _ w _ (W32 hv hd hl) hr fun F' a' w' a3 a2 a6 => ?_);obtain⟨W,h3,h4⟩:=hok2 F' a'.tmps w' a3 a2.hr.hb;have Q:a'.defers=[]/\∃ v,(results fn a'.tmps).run P w' = .ok v w'/\(∃ v' F',Ending.returned v = .returned v'/\VR F' (tup vs) v'/\N2 F H nx w F' H' nx' w'):=
      ⟨a6,tup W,J29 h3,tup W,F',rfl,B58 h4,a2⟩
     rcases hx with rfl | rfl<;>exact Q
   cases o with
   | n=>exact V (.inl rfl)
   | x id=>exact .inl rfl
   | r=>exact V (.inr rfl)
theorem W22{β:Type}(hm:P.follows .mixedOrders=true)(Q:J18 P){J:Orc}(ho:B42 P J):∀ n,E11 (β:=β) P (K42 P J n)
 | 0=>fun f args H nx z k => .inl rfl
 | n+1=>by
  intro f args H nx z k;show(match J f with
   | some o=>(match o args H nx with
    | some (v,H,nx)=>k v H nx
    | none=>z)
   | none=>match cfn P f with
    | some ⟨n',d,body,res⟩=>W28 P (K42 P J n) (D43 P) (N45 1000000) args H nx z k n' d body res
    | none=>z)=z\/∃ v H' nx',(match J f with
   | some o=>(match o args H nx with
    | some (v,H,nx)=>k v H nx
    | none=>z)
   | none=>match cfn P f with
    | some ⟨n',d,body,res⟩=>W28 P (K42 P J n) (D43 P) (N45 1000000) args H nx z k n' d body res
    | none=>z)=k v H' nx'/\_
  cases V:J f with
  | some o=>
   dsimp only
   cases W:o args H nx with
   | none=>exact .inl rfl
   | some r=>obtain⟨v,H',nx'⟩:=r;exact .inr ⟨v,H',nx',rfl,ho f o V _ _ _ _ _ _ W⟩
  | none=>
   dsimp only
   cases E:cfn P f with
   | none=>exact .inl rfl
   | some r=>
    unfold cfn at E;rw[Q8] at E
    cases hf:P.funcs.toList[f]? with
    | none=>simp[hf] at E
    | some fn=>
     simp only[hf] at E;have U:P.funcs[f]? = some fn:=by simpa using hf
     cases hb:fn.body with
     | none=>simp[hb] at E
     | some c=>
      simp only[hb] at E
      cases hc:R2 P fn.ntmps c with
      | none=>simp[hc] at E
      | some body=>
       cases O:M17 P fn.ntmps fn.results.toList with
       | none=>simp[hc,O] at E
       | some res=>
        simp only[hc,O,Option.some.injEq] at E;subst E;dsimp only;exact Y52 hm U (Q f fn U) hb hc O (Nat.le_of_lt Nat.lt_log2_self) (W22 hm Q ho n) (Z67 P) (Z68 _) args H nx z k
theorem B56{J:Orc}(hm:P.follows .mixedOrders=true)(U:J18 P)(ho:B42 P J){v:Value}(hr:U46 P J n f args=some v)(ha:args.all M4=true)(hv:X7 v=true)(w:World)(Q:GlW w):
  Calls P f args.toArray w fun e w'=>e = .returned v/\RowKit.Below w.heap.size w w':=by
 unfold U46 at hr;rcases W22 (β:=Option Value) hm U ho n f args .leaf 0 none (fun v _ _=>some v) with h | ⟨v',H',nx',h,hcs⟩
 .rw[h] at hr;cases hr
 .rw[h] at hr;cases hr
  have h0:HR (fun _=>none) .leaf 0 w:=
   ⟨fun i b hi=>by omega,fun i j bi bj ti tj hi=>by omega,fun _ _=>rfl,fun _ _=>rfl,⟨Q,fun x hx ⟨i,_,_,hi,_⟩=>by omega⟩⟩
  refine(hcs.2 (fun _=>none) args w h0 (J10 _ args ha)).mono fun e w' ⟨v',F',he,O,E⟩ => ?_
  refine⟨by rw[he,R51 O hv],E.os,E.tape,E.output,E.size,fun b hb=>E.frame b hb fun⟨i,_,_,hi,_⟩=>by omega⟩
end
end Go.Clo

namespace Go.Clo
variable {H:Y0} {T:K0 Value} {d nx:Nat} {g:Option (Nat × Bool)} {l:List S} {v:Value} {β:Type}
def Q2(P:Program)(f:FuncId)(args:List Value)(H:Y0)(nx:Nat)(Q:Value->Y0->Nat->Prop):Prop:=
 ∃ v H' nx',CS P f args H nx v H' nx'/\Q v H' nx'
def M8(P:Program):Z3 Prop:=fun f args H nx z k=>z\/Q2 P f args H nx k
theorem X48(P:Program):E11 P (M8 P):=by
 intro f args H nx z k
 by_cases hz:z
 .exact .inl (by unfold M8;simp[hz])
 .by_cases h:Q2 P f args H nx k
  .obtain⟨v,H',nx',E,hk⟩:=h
   refine .inr ⟨v,H',nx',?_,E⟩;unfold M8;apply propext;exact⟨fun _=>hk,fun _ => .inr ⟨v,H',nx',E,hk⟩⟩
  .exact .inl (by unfold M8;apply propext;exact⟨fun hh=>hh.elim id (fun hh=>absurd hh h),.inl⟩)
theorem Q2.mono{P:Program}{f:FuncId}{args:List Value}{Q Q':Value->Y0->Nat->Prop}(h:Q2 P f args H nx Q)(hq:∀ v H' nx',Q v H' nx'->Q' v H' nx'):Q2 P f args H nx Q':=
 let ⟨v,H',nx',h1,h2⟩:=h;⟨v,H',nx',h1,hq _ _ _ h2⟩
def N27(P:Program)(ms:List Nat)(N:Nat)(as:List (Nat × C1))(r:Rd):List Nat->List Y0->Y0->List Nat->Prop
 | es,Ms,M,later=>
  (cond (es.any (fun e=>D2 ms e r.i) || later.any (fun e=>D2 ms r.i e)) True
   (U13 ms N es r.i M (fun h=>M9 P r.r r.T h False fun v=>v=r.v) as)) /\
  (match es,Ms with
   | e :: es',M' :: Ms'=>cond (D2 ms r.i e) True (N27 P ms N as r es' Ms' M' (e :: later))
   | [],[]=>True
   | _,_=>False)
def Q55(P:Program)(ms:List Nat)(N:Nat)(as:List (Nat × C1))(es:List Nat)(Ms:List Y0)(H:Y0):List Rd->Prop
 | []=>True
 | r :: rs=>N27 P ms N as r es Ms H []/\Q55 P ms N as es Ms H rs
def W62(P:Program):E12 Prop:=fun ms N as rs es Ms H y z=>(Q55 P ms N as es Ms H rs/\y)\/z
theorem B31{P:Program}{ms:List Nat}{N:Nat}{as:List (Nat × C1)}{r:Rd}{H0:Y0}:∀(rc:List D3) (E:List Nat),N27 P ms N as r (D1 rc) (MsR H0 rc) (hR H0 rc) E->∀(pre l':List D3),rc=pre++l' ->
  (∀ e,e ∈ D1 rc->e ∉ D1 l'->D2 ms r.i e=false)->(∀ e ∈ E,D2 ms r.i e=false)->(∀ e ∈ D1 l',D2 ms e r.i=false) ->
  M9 P r.r r.T (X8 N (fun j=>D2 ms r.i j && !Y3 ms (D1 l') j) (hR H0 l') as) False (fun v=>v=r.v)
 | rc,E,h,[],l',e,_,h2,h3=>by
  simp at e;subst e;rw[N27.eq_def] at h;have c1:((D1 rc).any (fun e=>D2 ms e r.i) || E.any (fun e=>D2 ms r.i e))=false:=by
   rw[Bool.or_eq_false_iff];refine⟨?_,?_⟩
   .rw[List.any_eq_false];intro x hx;simp[h3 x hx]
   .rw[List.any_eq_false];intro x hx;simp[h2 x hx]
  have:=h.1;rw[c1] at this;simp only[cond_false] at this;rw[Q18] at this;exact this
 | [],E,h,p :: pre,l',e,_,_,_=>by simp at e
 | r0 :: l,E,h,p :: pre,l',e,h1,h2,h3=>by
  simp at e;obtain⟨rfl,rfl⟩:=e
  cases J:r0.inf with
  | e H' nx'=>
   simp only[D1,MsR,hR,J] at h;rw[N27.eq_def] at h;have hb:=h.2;dsimp only at hb;have O:D2 ms r.i (pre++l').length=false:=h1 _ (by simp[D1,J]) (fun hm=>by have:=K19 hm;simp at this;omega);rw[O] at hb;simp only[cond_false] at hb;refine B31 (pre++l') _ hb pre l' rfl (fun e he hn=>h1 e (by simp[D1,J,he]) hn) ?_ h3;intro e he;rcases List.mem_cons.1 he with rfl | he
   .exact O
   .exact h2 e he
  | _=>
   simp only[D1,MsR,hR,J] at h;exact B31 (pre++l') E h pre l' rfl (fun e he hn=>h1 e (by simp[D1,J,he]) hn) h2 h3
theorem Y43{P:Program}{ms:List Nat}{N:Nat}{as:List (Nat × C1)}{es:List Nat}{Ms:List Y0}{H:Y0}:∀ {rs:List Rd},Q55 P ms N as es Ms H rs->∀ r ∈ rs,N27 P ms N as r es Ms H []
 | [],_,r,hr=>by cases hr
 | r0 :: rs,h,r,hr=>by
  rcases List.mem_cons.1 hr with rfl | hr
  .exact h.1
  .exact Y43 h.2 r hr
theorem M66(P:Program):W34 P (W62 P):=by
 intro d n ops N H0 rc y z;unfold W62
 by_cases hz:z
 .exact .inl (by apply propext;simp[hz])
 .by_cases J:Q55 P (U1 ops) N (B3 rc) (D1 rc) (MsR H0 rc) (hR H0 rc) (rsR rc)
  .refine .inr ⟨by apply propext;simp[J,hz],fun r hr pre l' O h1 h2 nx o hc => ?_⟩
   have E:=B31 rc [] (Y43 J r hr) pre l' O h1 (by simp) h2;rcases U34 (P:=P) (d:=d) (n:=n) (nx:=nx) (o:=o) (T:=r.T) (H:=X8 N (fun j=>D2 (U1 ops) r.i j && !Y3 (U1 ops) (D1 l') j) (hR H0 l') (B3 rc)) hc False (fun v=>v=r.v) with h | ⟨v,h,hrv⟩
   .rw[h] at E;exact E.elim
   .rw[h] at E
    rw[<- E];exact hrv
  .exact .inl (by apply propext;simp[J])
def Y9(g:Option (Nat × Bool))(T:K0 Value):Option Bool:=V8 g T none (some true) (some false)
theorem X10(g:Option (Nat × Bool))(T:K0 Value)(z J no:β):V8 g T z J no=match Y9 g T with | none=>z | some true=>J | some false=>no:=by
 unfold Y9 V8
 cases g with
 | none=>rfl
 | some tw=>
  obtain⟨t,E⟩:=tw;dsimp only;rw[J11,J11]
  cases tg T t with
  | none=>rfl
  | some v=>
   dsimp only[Option.elim_some]
   cases v<;>try rfl
   rename_i b;dsimp only;rw[E14,E14]
   cases b<;>cases E<;>rfl
theorem M62{t q:Nat}{E:Bool}(hw:WF d T)(ht:t<2^d)(hq:q<2^d)(J:q≠t):Y9 (some (t,E)) (ts d T q v)=Y9 (some (t,E)) T:=by
 unfold Y9 V8;dsimp only;rw[J11,J11,K21 d T q t v hw hq ht,if_neg (Ne.symm J)]
theorem D49{α:Type}:∀(d:Nat) (T:K0 α) (t:Nat) (v:α),WF d T->t<2^d->tg T t=some v->ts d T t v=T:=by
 intro d
 induction d with
 | zero=>
  intro T t v hw ht hg
  cases T with
  | leaf=>simp at hg
  | tip a=>simp at hg;subst hg;rfl
  | node l r=>exact hw.elim
 | succ d ih=>
  intro T t v hw ht hg;have E:t/2<2^d:=by rw[Nat.pow_succ] at ht;omega
  cases T with
  | leaf=>simp at hg
  | tip a=>exact hw.elim
  | node l r=>
   rw[G36] at hg;rw[R36];dsimp only
   split at hg
   .rename_i h;rw[if_pos h,ih l _ v hw.1 E hg]
   .rename_i h;rw[if_neg h,ih r _ v hw.2 E hg]
def okT(d:Nat):Option (Nat × Bool)->Bool
 | none=>true
 | some (t,_)=>Nat.blt t (2^d)
inductive HT where
 | nil
 | one (r:HT)
 | tst (y n:HT)
abbrev G:=Option (Nat × Bool) × List S
def Y8(g:Option (Nat × Bool))(s:S):S:=⟨g,s.dst,s.i⟩
def Q11:List G->List S
 | []=>[]
 | (g,l) :: gs=>l.map (Y8 g)++Q11 gs
def okL(d:Nat)(g:Option (Nat × Bool)):List S->Bool
 | []=>true
 | s :: l=>(match s.guard with | none=>true | some _=>false)&&(match g,s.dst with
  | some (t,_),some q=>Nat.blt t (2^d)&&Nat.blt q (2^d) && !(Nat.beq q t)
  | _,_=>true)&&okL d g l
def okG (d:Nat):List G->Bool
 | []=>true
 | (g,l) :: gs=>okL d g l&&(match l with | []=>false | _=>true)&&okG d gs&&okT d g
def Y15{β:Type}(d:Nat)(k:K0 Value->β):List S->K0 Value->β
 | [],T=>k T
 | s :: l,T=>E4 d s.dst undef T fun T=>Y15 d k l T
def B30(d:Nat)(dst:Option Nat)(v:Value)(T:K0 Value):K0 Value:=
 match dst with
 | none=>T
 | some t=>ts d T t v
theorem K5(d:Nat)(dst:Option Nat)(v:Value)(T:K0 Value)(k:K0 Value->β):E4 d dst v T k=k (B30 d dst v T):=by
 cases dst with
 | none=>rfl
 | some t=>exact Z15 d T t v k
theorem K28{dst:Option Nat}(h:WF d T):WF d (B30 d dst v T):=by
 cases dst with
 | none=>exact h
 | some t=>exact U16 d T t v h
theorem V21{s:S}(hw:WF d T)(E:okL d g (s :: l)=true):Y9 g (B30 d s.dst v T)=Y9 g T:=by
 cases g with
 | none=>rfl
 | some tw=>
  obtain⟨t,J⟩:=tw
  cases hd:s.dst with
  | none=>rfl
  | some q=>
   simp only[okL,hd,Bool.and_eq_true,Nat.blt_eq] at E;exact M62 hw E.1.2.1.1 E.1.2.1.2 (by rintro rfl;have:=E.1.2.2;simp at this)
theorem J23{s:S}(h:okL d g (s :: l)=true):okL d g l=true:=by
 simp only[okL,Bool.and_eq_true] at h;exact h.2
theorem X43{s:S}(h:okL d g (s :: l)=true):s.guard=none:=by
 simp only[okL,Bool.and_eq_true] at h
 cases hg:s.guard with
 | none=>rfl
 | some _=>rw[hg] at h;cases h.1.1
section
variable {β:Type} {P:Program} {d:Nat} {call:Z3 β} {z:β}
theorem M25(k:K0 Value->Y0->Nat->β)(s:S)(l:List S)(T:K0 Value)(H:Y0)(nx:Nat):C9 P d call z k (s :: l) T H nx=U18 P d call s T H nx z (C9 P d call z k l):=rfl
theorem J31(g:Option (Nat × Bool))(dst:Option Nat)(i:I)(T:K0 Value)(H:Y0)(nx:Nat)(k:K0 Value->Y0->Nat->β):
  U18 P d call ⟨g,dst,i⟩ T H nx z k=V8 g T z (V30 i P d dst call T H nx z k) (E4 d dst undef T fun T=>k T H nx):=rfl
theorem G39(T:K0 Value):Y9 none T=some true:=rfl
theorem Q54(i:I)(dst:Option Nat)(T:K0 Value)(H:Y0)(nx:Nat)(k k':K0 Value->Y0->Nat->β)(h:∀ v H nx,k (B30 d dst v T) H nx=k' (B30 d dst v T) H nx):
  V30 i P d dst call T H nx z k=V30 i P d dst call T H nx z k':=by
 cases i with
 | p i=>
  show X4 P i T z (fun v=>E4 d dst v T fun T=>k T H nx)=X4 P i T z (fun v=>E4 d dst v T fun T=>k' T H nx);congr 1;funext v;rw[K5,K5,h]
 | r i=>
  show M9 P i T H z (fun v=>E4 d dst v T fun T=>k T H nx)=M9 P i T H z (fun v=>E4 d dst v T fun T=>k' T H nx);congr 1;funext v;rw[K5,K5,h]
 | a i=>
  show evA i T z (J36 d dst T H nx k)=evA i T z (J36 d dst T H nx k');congr 1;funext b y;unfold J36;rw[G4,G4,G1,G1,E7,E7,K5,K5,h]
 | e i=>
  show evE i call T H nx z (fun v H nx=>E4 d dst v T fun T=>k T H nx)=evE i call T H nx z (fun v H nx=>E4 d dst v T fun T=>k' T H nx);congr 1;funext v H nx;rw[K5,K5,h]
theorem M49(g:Option (Nat × Bool))(k:K0 Value->Y0->Nat->β):∀(l:List S) (T:K0 Value) (H:Y0) (nx:Nat),WF d T->okL d g l=true->Y9 g T=some true ->
  C9 P d call z k (l.map (Y8 g)) T H nx=C9 P d call z k l T H nx
 | [],T,H,nx,_,_,_=>rfl
 | s :: l,T,H,nx,hw,hok,hd=>by
  obtain⟨g0,dst,i⟩:=s;have E:g0=none:=X43 hok;subst E;rw[List.map_cons,M25,M25];show U18 P d call ⟨g,dst,i⟩ T H nx z _=_;rw[J31,J31,X10,X10 none,hd,G39];exact Q54 i dst T H nx _ _ fun v H nx=>M49 g k l _ H nx (K28 hw) (J23 hok) ((V21 hw hok).trans hd)
theorem X59(g:Option (Nat × Bool))(k:K0 Value->Y0->Nat->β):∀(l:List S) (T:K0 Value) (H:Y0) (nx:Nat),WF d T->okL d g l=true->Y9 g T=some false ->
  C9 P d call z k (l.map (Y8 g)) T H nx=Y15 d (fun T=>k T H nx) l T
 | [],T,H,nx,_,_,_=>rfl
 | s :: l,T,H,nx,hw,hok,hd=>by
  obtain⟨g0,dst,i⟩:=s;rw[List.map_cons,M25];show U18 P d call ⟨g,dst,i⟩ T H nx z _=_;rw[J31,X10,hd];simp only[Y15];rw[K5,K5];exact X59 g k l _ H nx (K28 hw) (J23 hok) ((V21 (s:=⟨g0,dst,i⟩) hw hok).trans hd)
end
def G54(d:Nat)(g:Option (Nat × Bool))(T:K0 Value)(E no:K0 Value->Prop):Prop:=
 match g with
 | none=>False
 | some (t,want)=>tgK T t False fun v=>match v with
  | .bool b=>ifK (cond b want (!want)) (tsK d T t (.bool want) E) (tsK d T t (.bool (!want)) no)
  | _=>False
theorem Q51{J no:K0 Value->Prop}(hw:WF d T)(hg:okT d g=true)(h:G54 d g T J no):(Y9 g T=some true/\J T)\/(Y9 g T=some false/\no T):=by
 unfold G54 at h;unfold Y9 V8
 cases g with
 | none=>exact h.elim
 | some tw=>
  obtain⟨t,E⟩:=tw;have ht:t<2^d:=by simpa [okT] using hg
  dsimp only at h ⊢;rw[J11] at h ⊢
  cases hv:tg T t with
  | none=>rw[hv] at h;exact h.elim
  | some v=>
   rw[hv] at h;dsimp only[Option.elim_some] at h ⊢
   split at h
   .rename_i b
    dsimp only;rw[E14,Z15,Z15] at h;rw[E14]
    cases hb:cond b E (!E) with
    | true=>
     have:b=E:=by cases b<;>cases E<;>first | rfl | cases hb
     subst this;rw[hb,if_pos rfl,D49 d T t _ hw ht hv] at h;exact .inl ⟨rfl,h⟩
    | false=>
     have:b=(!E):=by cases b<;>cases E<;>first | rfl | cases hb
     subst this;rw[hb,if_neg (by simp),D49 d T t _ hw ht hv] at h;exact .inr ⟨rfl,h⟩
   .exact h.elim
def Q17(P:Program)(d:Nat)(k:K0 Value->Y0->Nat->Prop):List G->HT->K0 Value->Y0->Nat->Prop
 | [],_,T,H,nx=>k T H nx
 | (g,l) :: gs,ht,T,H,nx=>match ht with
  | .nil=>False
  | .one r=>V8 g T False (C9 P d (M8 P) False (Q17 P d k gs r) l T H nx) (Y15 d (fun T=>Q17 P d k gs r T H nx) l T)
  | .tst y n=>G54 d g T (fun T=>C9 P d (M8 P) False (Q17 P d k gs y) l T H nx) (fun T=>Y15 d (fun T=>Q17 P d k gs n T H nx) l T)
section
variable {P:Program} {d n:Nat} {ops:List Oper}
theorem W19{l2:List S}:∀ {l1:List S} {suf:List Oper},R3 P n ops suf=some (l1++l2)->∃ s1 s2,suf=s1++s2/\R3 P n ops s1=some l1/\R3 P n ops s2=some l2
 | [],suf,h=>⟨[],suf,rfl,rfl,h⟩
 | s :: l1,[],h=>by simp[R3] at h
 | s :: l1,o :: suf,h=>by
  simp only[R3] at h
  cases hs:K16 P n ops o with
  | none=>simp[hs] at h
  | some s'=>cases hl:R3 P n ops suf with
   | none=>simp[hs,hl] at h
   | some l'=>
    simp[hs,hl] at h;obtain⟨rfl,rfl⟩:=h;obtain⟨s1,s2,h1,h2,h3⟩:=W19 hl;exact⟨o :: s1,s2,by rw[h1];rfl,by simp[R3,hs,h2],h3⟩
theorem J34(g:Option (Nat × Bool)):∀(l:List S),Q10 (l.map (Y8 g))=Q10 l
 | []=>rfl
 | s :: l=>by simp[Q10,J34 g l,Y8]
def X28:List G->List Nat
 | []=>[]
 | (_,l) :: gs=>Q10 l++X28 gs
theorem W27{T:K0 Value}{k:K0 Value->Y0->Nat->Prop}(hw:WF d T)(E:okL d g l=true)
  (h:(Y9 g T=some true/\C9 P d (M8 P) False k l T H nx)\/(Y9 g T=some false/\Y15 d (fun T=>k T H nx) l T)):C9 P d (M8 P) False k (l.map (Y8 g)) T H nx:=by
 rcases h with ⟨hd,h⟩ | ⟨hd,h⟩
 .rw[M49 g k l T H nx hw E hd];exact h
 .rw[X59 g k l T H nx hw E hd];exact h
theorem D33(hn:n<=2^d)(k:K0 Value->Y0->Nat->Prop):∀(gs:List G) (ht:HT) (suf:List Oper) (i:Nat),R3 P n ops suf=some (Q11 gs)->(∀ j,j<suf.length->suf[j]? = ops[i+j]?)->okG d gs=true->∀(T:K0 Value) (H:Y0) (nx:Nat),WF d T ->
  Q17 P d k gs ht T H nx->∃ T' H' nx',k T' H' nx'/\WF d T'/\U8 n (X28 gs) T T' /\
   ∀(F:FM) (a:Act) (w:World) (Q:Exit->Act->World->Prop),TR d F T n a.tmps->HR F H nx w ->
    (∀ F' a' w',TR d F' T' n a'.tmps->N2 F H nx w F' H' nx' w'->a'.defers=a.defers->Q .normal a' w')->wpOps P ops.toArray Q (List.range' i suf.length) a w
 | [],ht,suf,i,hc,hsuf,hok,T,H,nx,hw,h=>by
  cases suf with
  | nil=>exact⟨T,H,nx,h,hw,U8.refl _ _ _,fun F a w Q ht hr hk=>hk F a w ht (N2.refl hr) rfl⟩
  | cons o suf=>
   simp only[Q11,R3] at hc
   split at hc<;>simp at hc
 | (g,l) :: gs,ht,suf,i,hc,hsuf,hok,T,H,nx,hw,h=>by
  simp only[okG,Bool.and_eq_true] at hok;obtain⟨s1,s2,rfl,a4,a1⟩:=W19 hc;have V:∃ E,C9 P d (M8 P) False (Q17 P d k gs E) (l.map (Y8 g)) T H nx:=by
   simp only[Q17] at h
   cases ht with
   | nil=>exact h.elim
   | one r=>
    dsimp only at h;rw[X10] at h;refine⟨r,W27 hw hok.1.1.1 ?_⟩
    cases hd:Y9 g T with
    | none=>rw[hd] at h;exact h.elim
    | some b=>
     rw[hd] at h
     cases b with
     | true=>exact .inl ⟨rfl,h⟩
     | false=>exact .inr ⟨rfl,h⟩
   | tst y m=>
    dsimp only at h;rcases Q51 hw hok.2 h with ⟨hd,h⟩ | ⟨hd,h⟩
    .exact⟨y,W27 hw hok.1.1.1 (.inl ⟨hd,h⟩)⟩
    .exact⟨m,W27 hw hok.1.1.1 (.inr ⟨hd,h⟩)⟩
  obtain⟨E,h'⟩:=V;have Z:∀ j,j<s1.length->s1[j]? = ops[i+j]? := fun j hj=>by
   have:=hsuf j (by simp;omega);rw[List.getElem?_append_left hj] at this;exact this
  have a6:∀ j,j<s2.length->s2[j]? = ops[i+s1.length+j]? := fun j hj=>by
   have:=hsuf (s1.length+j) (by simp;omega);rw[List.getElem?_append_right (by omega)] at this;simpa [Nat.add_assoc] using this
  rcases D37 (d:=d) hn (X48 P) False (Q17 P d k gs E) s1 _ i a4 Z T H nx with h1 | ⟨T1,H1,nx1,h1,hw1,hp1⟩
  .rw[h1] at h';exact h'.elim
  .rw[h1] at h'
   obtain⟨T2,H2,nx2,h2,a0,a5,a3⟩:=D33 hn k gs E s2 (i+s1.length) a1 a6 hok.1.2 T1 H1 nx1 (hw1 hw).1 h';refine⟨T2,H2,nx2,h2,a0,?_,fun F a w Q ht hr hk => ?_⟩
   .have:=(hw1 hw).2
    rw[J34] at this;exact this.trans a5
   .have e:List.range' i (s1++s2).length=List.range' i s1.length++List.range' (i+s1.length) s2.length:=by
     rw[List.length_append,<- List.range'_append];simp
    rw[e];refine hp1 F a w Q _ ht hr fun F' a' w' E U a7 => ?_
    exact a3 F' a' w' Q E U.hr fun F2 a2 w2 W O J=>hk F2 a2 w2 W (U.trans O) (J.trans a7)
end
end Go.Clo
