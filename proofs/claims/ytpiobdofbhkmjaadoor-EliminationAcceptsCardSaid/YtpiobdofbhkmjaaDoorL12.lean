/-
  The closed executor: code,calls,and what a run says.
  The closed executor: results,calls,and what a run says.
-/
import Derived.Test.YtpiobdofbhkmjaaDoorL11
import Derived.Below
set_option linter.unusedSimpArgs false
set_option linter.unusedVariables false
set_option linter.unusedSectionVars false
namespace Go.Clo
variable {β:Type}
inductive Ox where
 | n
 | x (id:Nat)
 | r
def Ox.exit:Ox->Exit
 | .n => .normal
 | .x id => .exit id
 | .r => .ret
def Ox.go (k:K β) (x:Nat->K β) (r:K β):Ox->K β
 | .n=>k
 | .x id=>x id
 | .r=>r
def J79 (P:Program) (d n:Nat) (c:Code) (T:U1 Value) (H:Y0) (nx:Nat) (o:Ox) (T':U1 Value) (H':Y0) (nx':Nat):Prop:=
 ∀ (F:FM) (a:Act) (w:World) (Q:Exit->Act->World->Prop),TR d F T n a.tmps->HR F H nx w ->
  (∀ F' a' w',TR d F' T' n a'.tmps->U5 F H nx w F' H' nx' w'->a'.defers=a.defers->Q o.exit a' w')->c.wp P Q a w
noncomputable def R50 (z:β) (c:U1 Value->Y0->Nat->K β->β) (m:Nat):K β:=
 @Nat.rec (fun _=>K β) (fun _ _ _=>z) (fun _ ih T H nx=>c T H nx ih) m
theorem R91 (m:Nat) (z:β) (f:K β->K β):Z66 m z f=R50 z (fun T H nx k=>f k T H nx) m:=rfl
def G73 (fx:U25 β):Prop:=∀ (z:β) (f:K β->K β) (T:U1 Value) (H:Y0) (nx:Nat),∃ m,fx z f T H nx=R50 z (fun T H nx k=>f k T H nx) m T H nx
theorem V92 (m:Nat):G73 (β:=β) (Z66 m):=fun z f T H nx=>⟨m,by rw[R91]⟩
theorem W75 (c:C) (P:Program) (d:Nat) (call:B5 β) (chk:G20 β) (fx:U25 β) (z:β) (T:U1 Value) (H:Y0) (nx:Nat) (k:K β) (x:Nat->K β) (r:K β):
  Y12 (.loop c) P d call chk fx z T H nx k x r=fx z (fun ih T H nx=>Y12 c P d call chk fx z T H nx ih x r) T H nx:=rfl
section
variable {β:Type} {P:Program} {d n:Nat}
theorem Y77 (hm:P.follows .mixedOrders=true) (hn:n<=2^d) {call:B5 β} (hcall:D19 P call) {chk:G20 β} (hchk:D52 P chk) {fx:U25 β} (hfx:G73 fx) (z:β):∀ (U9:Code) (c:C),Q5 P n U9=some c->∀ (T:U1 Value) (H:Y0) (nx:Nat) (k:K β) (x:Nat->K β) (r:K β),WF d T ->
  Y12 c P d call chk fx z T H nx k x r=z\/∃ o T' H' nx',Y12 c P d call chk fx z T H nx k x r=o.go k x r T' H' nx'/\WF d T'/\J79 P d n U9 T H nx o T' H' nx':=by
 intro U9
 induction U9 with
 | skip=>
  intro c hc T H nx k x r hw
  simp[Q5] at hc;subst hc
  exact .inr ⟨.n,T,H,nx,rfl,hw,fun F a w Q ht hr hk=>wp_skip (hk F a w ht (U5.refl hr) rfl)⟩
 | label l=>
  intro c hc T H nx k x r hw
  simp[Q5] at hc;subst hc
  exact .inr ⟨.n,T,H,nx,rfl,hw,fun F a w Q ht hr hk=>wp_label (hk F a w ht (U5.refl hr) rfl)⟩
 | exit id=>
  intro c hc T H nx k x r hw
  simp[Q5] at hc;subst hc
  exact .inr ⟨.x id,T,H,nx,rfl,hw,fun F a w Q ht hr hk=>wp_exit (hk F a w ht (U5.refl hr) rfl)⟩
 | ret=>
  intro c hc T H nx k x r hw
  simp[Q5] at hc;subst hc
  exact .inr ⟨.r,T,H,nx,rfl,hw,fun F a w Q ht hr hk=>wp_ret (hk F a w ht (U5.refl hr) rfl)⟩
 | goto l=>intro c hc;simp[Q5] at hc
 | refuse why=>intro c hc;simp[Q5] at hc
 | rangeFunc f ps as b _ _=>intro c hc;simp[Q5] at hc
 | region id ops draw=>
  intro c hc T H nx k x r hw
  simp only[Q5] at hc
  cases hl:Y7 P n ops.toList ops.toList with
  | none=>simp[hl] at hc
  | some l=>
   simp only[hl] at hc
   cases draw with
   | false=>
    simp at hc;subst hc
    show Y14 P d call z k l T H nx=z\/∃ o T' H' nx',Y14 P d call z k l T H nx=_/\_
    rcases K79 (d:=d) hn hcall z k ops.toList l 0 hl (by simp) T H nx with h | ⟨T',H',nx',h,hw',hp⟩
    .exact .inl h
    .refine .inr ⟨.n,T',H',nx',h,(hw' hw).1,fun F a w Q ht hr hk=>wp_region ?_⟩
     have:=hp F a w Q ht hr hk
     simpa [List.range_eq_range'] using this
   | true=>
    cases hs:U22 (Z3 ops.toList) ops.toList ops.toList 0 with
    | false=>simp[hs] at hc
    | true=>
     simp[hs] at hc;subst hc
     show W44 P d call chk z (Z3 ops.toList) l T H nx k=z\/∃ o T' H' nx',W44 P d call chk z (Z3 ops.toList) l T H nx k=_/\_
     rcases N75 hm hl hs hn hcall hchk T H nx z k hw with h | ⟨T',H',nx',h,hw',hp⟩
     .exact .inl h
     .refine .inr ⟨.n,T',H',nx',h,hw'.1,fun F a w Q ht hr hk => ?_⟩
      have:=hp id F a w Q ht hr hk
      simpa using this
 | seq a b iha ihb=>
  intro c hc T H nx k x r hw
  simp only[Q5] at hc
  cases ha:Q5 P n a with
  | none=>simp[ha] at hc
  | some ca=>cases hb:Q5 P n b with
   | none=>simp[ha,hb] at hc
   | some cb=>
    simp[ha,hb] at hc;subst hc
    show Y12 ca P d call chk fx z T H nx (fun T H nx=>Y12 cb P d call chk fx z T H nx k x r) x r=z\/∃ o T' H' nx',Y12 ca P d call chk fx z T H nx (fun T H nx=>Y12 cb P d call chk fx z T H nx k x r) x r=_/\_
    rcases iha ca ha T H nx (fun T H nx=>Y12 cb P d call chk fx z T H nx k x r) x r hw with h | ⟨o,T1,H1,nx1,h,hw1,hok⟩
    .exact .inl h
    .cases o with
     | n=>
      rw[h]
      rcases ihb cb hb T1 H1 nx1 k x r hw1 with h2 | ⟨o2,T2,H2,nx2,h2,hw2,hok2⟩
      .exact .inl h2
      .refine .inr ⟨o2,T2,H2,nx2,h2,hw2,fun F ac w Q ht hr hk=>wp_seq (hok F ac w _ ht hr fun F' a' w' ht' hst hdf => ?_)⟩
       exact hok2 F' a' w' Q ht' hst.hr fun F2 a2 w2 ht2 hst2 hdf2=>hk F2 a2 w2 ht2 (hst.trans hst2) (hdf2.trans hdf)
     | x id=>exact .inr ⟨.x id,T1,H1,nx1,h,hw1,fun F ac w Q ht hr hk=>wp_seq (hok F ac w _ ht hr fun F' a' w' ht' hst hdf=>hk F' a' w' ht' hst hdf)⟩
     | r=>exact .inr ⟨.r,T1,H1,nx1,h,hw1,fun F ac w Q ht hr hk=>wp_seq (hok F ac w _ ht hr fun F' a' w' ht' hst hdf=>hk F' a' w' ht' hst hdf)⟩
 | cond v a b iha ihb=>
  intro c hc T H nx k x r hw
  simp only[Q5] at hc
  cases hv:Q2 n v with
  | none=>simp[hv] at hc
  | some cv=>cases ha:Q5 P n a with
   | none=>simp[hv,ha] at hc
   | some ca=>cases hb:Q5 P n b with
    | none=>simp[hv,ha,hb] at hc
    | some cb=>
     simp[hv,ha,hb] at hc;subst hc
     show (E7 T cv fun v=>match v with
      | .bool b=>ifK b (Y12 ca P d call chk fx z T H nx k x r) (Y12 cb P d call chk fx z T H nx k x r)
      | _=>z)=z\/∃ o T' H' nx',(E7 T cv fun v=>match v with
      | .bool b=>ifK b (Y12 ca P d call chk fx z T H nx k x r) (Y12 cb P d call chk fx z T H nx k x r)
      | _=>z)=_/\_
     rw[N4]
     split
     .rename_i t hvt
      rw[D22]
      have hev:∀ (F:FM) (ac:Act),TR d F T n ac.tmps->ac.eval v = .bool t:=fun F ac ht=>by
       have:=ht.evX hv
       rw[hvt] at this
       exact this.bool_inv
      cases t with
      | true=>
       rcases iha ca ha T H nx k x r hw with h | ⟨o,T1,H1,nx1,h,hw1,hok⟩
       .exact .inl h
       .exact .inr ⟨o,T1,H1,nx1,h,hw1,fun F ac w Q ht hr hk=>wp_cond_true (hev F ac ht) (hok F ac w Q ht hr hk)⟩
      | false=>
       rcases ihb cb hb T H nx k x r hw with h | ⟨o,T1,H1,nx1,h,hw1,hok⟩
       .exact .inl h
       .exact .inr ⟨o,T1,H1,nx1,h,hw1,fun F ac w Q ht hr hk=>wp_cond_false (hev F ac ht) (hok F ac w Q ht hr hk)⟩
     .exact .inl rfl
 | block id a iha=>
  intro c hc T H nx k x r hw
  simp only[Q5] at hc
  cases ha:Q5 P n a with
  | none=>simp[ha] at hc
  | some ca=>
   simp[ha] at hc;subst hc
   show Y12 ca P d call chk fx z T H nx k (fun id' T H nx=>cond (Nat.beq id' id) (k T H nx) (x id' T H nx)) r=z\/∃ o T' H' nx',Y12 ca P d call chk fx z T H nx k (fun id' T H nx=>cond (Nat.beq id' id) (k T H nx) (x id' T H nx)) r=_/\_
   rcases iha ca ha T H nx k (fun id' T H nx=>cond (Nat.beq id' id) (k T H nx) (x id' T H nx)) r hw with h | ⟨o,T1,H1,nx1,h,hw1,hok⟩
   .exact .inl h
   .cases o with
    | n=>exact .inr ⟨.n,T1,H1,nx1,h,hw1,fun F ac w Q ht hr hk=>wp_block (hok F ac w _ ht hr fun F' a' w' ht' hst hdf=>hk F' a' w' ht' hst hdf)⟩
    | r=>exact .inr ⟨.r,T1,H1,nx1,h,hw1,fun F ac w Q ht hr hk=>wp_block (hok F ac w _ ht hr fun F' a' w' ht' hst hdf=>hk F' a' w' ht' hst hdf)⟩
    | x id'=>
     cases hid:Nat.beq id' id with
     | true=>
      have e:=Nat.eq_of_beq_eq_true hid
      subst e
      refine .inr ⟨.n,T1,H1,nx1,by rw[h];simp[Ox.go],hw1,fun F ac w Q ht hr hk=>wp_block (hok F ac w _ ht hr fun F' a' w' ht' hst hdf => ?_)⟩
      simp only[Ox.exit,Exit.inBlock,if_true]
      exact hk F' a' w' ht' hst hdf
     | false=>
      have e:id'≠id:=fun e=>by subst e;simp at hid
      refine .inr ⟨.x id',T1,H1,nx1,by rw[h];simp[Ox.go,hid],hw1,fun F ac w Q ht hr hk=>wp_block (hok F ac w _ ht hr fun F' a' w' ht' hst hdf => ?_)⟩
      simp only[Ox.exit,Exit.inBlock,e,if_false]
      exact hk F' a' w' ht' hst hdf
 | scope a iha=>
  intro c hc T H nx k x r hw
  simp only[Q5] at hc
  rcases iha c hc T H nx k x r hw with h | ⟨o,T1,H1,nx1,h,hw1,hok⟩
  .exact .inl h
  .refine .inr ⟨o,T1,H1,nx1,h,hw1,fun F ac w Q ht hr hk=>wp_scope_straight (hok F ac w _ ht hr fun F' a' w' ht' hst hdf => ?_)⟩
   cases o<;>exact hk F' a' w' ht' hst hdf
 | loop a iha=>
  intro c hc T H nx k x r hw
  simp only[Q5] at hc
  cases ha:Q5 P n a with
  | none=>simp[ha] at hc
  | some ca=>
   simp[ha] at hc;subst hc
   have rounds:∀ (m:Nat) (T:U1 Value) (H:Y0) (nx:Nat),WF d T ->
     R50 z (fun T H nx k=>Y12 ca P d call chk fx z T H nx k x r) m T H nx=z \/
     ∃ (o:Ox) (T':U1 Value) (H':Y0) (nx':Nat),R50 z (fun T H nx k=>Y12 ca P d call chk fx z T H nx k x r) m T H nx=o.go k x r T' H' nx'/\WF d T' /\
      ∀ (F:FM) (ac:Act) (w:World) (Q:Exit->Act->World->Prop),TR d F T n ac.tmps->HR F H nx w ->
       (∀ F' a' w',TR d F' T' n a'.tmps->U5 F H nx w F' H' nx' w'->a'.defers=ac.defers->Q o.exit a' w')->Code.rounds P a Q m ac w:=by
    intro m
    induction m with
    | zero=>intro T H nx _;exact .inl rfl
    | succ m ihm=>
     intro T H nx hw
     rcases iha ca ha T H nx (R50 z (fun T H nx k=>Y12 ca P d call chk fx z T H nx k x r) m) x r hw with h | ⟨o,T1,H1,nx1,h,hw1,hok⟩
     .exact .inl h
     .cases o with
      | n=>
       rcases ihm T1 H1 nx1 hw1 with h2 | ⟨o2,T2,H2,nx2,h2,hw2,hok2⟩
       .exact .inl (h.trans h2)
       .refine .inr ⟨o2,T2,H2,nx2,h.trans h2,hw2,fun F ac w Q ht hr hk => ?_⟩
        rw[rounds_succ]
        refine hok F ac w _ ht hr fun F' a' w' ht' hst hdf => ?_
        exact hok2 F' a' w' Q ht' hst.hr fun F2 a2 w2 ht2 hst2 hdf2=>hk F2 a2 w2 ht2 (hst.trans hst2) (hdf2.trans hdf)
      | x id=>
       refine .inr ⟨.x id,T1,H1,nx1,h,hw1,fun F ac w Q ht hr hk => ?_⟩
       rw[rounds_succ]
       exact hok F ac w _ ht hr fun F' a' w' ht' hst hdf=>hk F' a' w' ht' hst hdf
      | r=>
       refine .inr ⟨.r,T1,H1,nx1,h,hw1,fun F ac w Q ht hr hk => ?_⟩
       rw[rounds_succ]
       exact hok F ac w _ ht hr fun F' a' w' ht' hst hdf=>hk F' a' w' ht' hst hdf
   rw[W75]
   obtain⟨m,hm'⟩:=hfx z (fun ih T H nx=>Y12 ca P d call chk fx z T H nx ih x r) T H nx
   rw[hm']
   rcases rounds m T H nx hw with h | ⟨o,T1,H1,nx1,h,hw1,hok⟩
   .exact .inl h
   .exact .inr ⟨o,T1,H1,nx1,h,hw1,fun F ac w Q ht hr hk=>wp_loop_rounds m (hok F ac w Q ht hr hk)⟩
end
end Go.Clo

namespace Go.Clo
variable {F:FM} {args:List Value} {f:FuncId} {fn:Func} {β:Type}
section
variable {P:Program} {d n:Nat}
def Y53 (tmps:Array Value):ResultVar->Sem Value
 | .tmp t=>pure (tmps.getD t undef)
 | .cell a t=>do loadVar t (<- asAddr (tmps.getD a undef))
def U47 (tmps:Array Value):List ResultVar->Sem (List Value)
 | []=>pure []
 | r :: rs=>do
  let v <- Y53 tmps r
  let vs <- U47 tmps rs
  pure (v :: vs)
theorem N90 (tmps:Array Value) (l:List ResultVar):l.mapM (Y53 tmps)=U47 tmps l:=by
 induction l with
 | nil=>rfl
 | cons r l ih=>simp only[List.mapM_cons,ih,U47]
theorem B44 {tmps:Array Value} {w:World} {vs:List Value} (h:(U47 tmps fn.results.toList).run P w = .ok vs w):
  (results fn tmps).run P w = .ok (tup vs) w:=by
 have e:results fn tmps=(do let vs <- fn.results.mapM (Y53 tmps);pure (if h:vs.size=1 then vs[0] else .tuple vs)):=by
  unfold results
  congr 1
 rw[e,Array.mapM_eq_mapM_toList,N90]
 simp only[Sem.run_bind,Sem.run_map,h,Result.andThen_ok,Sem.run_pure]
 match vs with
 | []=>rfl
 | [v]=>rfl
 | v :: v' :: vs=>rfl
theorem D50 {T:U1 Value} {H:Y0} {nx:Nat} (z:β):∀ (rs:List ResultVar) (l:List (X × Option (Option Nat))),E27 P n rs=some l->∀ (k:List Value->β),
  G42 P T H z k l=z\/∃ vs,G42 P T H z k l=k vs/\∀ (F:FM) (tmps:Array Value) (w:World),TR d F T n tmps->HB F H nx w ->
   ∃ vs',(U47 tmps rs).run P w = .ok vs' w/\VL F vs vs':=by
 intro rs
 induction rs with
 | nil=>
  intro l hl k
  simp[E27] at hl;subst hl
  exact .inr ⟨[],rfl,fun F tmps w _ _=>⟨[],rfl,.nil⟩⟩
 | cons r rs ih=>
  intro l hl k
  simp only[E27] at hl
  cases hrs:E27 P n rs with
  | none=>rw[hrs] at hl;split at hl<;>simp_all
  | some l2=>
   rw[hrs] at hl
   cases r with
   | tmp t=>
    cases ht:Nat.blt t n with
    | false=>simp[ht] at hl
    | true=>
     simp only[ht,cond_true,Option.some.injEq] at hl;subst hl
     have htn:t<n:=by simpa [Nat.blt_eq] using ht
     simp only[G42]
     rw[N4]
     rcases ih l2 hrs (fun vs=>k (ev T (.s t) :: vs)) with h | ⟨vs,h,hok⟩
     .exact .inl h
     .refine .inr ⟨_,h,fun F tmps w htr hb => ?_⟩
      obtain⟨vs',h1,h2⟩:=hok F tmps w htr hb
      refine⟨tmps.getD t undef :: vs',?_,.cons ?_ h2⟩
      .simp only[U47,Y53,Sem.run_bind,Sem.run_pure,Result.andThen_ok,h1]
      .rw[G76];exact htr.get t htn
   | cell a t=>
    cases ht:Nat.blt a n with
    | false=>simp[ht] at hl
    | true=>
     cases hsh:X15 P t with
     | none=>simp[ht,hsh] at hl
     | some sh=>
      simp only[ht,hsh,cond_true,Option.map_some,Option.some.injEq] at hl;subst hl
      have htn:a<n:=by simpa [Nat.blt_eq] using ht
      simp only[G42]
      show rLd (.s a) sh T H z _=z\/∃ vs,rLd (.s a) sh T H z _=_/\_
      rcases M56 (nx:=nx) (T:=T) (H:=H) hsh (.s a) z (fun v=>G42 P T H z (fun vs=>k (v :: vs)) l2) with h | ⟨v,h,hp⟩
      .exact .inl h
      .rw[h]
       rcases ih l2 hrs (fun vs=>k (v :: vs)) with h | ⟨vs,h,hok⟩
       .exact .inl h
       .refine .inr ⟨_,h,fun F tmps w htr hb => ?_⟩
        obtain⟨vs',h1,h2⟩:=hok F tmps w htr hb
        obtain⟨ad,v',he,hr,hv⟩:=hp F (tmps.getD a undef) w (by rw[G76];exact htr.get a htn) hb
        refine⟨v' :: vs',?_,.cons hv h2⟩
        have ha:(asAddr (tmps.getD a undef)).run P w = .ok ad w:=by rw[he];rfl
        simp only[U47,Y53,Sem.run_bind,ha,hr,Sem.run_pure,Result.andThen_ok,h1]
theorem M81 {l l':List Value} (h:VL F l l'):VR F (tup l) (tup l'):=by
 cases h with
 | nil=>exact VR.tuple' .nil
 | cons h t=>
  cases t with
  | nil=>exact h
  | cons h2 t=>exact VR.tuple' (.cons h (.cons h2 t))
noncomputable def J33 (d:Nat):List Value->Nat->U1 Value->U1 Value
 | [],_,T=>T
 | v :: l,i,T=>J33 d l (i+1) (ts d T i v)
theorem W47 {β:Type} (d:Nat) (f:U1 Value->β):∀ (l:List Value) (i:Nat) (T:U1 Value),B53 d l i T f=f (J33 d l i T)
 | [],_,_=>rfl
 | v :: l,i,T=>by simp only[B53,J33];rw[X23];exact W47 d f l _ _
theorem X39 (d:Nat):∀ (l:List Value) (i:Nat) (T:U1 Value),WF d T->WF d (J33 d l i T)
 | [],_,_,h=>h
 | v :: l,i,T,h=>X39 d l (i+1) _ (B25 d T i v h)
theorem R56 (d:Nat):∀ (l:List Value) (i:Nat) (T:U1 Value) (j:Nat),WF d T->i+l.length<=2^d->j<2^d ->
  tg (J33 d l i T) j=if i<=j/\j<i+l.length then l[j-i]? else tg T j
 | [],i,T,j,_,_,_=>by simp[J33];omega
 | v :: l,i,T,j,hw,hl,hj=>by
  simp only[J33]
  simp only[List.length_cons] at hl
  rw[R56 d l (i+1) _ j (B25 d T i v hw) (by omega) hj,Z32 d T i j v hw (by omega) hj]
  by_cases h1:j=i
  .subst h1;rw[if_neg (by omega),if_pos rfl,if_pos (by simp)];simp
  .by_cases h2:i<=j/\j<i+(l.length+1)
   .rw[if_pos (by omega),if_pos (by simpa using h2)]
    have:j-i=(j-(i+1))+1:=by omega
    rw[this];simp
   .rw[if_neg (by omega),if_neg h1,if_neg (by simpa using h2)]
theorem B64 {args':List Value} (hv:VL F args args') (hn:n<=2^d) (hl:args.length<=n):
  TR d F (J33 d args 0 .leaf) n (args'.toArray++Array.replicate (n-args'.toArray.size) undef):=by
 have hll:=hv.length
 have wl:WF d (.leaf:U1 Value):=by cases d<;>trivial
 refine⟨X39 d args 0 _ wl,by simp;omega,hn,fun t ht => ?_⟩
 rw[R56 d args 0 .leaf t wl (by omega) (by omega)]
 by_cases h:t<args.length
 .rw[if_pos (by omega)]
  have h':t<args'.length:=by omega
  have e1:args[t-0]? = some args[t]:=by simp[h]
  rw[e1]
  have e2:(args'.toArray++Array.replicate (n-args'.toArray.size) undef).getD t undef=args'[t]:=by
   simp[Array.getD_eq_getD_getElem?,Array.getElem?_append,h']
  rw[e2]
  exact hv.get t _ _ (by simp[h]) (by simp[h'])
 .rw[if_neg (by omega)]
  have e2:(args'.toArray++Array.replicate (n-args'.toArray.size) undef).getD t undef=undef:=by
   rw[Array.getD_eq_getD_getElem?,Array.getElem?_append,if_neg (by simp;omega),Array.getElem?_replicate]
   split<;>rfl
  rw[e2]
  exact VR.undef F
def V61 (P:Program) (orc:Orc):Prop:=
 ∀ f o,orc f=some o->∀ args H nx v H' nx',o args H nx=some (v,H',nx')->CS P f args H nx v H' nx'
theorem Y88 (P:Program):V61 P U89:=fun _ _ h=>by cases h
def J29 (P : Program) : Prop := ∀ (f : FuncId) (fn : Func), P.funcs[f]? = some fn -> (fn.name == "runtime.NumGoroutine") = false
theorem Z77 (hm : P.follows .mixedOrders = true) {c : Code} {body : C} {res : List (X × Option (Option Nat))} (hf : P.funcs[f]? = some fn) (hname : (fn.name == "runtime.NumGoroutine") = false) (hb : fn.body = some c)
  (hc:Q5 P fn.ntmps c=some body) (hres:E27 P fn.ntmps fn.results.toList=some res) (hd:fn.ntmps<=2^d) {call:B5 β} (hcall:D19 P call) {chk:G20 β} (hchk:D52 P chk) {fx:U25 β} (hfx:G73 fx) (args:List Value) (H:Y0) (nx:Nat) (z:β) (k:Value->Y0->Nat->β):
  E43 P call chk fx args H nx z k fn.ntmps d body res=z\/∃ v H' nx',E43 P call chk fx args H nx z k fn.ntmps d body res=k v H' nx'/\CS P f args H nx v H' nx':=by
 unfold E43
 cases hl:Nat.ble args.length fn.ntmps with
 | false=>exact .inl rfl
 | true=>
  have hl:=Nat.le_of_ble_eq_true hl
  simp only[cond_true]
  rw[W47]
  have wl:WF d (.leaf:U1 Value):=by cases d<;>trivial
  have hw:=X39 d args 0 .leaf wl
  rcases Y77 hm hd hcall hchk hfx z c body hc _ H nx (U30 P res z k) (fun _ _ _ _=>z) (U30 P res z k) hw with h | ⟨o,T',H',nx',h,hw',hok⟩
  .exact .inl h
  .rw[h]
   have fin:∀ (hx:o = .n\/o = .r),U30 P res z k T' H' nx'=z\/∃ v H'' nx'',U30 P res z k T' H' nx'=k v H'' nx''/\CS P f args H nx v H'' nx'':=by
    intro hx
    unfold U30
    rcases D50 (d:=d) (T:=T') (H:=H') (nx:=nx') z _ res hres (fun vs=>W1 (tup vs) fun v=>k v H' nx') with h2 | ⟨vs,h2,hok2⟩
    .exact .inl h2
    .rw[h2,N7]
     refine .inr ⟨tup vs,H',nx',rfl,⟨fn,c,hf,hb,hname⟩,fun F args' w hr hv => ?_⟩
     refine calls_of_wp hf hb (hok F _ w _ (B64 hv hd hl) hr fun F' a' w' ht' hst hdf => ?_)
     obtain⟨vs',h3,h4⟩:=hok2 F' a'.tmps w' ht' hst.hr.hb
     have hpost:a'.defers=[]/\∃ v,(results fn a'.tmps).run P w' = .ok v w'/\(∃ v' F',Ending.returned v = .returned v'/\VR F' (tup vs) v'/\U5 F H nx w F' H' nx' w'):=
      ⟨hdf,tup vs',B44 h3,tup vs',F',rfl,M81 h4,hst⟩
     rcases hx with rfl | rfl<;>exact hpost
   cases o with
   | n=>exact fin (.inl rfl)
   | x id=>exact .inl rfl
   | r=>exact fin (.inr rfl)
theorem Y35 {β:Type} (hm:P.follows .mixedOrders=true) (hNG:J29 P) {orc:Orc} (ho:V61 P orc):∀ n,D19 (β:=β) P (B61 P orc n)
 | 0=>fun f args H nx z k => .inl rfl
 | n+1=>by
  intro f args H nx z k
  show (match orc f with
   | some o=>(match o args H nx with
    | some (v,H,nx)=>k v H nx
    | none=>z)
   | none=>match cfn P f with
    | some ⟨n',d,body,res⟩=>E43 P (B61 P orc n) (M63 P) (Z66 1000000) args H nx z k n' d body res
    | none=>z)=z\/∃ v H' nx',(match orc f with
   | some o=>(match o args H nx with
    | some (v,H,nx)=>k v H nx
    | none=>z)
   | none=>match cfn P f with
    | some ⟨n',d,body,res⟩=>E43 P (B61 P orc n) (M63 P) (Z66 1000000) args H nx z k n' d body res
    | none=>z)=k v H' nx'/\_
  cases hof:orc f with
  | some o=>
   dsimp only
   cases hoo:o args H nx with
   | none=>exact .inl rfl
   | some r=>obtain⟨v,H',nx'⟩:=r;exact .inr ⟨v,H',nx',rfl,ho f o hof _ _ _ _ _ _ hoo⟩
  | none=>
   dsimp only
   cases hcf:cfn P f with
   | none=>exact .inl rfl
   | some r=>
    unfold cfn at hcf
    rw[C14] at hcf
    cases hf:P.funcs.toList[f]? with
    | none=>simp[hf] at hcf
    | some fn=>
     simp only[hf] at hcf
     have hf':P.funcs[f]? = some fn:=by simpa using hf
     cases hb:fn.body with
     | none=>simp[hb] at hcf
     | some c=>
      simp only[hb] at hcf
      cases hc:Q5 P fn.ntmps c with
      | none=>simp[hc] at hcf
      | some body=>
       cases hres:E27 P fn.ntmps fn.results.toList with
       | none=>simp[hc,hres] at hcf
       | some res=>
        simp only[hc,hres,Option.some.injEq] at hcf;subst hcf
        dsimp only
        exact Z77 hm hf' (hNG f fn hf') hb hc hres (Nat.le_of_lt Nat.lt_log2_self) (Y35 hm hNG ho n) (B93 P) (V92 _) args H nx z k
theorem R79 {orc:Orc} (hm:P.follows .mixedOrders=true) (hNG:J29 P) (ho:V61 P orc) {v:Value} (hr:J66 P orc n f args=some v) (ha:args.all W9=true) (hv:C11 v=true) (w:World) (hgw:GlW w):
  Calls P f args.toArray w fun e w'=>e = .returned v/\RowKit.Below w.heap.size w w':=by
 unfold J66 at hr
 rcases Y35 (β:=Option Value) hm hNG ho n f args .leaf 0 none (fun v _ _=>some v) with h | ⟨v',H',nx',h,hcs⟩
 .rw[h] at hr;cases hr
 .rw[h] at hr;cases hr
  have h0:HR (fun _=>none) .leaf 0 w:=
   ⟨fun i b hi=>by omega,fun i j bi bj ti tj hi=>by omega,fun _ _=>rfl,fun _ _=>rfl,⟨hgw,fun x hx ⟨i,_,_,hi,_⟩=>by omega⟩⟩
  refine (hcs.2 (fun _=>none) args w h0 (R14 _ args ha)).mono fun e w' ⟨v',F',he,hvr,hst⟩ => ?_
  refine⟨by rw[he,V70 hvr hv],hst.os,hst.tape,hst.output,hst.size,fun b hb=>hst.frame b hb fun⟨i,_,_,hi,_⟩=>by omega⟩
end
end Go.Clo
