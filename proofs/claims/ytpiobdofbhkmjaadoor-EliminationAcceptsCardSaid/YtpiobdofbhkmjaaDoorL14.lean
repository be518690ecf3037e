/-
  The executor as a claim: what the claim of a function's code says of its calls.
  The executor as a claim: what each operation asks,value by value.
  The executor as a claim: rules for proofs.
-/
import Derived.Test.YtpiobdofbhkmjaaDoorL13
set_option linter.unusedSimpArgs false
set_option linter.unusedVariables false
set_option linter.unusedSectionVars false
namespace Go.Clo
theorem U46:∀ (gs:List G),X17 (W19 gs)=M43 gs
 | []=>rfl
 | (g,l) :: gs=>by
  have app:∀ (a b:List S),X17 (a++b)=X17 a++X17 b:=by
   intro a b
   induction a with
   | nil=>rfl
   | cons s a ih=>simp[X17,ih]
  have mp:∀ (a:List S),X17 (a.map (D13 g))=X17 a:=by
   intro a
   induction a with
   | nil=>rfl
   | cons s a ih=>simp[X17,ih,D13]
  simp only[W19,M43]
  rw[app,mp,U46 gs]
section
variable {P:Program} {d n:Nat}
theorem X84 (hm:P.follows .mixedOrders=true) (hn:n<=2^d):∀ (U9:Code) (c:D),Q5 P n U9=some c.erase->c.ok n d=true->∀ (T:U1 Value) (H:Y0) (nx:Nat) (k:K Prop) (x:Nat->K Prop) (r:K Prop),WF d T->wD P d c T H nx k x r ->
  ∃ o T' H' nx',Ox.go k x r o T' H' nx'/\WF d T'/\Agr n c.writes T T'/\J79 P d n U9 T H nx o T' H' nx':=by
 intro U9
 induction U9 with
 | skip=>
  intro c hc hok T H nx k x r hw hk
  simp only[Q5,Option.some.injEq] at hc
  cases c<;>simp[D.erase] at hc
  exact⟨.n,T,H,nx,hk,hw,Agr.refl _ _ _,fun F a w Q ht hr hk=>wp_skip (hk F a w ht (U5.refl hr) rfl)⟩
 | label l=>
  intro c hc hok T H nx k x r hw hk
  simp only[Q5,Option.some.injEq] at hc
  cases c<;>simp[D.erase] at hc
  exact⟨.n,T,H,nx,hk,hw,Agr.refl _ _ _,fun F a w Q ht hr hk=>wp_label (hk F a w ht (U5.refl hr) rfl)⟩
 | exit id=>
  intro c hc hok T H nx k x r hw hk
  simp only[Q5,Option.some.injEq] at hc
  cases c<;>simp[D.erase] at hc
  subst hc
  exact⟨.x id,T,H,nx,hk,hw,Agr.refl _ _ _,fun F a w Q ht hr hk=>wp_exit (hk F a w ht (U5.refl hr) rfl)⟩
 | ret=>
  intro c hc hok T H nx k x r hw hk
  simp only[Q5,Option.some.injEq] at hc
  cases c<;>simp[D.erase] at hc
  exact⟨.r,T,H,nx,hk,hw,Agr.refl _ _ _,fun F a w Q ht hr hk=>wp_ret (hk F a w ht (U5.refl hr) rfl)⟩
 | goto l=>intro c hc;simp[Q5] at hc
 | refuse why=>intro c hc;simp[Q5] at hc
 | rangeFunc f ps as b _ _=>intro c hc;simp[Q5] at hc
 | region id ops draw=>
  intro c hc hok T H nx k x r hw hk
  simp only[Q5] at hc
  cases hl:Y7 P n ops.toList ops.toList with
  | none=>simp[hl] at hc
  | some l=>
   simp only[hl] at hc
   cases draw with
   | false=>
    simp only[Option.some.injEq] at hc
    cases c<;>simp[D.erase] at hc
    rename_i gs hint
    subst hc
    obtain⟨T',H',nx',hk',hw',hg',hp⟩:=G50 (d:=d) hn k gs hint ops.toList 0 hl (fun j _=>by simp) hok T H nx hw hk
    refine⟨.n,T',H',nx',hk',hw',hg',fun F a w Q ht hr hk=>wp_region ?_⟩
    have:=hp F a w Q ht hr hk
    simpa [List.range_eq_range'] using this
   | true=>
    cases hs:U22 (Z3 ops.toList) ops.toList ops.toList 0 with
    | false=>simp[hs] at hc
    | true=>
     simp only[hs,cond_true,Option.some.injEq] at hc
     cases c<;>simp[D.erase] at hc
     rename_i ms gs hint
     obtain⟨rfl,rfl⟩:=hc
     simp only[wD] at hk
     rw[N2,V28 hl] at hk
     obtain⟨rc,T',h1,hall,hw',hT',h5⟩:=W58 (N:=nx) (H0:=H) (n0:=nx+ops.toList.length) (T0:=T) hn _ gs hint ops.toList [] T hl (by simp) hok trivial hw (fun t _=>rfl) hk
     rcases G90 P d n ops.toList nx H rc (M20 (Z3 ops.toList) nx (U4 rc) (hR H rc) (fun H=>k T' H (nR (nx+ops.toList.length) rc)) (E6 rc)) False with h | ⟨h,hrs⟩
     .rw[h] at h5;exact h5.elim
     .rw[h,B38] at h5
      refine⟨.n,T',_,_,h5,hw',?_,fun F a w Q ht hr hk => ?_⟩
      .have hv:Agr n (X17 (W19 gs)) T T':=fun j hj hne=>by rw[hT' j hj];exact W39 (Q34 hl) hne
       rw[U46] at hv;exact hv
      .have:=Y57 hm hs hn (by simpa using h1) hall hw' hT' hrs id F a w Q ht hr hk
       simpa using this
 | seq a b iha ihb=>
  intro c hc hok T H nx k x r hw hk
  simp only[Q5] at hc
  cases ha:Q5 P n a with
  | none=>simp[ha] at hc
  | some ca=>cases hb:Q5 P n b with
   | none=>simp[ha,hb] at hc
   | some cb=>
    simp only[ha,hb,Option.some.injEq] at hc
    cases c<;>simp only[D.erase,C.seq.injEq,reduceCtorEq] at hc
    .rename_i da db
     obtain⟨rfl,rfl⟩:=hc
     simp only[D.ok,Bool.and_eq_true] at hok
     obtain⟨o,T1,H1,nx1,h,hw1,hg1,hok1⟩:=iha da ha hok.1 T H nx (fun T H nx=>wD P d db T H nx k x r) x r hw hk
     cases o with
     | n=>
      obtain⟨o2,T2,H2,nx2,h2,hw2,hg2,hok2⟩:=ihb db hb hok.2 T1 H1 nx1 k x r hw1 h
      refine⟨o2,T2,H2,nx2,h2,hw2,hg1.trans hg2,fun F ac w Q ht hr hk=>wp_seq (hok1 F ac w _ ht hr fun F' a' w' ht' hst hdf => ?_)⟩
      exact hok2 F' a' w' Q ht' hst.hr fun F2 a2 w2 ht2 hst2 hdf2=>hk F2 a2 w2 ht2 (hst.trans hst2) (hdf2.trans hdf)
     | x id=>exact⟨.x id,T1,H1,nx1,h,hw1,hg1.mono (fun j hj=>List.mem_append_left _ hj),fun F ac w Q ht hr hk=>wp_seq (hok1 F ac w _ ht hr fun F' a' w' ht' hst hdf=>hk F' a' w' ht' hst hdf)⟩
     | r=>exact⟨.r,T1,H1,nx1,h,hw1,hg1.mono (fun j hj=>List.mem_append_left _ hj),fun F ac w Q ht hr hk=>wp_seq (hok1 F ac w _ ht hr fun F' a' w' ht' hst hdf=>hk F' a' w' ht' hst hdf)⟩
    .rename_i ws ds da db
     obtain⟨rfl,rfl⟩:=hc
     simp only[D.ok,Bool.and_eq_true] at hok
     obtain⟨⟨⟨⟨q1,q2⟩,q3⟩,q4⟩,q5⟩:=hok
     have hl:=W57 q2
     obtain⟨o,T1,H1,nx1,h,hw1,hg1,hok1⟩:=iha da ha q4 T H nx (fun T1 H nx=>G33 T1 ws fun L=>C37 d ds T fun T=>N36 d L ws 0 T fun T=>wD P d db T H nx k x r) x r hw hk
     cases o with
     | n=>
      simp only[Ox.go] at h
      rw[U31,R47,N47] at h
      obtain⟨o2,T2,H2,nx2,h2,hw2,hg2,hok2⟩:=ihb db hb q5 _ H1 nx1 k x r (V43 (Q24 hw)) h
      refine⟨o2,T2,H2,nx2,h2,hw2,?_,fun F ac w Q ht hr hk=>wp_seq (hok1 F ac w _ ht hr fun F' a' w' ht' hst hdf => ?_)⟩
      .exact ((Q38 hn hw hl q3).trans hg2).mono fun j hj=>List.mem_append_right _ hj
      .exact hok2 F' a' w' Q (TR.join hn hw ht' hg1 (U64 q1) hl q3) hst.hr fun F2 a2 w2 ht2 hst2 hdf2=>hk F2 a2 w2 ht2 (hst.trans hst2) (hdf2.trans hdf)
     | x id=>exact⟨.x id,T1,H1,nx1,h,hw1,hg1.mono (fun j hj=>List.mem_append_left _ hj),fun F ac w Q ht hr hk=>wp_seq (hok1 F ac w _ ht hr fun F' a' w' ht' hst hdf=>hk F' a' w' ht' hst hdf)⟩
     | r=>exact⟨.r,T1,H1,nx1,h,hw1,hg1.mono (fun j hj=>List.mem_append_left _ hj),fun F ac w Q ht hr hk=>wp_seq (hok1 F ac w _ ht hr fun F' a' w' ht' hst hdf=>hk F' a' w' ht' hst hdf)⟩
 | cond v a b iha ihb=>
  intro c hc hok T H nx k x r hw hk
  simp only[Q5] at hc
  cases hv:Q2 n v with
  | none=>simp[hv] at hc
  | some cv=>cases ha:Q5 P n a with
   | none=>simp[hv,ha] at hc
   | some ca=>cases hb:Q5 P n b with
    | none=>simp[hv,ha,hb] at hc
    | some cb=>
     simp only[hv,ha,hb,Option.some.injEq] at hc
     cases c<;>simp only[D.erase,C.cond.injEq,reduceCtorEq] at hc
     rename_i y da db
     obtain⟨rfl,rfl,rfl⟩:=hc
     simp only[D.ok,Bool.and_eq_true] at hok
     simp only[wD] at hk
     rw[N4] at hk
     unfold G2 at hk
     split at hk
     .rename_i t hvt
      rw[D22] at hk
      have hev:∀ (F:FM) (ac:Act),TR d F T n ac.tmps->ac.eval v = .bool t:=fun F ac ht=>by
       have:=ht.evX hv
       rw[hvt] at this
       exact this.bool_inv
      cases t with
      | true=>
       obtain⟨o,T1,H1,nx1,h,hw1,hg1,hok1⟩:=iha da ha hok.1 T H nx k x r hw (by simpa using hk)
       exact⟨o,T1,H1,nx1,h,hw1,hg1.mono (fun j hj=>List.mem_append_left _ hj),fun F ac w Q ht hr hk=>wp_cond_true (hev F ac ht) (hok1 F ac w Q ht hr hk)⟩
      | false=>
       obtain⟨o,T1,H1,nx1,h,hw1,hg1,hok1⟩:=ihb db hb hok.2 T H nx k x r hw (by simpa using hk)
       exact⟨o,T1,H1,nx1,h,hw1,hg1.mono (fun j hj=>List.mem_append_right _ hj),fun F ac w Q ht hr hk=>wp_cond_false (hev F ac ht) (hok1 F ac w Q ht hr hk)⟩
     .exact hk.elim
 | block id a iha=>
  intro c hc hok T H nx k x r hw hk
  simp only[Q5] at hc
  cases ha:Q5 P n a with
  | none=>simp[ha] at hc
  | some ca=>
   simp only[ha,Option.map_some,Option.some.injEq] at hc
   cases c<;>simp only[D.erase,C.block.injEq,reduceCtorEq] at hc
   rename_i id2 da
   obtain⟨rfl,rfl⟩:=hc
   obtain⟨o,T1,H1,nx1,h,hw1,hg1,hok1⟩:=iha da ha hok T H nx k (fun id' T H nx=>cond (Nat.beq id' id) (k T H nx) (x id' T H nx)) r hw hk
   cases o with
   | n=>exact⟨.n,T1,H1,nx1,h,hw1,hg1,fun F ac w Q ht hr hk=>wp_block (hok1 F ac w _ ht hr fun F' a' w' ht' hst hdf=>hk F' a' w' ht' hst hdf)⟩
   | r=>exact⟨.r,T1,H1,nx1,h,hw1,hg1,fun F ac w Q ht hr hk=>wp_block (hok1 F ac w _ ht hr fun F' a' w' ht' hst hdf=>hk F' a' w' ht' hst hdf)⟩
   | x id'=>
    simp only[Ox.go] at h
    cases hid:Nat.beq id' id with
    | true=>
     have e:=Nat.eq_of_beq_eq_true hid
     subst e
     rw[hid] at h
     refine⟨.n,T1,H1,nx1,h,hw1,hg1,fun F ac w Q ht hr hk=>wp_block (hok1 F ac w _ ht hr fun F' a' w' ht' hst hdf => ?_)⟩
     simp only[Ox.exit,Exit.inBlock,if_true]
     exact hk F' a' w' ht' hst hdf
    | false=>
     have e:id'≠id:=fun e=>by subst e;simp at hid
     rw[hid] at h
     refine⟨.x id',T1,H1,nx1,h,hw1,hg1,fun F ac w Q ht hr hk=>wp_block (hok1 F ac w _ ht hr fun F' a' w' ht' hst hdf => ?_)⟩
     simp only[Ox.exit,Exit.inBlock,e,if_false]
     exact hk F' a' w' ht' hst hdf
 | scope a iha=>
  intro c hc hok T H nx k x r hw hk
  simp only[Q5] at hc
  obtain⟨o,T1,H1,nx1,h,hw1,hg1,hok1⟩:=iha c hc hok T H nx k x r hw hk
  refine⟨o,T1,H1,nx1,h,hw1,hg1,fun F ac w Q ht hr hk=>wp_scope_straight (hok1 F ac w _ ht hr fun F' a' w' ht' hst hdf => ?_)⟩
  cases o<;>exact hk F' a' w' ht' hst hdf
 | loop a iha=>
  intro c hc hok T H nx k x r hw hk
  simp only[Q5] at hc
  cases ha:Q5 P n a with
  | none=>simp[ha] at hc
  | some ca=>
   simp only[ha,Option.map_some,Option.some.injEq] at hc
   cases c<;>simp only[D.erase,C.loop.injEq,reduceCtorEq] at hc
   rename_i ws ds da
   subst hc
   simp only[D.ok,Bool.and_eq_true] at hok
   obtain⟨⟨⟨q1,q2⟩,q3⟩,q4⟩:=hok
   have hl:=W57 q2
   simp only[wD] at hk
   rw[U31] at hk
   obtain⟨m,hk⟩:=hk
   generalize hF:(fun (ih:JK) (L:List Value) (H:Y0) (nx:Nat)=>C37 d ds T fun T=>N36 d L ws 0 T fun T=>wD P d da T H nx (fun T H nx=>G33 T ws fun L=>ih L H nx) x r)=Fn at hk
   have rounds:∀ (m:Nat) (L:List Value) (H:Y0) (nx:Nat),J52 Fn m L H nx ->
     ∃ (o:Ox) (T':U1 Value) (H':Y0) (nx':Nat),o ≠ .n/\Ox.go k x r o T' H' nx'/\WF d T'/\Agr n ((ws++ds)++da.writes) T T' /\
      ∀ (F:FM) (ac:Act) (w:World) (Q:Exit->Act->World->Prop),TR d F (J34 d L ws 0 (K25 d ds T)) n ac.tmps->HR F H nx w ->
       (∀ F' a' w',TR d F' T' n a'.tmps->U5 F H nx w F' H' nx' w'->a'.defers=ac.defers->Q o.exit a' w')->Code.rounds P a Q m ac w:=by
    intro m
    induction m with
    | zero=>intro L H nx h;exact h.elim
    | succ m ihm=>
     intro L H nx h
     have h':Fn (J52 Fn m) L H nx:=h
     rw[<- hF] at h'
     rw[R47,N47] at h'
     obtain⟨o,T1,H1,nx1,h1,hw1,hg1,hok1⟩:=iha da ha q4 _ H nx _ x r (V43 (Q24 hw)) h'
     cases o with
     | n=>
      simp only[Ox.go] at h1
      rw[U31,hF] at h1
      obtain⟨o2,T2,H2,nx2,hne,h2,hw2,hg2,hok2⟩:=ihm _ H1 nx1 h1
      refine⟨o2,T2,H2,nx2,hne,h2,hw2,hg2,fun F ac w Q ht hr hk => ?_⟩
      rw[rounds_succ]
      refine hok1 F ac w _ ht hr fun F' a' w' ht' hst hdf => ?_
      have ha2:Agr n (ws++ds) T T1:=((Q38 (L:=L) hn hw hl q3).trans hg1).mono fun j hj=>(List.mem_append.1 hj).elim id (U64 q1 j)
      exact hok2 F' a' w' Q (TR.join hn hw ht' ha2 (fun j hj=>hj) hl q3) hst.hr fun F2 a2 w2 ht2 hst2 hdf2=>hk F2 a2 w2 ht2 (hst.trans hst2) (hdf2.trans hdf)
     | x id=>
      refine⟨.x id,T1,H1,nx1,by simp,h1,hw1,(Q38 hn hw hl q3).trans hg1,fun F ac w Q ht hr hk => ?_⟩
      rw[rounds_succ]
      exact hok1 F ac w _ ht hr fun F' a' w' ht' hst hdf=>hk F' a' w' ht' hst hdf
     | r=>
      refine⟨.r,T1,H1,nx1,by simp,h1,hw1,(Q38 hn hw hl q3).trans hg1,fun F ac w Q ht hr hk => ?_⟩
      rw[rounds_succ]
      exact hok1 F ac w _ ht hr fun F' a' w' ht' hst hdf=>hk F' a' w' ht' hst hdf
   obtain⟨o,T1,H1,nx1,_,h,hw1,hg1,hok1⟩:=rounds m _ H nx hk
   refine⟨o,T1,H1,nx1,h,hw1,hg1,fun F ac w Q ht hr hk=>wp_loop_rounds m (hok1 F ac w Q ?_ hr hk)⟩
   exact TR.join hn hw ht (Agr.refl n (ws++ds) T) (fun j hj=>hj) hl q3
noncomputable def Q73 (P:Program) (n d:Nat) (body:D) (res:List (X × Option (Option Nat))) (args:List Value) (H:Y0) (nx:Nat) (Q:Value->Y0->Nat->Prop):Prop:=
 B53 d args 0 .leaf fun T=>wD P d body T H nx (U30 P res False Q) (fun _ _ _ _=>False) (U30 P res False Q)
theorem D65 (hm:P.follows .mixedOrders=true) (hNG:J29 P) {f:FuncId} {body:D} {res:List (X × Option (Option Nat))} (hcf:cfn P f=some ⟨n,d,body.erase,res⟩) (hok:body.ok n d=true) {args:List Value} (hl:args.length<=n)
  {H:Y0} {nx:Nat} {Q:Value->Y0->Nat->Prop} (h:Q73 P n d body res args H nx Q):J2 P f args H nx Q:=by
 unfold cfn at hcf
 rw[C14] at hcf
 cases hf:P.funcs.toList[f]? with
 | none=>simp[hf] at hcf
 | some fn=>
  simp only[hf] at hcf
  have hf':P.funcs[f]? = some fn:=by simpa using hf
  cases hb:fn.body with
  | none=>simp[hb] at hcf
  | some c=>
   simp only[hb] at hcf
   cases hc:Q5 P fn.ntmps c with
   | none=>simp[hc] at hcf
   | some cb=>
    cases hres:E27 P fn.ntmps fn.results.toList with
    | none=>simp[hc,hres] at hcf
    | some rs=>
     simp only[hc,hres,Option.some.injEq,CF.mk.injEq] at hcf
     obtain⟨rfl,hd,rfl,rfl⟩:=hcf
     have hd':fn.ntmps<=2^d:=by rw[<- hd];exact Nat.le_of_lt Nat.lt_log2_self
     unfold Q73 at h
     rw[W47] at h
     have wl:WF d (.leaf:U1 Value):=by cases d<;>trivial
     have hw:=X39 d args 0 .leaf wl
     obtain⟨o,T',H',nx',h1,hw',_,hok1⟩:=X84 hm hd' c body hc hok _ H nx _ _ _ hw h
     have fin:(o = .n\/o = .r)->U30 P rs False Q T' H' nx'->J2 P f args H nx Q:=by
      intro hx hret
      unfold U30 at hret
      rcases D50 (d:=d) (T:=T') (H:=H') (nx:=nx') False _ rs hres (fun vs=>W1 (tup vs) fun v=>Q v H' nx') with h2 | ⟨vs,h2,hok2⟩
      .rw[h2] at hret;exact hret.elim
      .rw[h2,N7] at hret
       refine⟨tup vs,H',nx',⟨⟨fn,c,hf',hb,hNG f fn hf'⟩,fun F args' w hr hv => ?_⟩,hret⟩
       refine calls_of_wp hf' hb (hok1 F _ w _ (B64 hv hd' hl) hr fun F' a' w' ht' hst hdf => ?_)
       obtain⟨vs',h3,h4⟩:=hok2 F' a'.tmps w' ht' hst.hr.hb
       have hpost:a'.defers=[]/\∃ v,(results fn a'.tmps).run P w' = .ok v w'/\(∃ v' F',Ending.returned v = .returned v'/\VR F' (tup vs) v'/\U5 F H nx w F' H' nx' w'):=
        ⟨hdf,tup vs',B44 h3,tup vs',F',rfl,M81 h4,hst⟩
       rcases hx with rfl | rfl<;>exact hpost
     cases o with
     | n=>exact fin (.inl rfl) h1
     | x id=>exact h1.elim
     | r=>exact fin (.inr rfl) h1
end
end Go.Clo

namespace Go.Clo
abbrev VP:=Value->Prop
abbrev EP:=Value->Y0->Nat->Prop
noncomputable def R89 (c a b:Value) (k:VP):Prop:=match c with
 | .bool t=>ifK t (k a) (k b)
 | _=>False
noncomputable def J0 (op:BinOp) (x y:Value) (k:VP):Prop:=W61 op x y False k
noncomputable def wUn (op:UnOp) (x:Value) (k:VP):Prop:=B34 (unV op x) False k
noncomputable def wVf (f:VF) (xs:List Value) (k:VP):Prop:=B34 (f.ev xs) False k
noncomputable def D1 (v:Value) (off:Nat) (k:VP):Prop:=match v with
 | .pointer (some a)=>Q30 (a.off+off) a k
 | _=>False
noncomputable def W2 (v vi:Value) (len:Option Nat) (size:Nat) (k:VP):Prop:=match vi with
 | .int _ (.ofNat i)=>Y61 len size i False k v
 | _=>False
noncomputable def D4 (v:Value) (k:VP):Prop:=match v with
 | .pointer (some a)=>k (.pointer (some a))
 | _=>False
noncomputable def J5 (v:Value) (i:Nat) (k:VP):Prop:=match v with
 | .tuple vs=>X47 vs.toList i False k
 | _=>False
noncomputable def Z62 (v:Value) (off:Nat) (size:Option Nat) (k:VP):Prop:=match v with
 | .agg cs=>N34 cs.toList off size False k
 | _=>False
noncomputable def W89 (v vi:Value) (len size:Nat) (agg:Bool) (k:VP):Prop:=match vi with
 | .int _ (.ofNat i)=>(match v with
  | .agg cs=>cond (Nat.blt i len) (N34 cs.toList (i*size) (cond agg (some size) none) False k) False
  | _=>False)
 | _=>False
noncomputable def M4 (z:List Value) (pl:List (Nat × Nat)) (vs:List (Nat × Value)) (k:VP):Prop:=match V21 (nth pl) z vs with
 | some cs=>R7 cs fun cs=>k (.agg ⟨cs⟩)
 | none=>False
noncomputable def C87 (v:Value) (n size:Nat) (lo hi mx:Option Value) (k:VP):Prop:=match v with
 | .pointer (some a)=>(match G11 (some a) n n size lo hi mx false with
  | some r=>R17 r k
  | none=>False)
 | _=>False
noncomputable def G0 (v:Value) (size:Option Nat) (H:Y0) (k:VP):Prop:=match v with
 | .pointer (some ⟨b,o,none⟩)=>J20 H b False (ldB o size False k)
 | _=>False
noncomputable def wLk (kd:TypeDesc) (zero v vi:Value) (ok:Bool) (H:Y0) (k:VP):Prop:=cond (N15 kd vi)
  ((fun (es:List MapEntry->Prop)=>match v with
   | .map none=>es []
   | .map (some r)=>J20 H r False fun b=>match b with
    | .map l _=>es l
    | _=>False
   | _=>False) fun l=>match Instr.findNow kd vi l 0 with
    | some (some (_,v))=>cond ok (apK k (.tuple ⟨[v,.bool true]⟩)) (apK k v)
    | some none=>cond ok (apK k (.tuple ⟨[zero,.bool false]⟩)) (apK k zero)
    | none=>False) False
noncomputable def X3 (v:Value) (kd:Nat) (H:Y0) (k:VP):Prop:=match kd,v with
  | 0,.slice _ n _=>apK k (.int .i64 (.ofNat n))
  | 1,.string s=>E2 s.size fun n=>apK k (.int .i64 (.ofNat n))
  | 2,.map none=>apK k (.int .i64 (.ofNat 0))
  | 2,.map (some r)=>J20 H r False fun b=>match b with
   | .map l _=>E2 l.length fun n=>apK k (.int .i64 (.ofNat n))
   | _=>False
  | _,_=>False
noncomputable def M3 (kd:IntKind) (v:Value) (k:VP):Prop:=match v with
  | .int _ n=>cond (N22 kd n) (apK k (.int kd n)) (W26 (kd.wrap n) fun n=>apK k (.int kd n))
  | _=>False
noncomputable def wSl (v:Value) (size:Nat) (lo hi mx:Option Value) (H:Y0) (k:VP):Prop:=match v with
  | .slice none len cap=>(match G11 none len cap size lo hi mx false with
   | some r=>R17 r k
   | none=>False)
  | .slice (some ⟨b,o,none⟩) len cap=>J20 H b False (slB ⟨b,o,none⟩ len cap size lo hi mx False k)
  | _=>False
noncomputable def D2 (b:V4) (y:B0) (H:Y0) (nx:Nat) (k:EP):Prop:=
 hsK H nx (some b) fun H=>E2 (nx+1) fun n=>R17 (y.val nx) fun v=>k v H n
noncomputable def R5 (v:Value) (k:List Value->Prop):Prop:=cond (Z0 v.cells.toList) (R7 v.cells.toList k) False
noncomputable def G7 (len size:Nat) (z:List Value) (vs:List (Nat × Value)) (k:List Value->Prop):Prop:=
 match V21 (fun k=>some (k*size,size)) (V5 z len) vs with
  | some cs=>cond (Z0 cs) (R7 cs k) False
  | none=>False
noncomputable def K21 (vl vc:Value) (z:List Value) (k:List Value->Nat->Nat->Prop):Prop:=match vl,vc with
  | .int .i64 (.ofNat l),.int .i64 (.ofNat c)=>cond (Nat.ble l c&&Nat.ble c 1000000) (R7 (V5 z c) fun cs=>k cs l c) False
  | _,_=>False
noncomputable def M50 (x:Option Value) (k:Prop):Prop:=match x with
  | none=>k
  | some (.int _ _)=>k
  | _=>False
noncomputable def wNm (nx i:Nat) (y:B0) (k:VP):Prop:=E2 (nx+i) fun q=>W1 (y.val q) k
noncomputable def W3 (p v:Value) (size:Nat) (H:Y0) (k:Y0->Prop):Prop:=match p with
  | .pointer (some a)=>cond (Nat.beq v.cells.toList.length size&&Z0 v.cells.toList) (Q18 H a v.cells.toList False k) False
  | _=>False
noncomputable def K54 (kd:TypeDesc) (m key v:Value) (H:Y0) (nx:Nat) (k:EP):Prop:=match m with
  | .map (some r)=>J20 H r False (Z74 kd H nx r key v False k)
  | _=>False
noncomputable def Z1 (P:Program) (f:FuncId) (args:List Value) (H:Y0) (nx:Nat) (k:EP):Prop:=M12 P f args H nx False k
noncomputable def E22 (P:Program) (f:Value) (args:List Value) (H:Y0) (nx:Nat) (k:EP):Prop:=match f with
  | .func (.func g) ⟨first⟩ ⟨cap⟩=>R7 (first++args++cap) fun vs=>M12 P g vs H nx False k
  | _=>False
noncomputable def U7 (s x:Value) (size bytes:Nat) (H:Y0) (nx:Nat) (k:EP):Prop:=X27 H nx size bytes s x False k
noncomputable def Z39 (d s:Value) (size:Nat) (H:Y0) (nx:Nat) (k:EP):Prop:=match d,B54 s with
  | .slice base dLen _,some m=>E2 (Nat.min m dLen) fun n=>G8 H size n s False fun cs=>cond (Z0 cs) (match base with
   | none=>apK (apK (apK k (.int .i64 (.ofNat n))) H) nx
   | some a=>Q18 H a cs False fun H=>apK (apK (apK k (.int .i64 (.ofNat n))) H) nx) False
  | _,_=>False
noncomputable def J4 (want:Bool) (v:Value) (yes no:Prop):Prop:=match v with
  | .bool b=>ifK (cond b want (!want)) yes no
  | _=>False
end Go.Clo

namespace Go.Clo
variable {H H1:Y0} {c:List Value} {m n1 nx:Nat} {v:Value}
theorem J6 {body:JK->Prop} {rest:JK} (R:JK) (h1:∀ j:JK,(∀ L H nx,R L H nx->j L H nx)->body j) (h2:∀ L H nx,R L H nx->rest L H nx):B4 body rest:=h1 rest h2
theorem K3 (body:JK->Prop) (rest:JK):B4 body rest=body rest:=rfl
theorem E1 {F:JK->JK} (I:Nat->List Value->Y0->Nat->Prop) (step:∀ m ih L H nx,I m L H nx->(∀ m' L' H' nx',m'<m->I m' L' H' nx'->ih L' H' nx')->F ih L H nx)
  {m:Nat} {L:List Value} {H:Y0} {nx:Nat} (h:I m L H nx):B3 F L H nx:=by
 have key:∀ (k m:Nat) (L:List Value) (H:Y0) (nx:Nat),m<k->I m L H nx->J52 F k L H nx:=by
  intro k
  induction k with
  | zero=>intro m L H nx h;omega
  | succ k ih=>
   intro m L H nx hm hI
   exact step m (J52 F k) L H nx hI fun m' L' H' nx' hm' hI'=>ih m' L' H' nx' (by omega) hI'
 exact⟨m+1,key (m+1) m L H nx (by omega) h⟩
theorem K0 {P:Program} {f:FuncId} {args:List Value} {k:EP} {Q:EP} (h:J2 P f args H nx Q) (hk:∀ v H' nx',Q v H' nx'->k v H' nx'):Z1 P f args H nx k := .inr (h.mono hk)
structure D0 (H:Y0) (nx:Nat) (H':Y0) (nx':Nat):Prop where
 le:nx<=nx'
 get:∀ i,i<nx->X0 H' i=X0 H i
theorem D0.refl (H:Y0) (nx:Nat):D0 H nx H nx:=⟨Nat.le_refl _,fun _ _=>rfl⟩
theorem D0.trans {H:Y0} {nx:Nat} {H1:Y0} {n1:Nat} {H2:Y0} {n2:Nat} (a:D0 H nx H1 n1) (b:D0 H1 n1 H2 n2):D0 H nx H2 n2:=
 ⟨Nat.le_trans a.le b.le,fun i hi=>(b.get i (Nat.lt_of_lt_of_le hi a.le)).trans (a.get i hi)⟩
theorem D0.new {i:Nat} (a:D0 H nx H1 n1) (b:Option V4) (hi:nx<=i) (hm:n1<=m):D0 H nx (hs H1 i b) m:=
 ⟨Nat.le_trans a.le hm,fun j hj=>by rw[W7,if_neg (by omega)];exact a.get j hj⟩
theorem D0.hs {H:Y0} {nx:Nat} {H1:Y0} {i m:Nat} {b:Option V4} (a:D0 H nx H1 m) (hi:nx<=i):D0 H nx (Go.Clo.hs H1 i b) m:=a.new b hi (Nat.le_refl _)
theorem D0.self (h:nx<=m):D0 H nx H m:=⟨h,fun _ _=>rfl⟩
theorem D0.more {H:Y0} {nx:Nat} {H1:Y0} {n1 m:Nat} (a:D0 H nx H1 n1) (hm:n1<=m):D0 H nx H1 m:=⟨Nat.le_trans a.le hm,a.get⟩
theorem D0.less {n0:Nat} (a:D0 H nx H1 n1) (hm:n0<=nx):D0 H n0 H1 n1:=⟨Nat.le_trans hm a.le,fun i hi=>a.get i (by omega)⟩
theorem N13 (k:IntKind):eqK k k=true:=by cases k<;>rfl
theorem C7 (op:BinOp) (x y:Value) (k:VP):J0 op x y k=(U12 op x y).elim False k:=N62 op x y False k
section
variable (K:IntKind) (a b:Int) (k:VP)
theorem M24:J0 .lss (.int K a) (.int K b) k=k (.bool (decide (a<b))):=by rw[C7];simp[U12,M7,N13,R11]
theorem Z63:J0 .leq (.int K a) (.int K b) k=k (.bool (decide (a<=b))):=by rw[C7];simp[U12,M7,N13,R11]
theorem R46:J0 .gtr (.int K a) (.int K b) k=k (.bool (decide (b<a))):=by rw[C7];simp[U12,M7,N13,R11]
theorem U24:J0 .geq (.int K a) (.int K b) k=k (.bool (decide (b<=a))):=by rw[C7];simp[U12,M7,N13,R11]
theorem R30:J0 .eql (.int K a) (.int K b) k=k (.bool (decide (a=b))):=by rw[C7];simp[U12,M7,N13,R11];rfl
theorem B66:J0 .neq (.int K a) (.int K b) k=k (.bool (decide (a≠b))):=by
 rw[C7];simp only[U12,M7,N13,R11,cond_true,cond_false,Option.elim_some]
 congr 2;rw[Bool.eq_iff_iff];simp
theorem D47:J0 .add (.int K a) (.int K b) k=k (.int K (K.wrap (a+b))):=by rw[C7];simp[U12,M7,N13,R11]
theorem E37:J0 .sub (.int K a) (.int K b) k=k (.int K (K.wrap (a-b))):=by rw[C7];simp[U12,M7,N13,R11]
theorem D38:J0 .mul (.int K a) (.int K b) k=k (.int K (K.wrap (a*b))):=by rw[C7];simp[U12,M7,N13,R11]
theorem N86 (h:b≠0):J0 .quo (.int K a) (.int K b) k=k (.int K (K.wrap (a.tdiv b))):=by rw[C7];simp[U12,M7,N13,R11,h]
theorem G37 (h:b≠0):J0 .rem (.int K a) (.int K b) k=k (.int K (a.tmod b)):=by rw[C7];simp[U12,M7,N13,R11,h]
theorem R26 {x:Int} (h1 : -9223372036854775808<=x) (h2:x<9223372036854775808):IntKind.i64.wrap x=x:=IntWalk.i64_in _ ⟨h1,by omega⟩
theorem Q23 (h1 : -9223372036854775808<=a+b) (h2:a+b<9223372036854775808):J0 .add (.int .i64 a) (.int .i64 b) k=k (.int .i64 (a+b)):=by rw[D47,R26 h1 h2]
theorem B52 (h1 : -9223372036854775808<=a-b) (h2:a-b<9223372036854775808):J0 .sub (.int .i64 a) (.int .i64 b) k=k (.int .i64 (a-b)):=by rw[E37,R26 h1 h2]
end
theorem W10 (b:Bool) (t e:Prop):G2 (.bool b) t e=if b=true then t else e:=by unfold G2;exact D22 b t e
theorem K34 (b:Bool) (y n:Prop):J4 true (.bool b) y n=if b=true then y else n:=by cases b<;>rfl
theorem K31 (b:Bool) (y n:Prop):J4 false (.bool b) y n=if b=true then n else y:=by cases b<;>rfl
theorem B51 (a b:Value) (k:VP):R89 (.bool true) a b k=k a:=rfl
theorem E45 (a b:Value) (k:VP):R89 (.bool false) a b k=k b:=rfl
theorem Y56 (b:Bool) (k:VP):wUn .not (.bool b) k=k (.bool !b):=by unfold wUn;rw[R9];rfl
theorem M71 (b o:Nat) (s:Option Nat) (off:Nat) (k:VP):D1 (.pointer (some ⟨b,o,s⟩)) off k=k (.pointer (some ⟨b,o+off,s⟩)):=by
 show E2 (o+off) (fun n=>k (.pointer (some ⟨b,n,s⟩)))=_
 rw[N2]
theorem Z38 {i:Int} {n:Nat} (h1:0<=i) (h2:i<n) (b o:Nat) (s:Option Nat) (c size:Nat) (kd:IntKind) (k:VP):W2 (.slice (some ⟨b,o,s⟩) n c) (.int kd i) none size k=k (.pointer (some ⟨b,o+i.toNat*size,s⟩)):=by
 obtain⟨j,rfl⟩:=Int.eq_ofNat_of_zero_le h1
 have:Nat.blt j n=true:=by simp;omega
 show cond (Nat.blt j n) (Q30 (o+j*size) ⟨b,o,s⟩ k) False=_
 rw[this];unfold Q30;simp only[cond_true];rw[N2];rfl
theorem U50 {i:Int} {n:Nat} (h1:0<=i) (h2:i<n) (b o:Nat) (s:Option Nat) (size:Nat) (kd:IntKind) (k:VP):W2 (.pointer (some ⟨b,o,s⟩)) (.int kd i) (some n) size k=k (.pointer (some ⟨b,o+i.toNat*size,s⟩)):=by
 obtain⟨j,rfl⟩:=Int.eq_ofNat_of_zero_le h1
 have:Nat.blt j n=true:=by simp;omega
 show cond (Nat.blt j n) (Q30 (o+j*size) ⟨b,o,s⟩ k) False=_
 rw[this];unfold Q30;simp only[cond_true];rw[N2];rfl
theorem D63 (a:Addr) (k:VP):D4 (.pointer (some a)) k=k (.pointer (some a)):=rfl
theorem M70 (l:List Value) (i:Nat) (k:VP):J5 (.tuple ⟨l⟩) i k=(l[i]?).elim False k:=by unfold J5;exact X20 l i False k
theorem Q56 (l:List Value) (o:Nat) (k:VP):Z62 (.agg ⟨l⟩) o none k=(l[o]?).elim False k:=by unfold Z62 N34;exact X20 l o False k
theorem V57 (l:List Value) (o n:Nat) (k:VP):Z62 (.agg ⟨l⟩) o (some n) k=k (.agg ⟨(l.drop o).take n⟩):=by unfold Z62 N34;exact E3 _ _
theorem X37 (a:Option Addr) (n c:Nat) (H:Y0) (k:VP):X3 (.slice a n c) 0 H k=k (.int .i64 n):=rfl
theorem V45 (s:ByteArray) (H:Y0) (k:VP):X3 (.string s) 1 H k=k (.int .i64 s.size):=by unfold X3;exact N2 _ _
theorem W17 (kd k':IntKind) (n:Int) (k:VP):M3 kd (.int k' n) k=k (.int kd (kd.wrap n)):=by
 show cond (N22 kd n) (k (.int kd n)) (W26 (kd.wrap n) fun n=>k (.int kd n))=_
 rw[V32]
 cases hf:N22 kd n with
 | true=>rw[V33 hf];rfl
 | false=>rfl
theorem X18 (b:V4) (y:B0) (H:Y0) (nx:Nat) (k:EP):D2 b y H nx k=k (y.val nx) (hs H nx (some b)) (nx+1):=by unfold D2;rw[Y8,N2,J8]
theorem Y42 (nx i:Nat) (y:B0) (k:VP):wNm nx i y k=k (y.val (nx+i)):=by unfold wNm;rw[N2,N7]
theorem Q29 {v:Value} (h:Z0 v.cells.toList=true) (k:List Value->Prop):R5 v k=k v.cells.toList:=by unfold R5;rw[h];exact E3 _ _
theorem X31 (l:List Value) (k:List Value->Prop):R5 (.agg ⟨l⟩) k=if Z0 l=true then k l else False:=by
 show cond (Z0 l) (R7 l k) False=_
 rw[E3];cases Z0 l<;>rfl
theorem W62 (K:IntKind) (n:Int) (k:List Value->Prop):R5 (.int K n) k=k [.int K n]:=Q29 (v := .int K n) rfl k
theorem W37 (A:Option Addr) (n c:Nat) (k:List Value->Prop):R5 (.slice A n c) k=k [.slice A n c]:=Q29 (v := .slice A n c) rfl k
theorem X45 (s:ByteArray) (k:List Value->Prop):R5 (.string s) k=k [.string s]:=Q29 (v := .string s) rfl k
theorem D58 (s:Bool) (k:List Value->Prop):R5 (.bool s) k=k [.bool s]:=Q29 (v := .bool s) rfl k
theorem N63 (s:Option Nat) (k:List Value->Prop):R5 (.map s) k=k [.map s]:=Q29 (v := .map s) rfl k
theorem J48 (s:Option Addr) (k:List Value->Prop):R5 (.pointer s) k=k [.pointer s]:=Q29 (v := .pointer s) rfl k
theorem G91 (len size:Nat) (z:List Value) (vs:List (Nat × Value)) (k:List Value->Prop):G7 len size z vs k=(match V21 (fun k=>some (k*size,size)) (V5 z len) vs with | some cs=>if Z0 cs=true then k cs else False | none=>False):=by
 unfold G7
 cases V21 (fun k=>some (k*size,size)) (V5 z len) vs with
 | none=>rfl
 | some cs=>dsimp only;rw[E3];cases Z0 cs<;>rfl
def N9 (c:List Value) (o:Nat) (size:Option Nat) (k:VP):Prop:=match size with
 | none=>(c[o]?).elim False k
 | some n=>o+n<=c.length/\k (.agg ⟨(c.drop o).take n⟩)
def ldP (b:Option V4) (o:Nat) (size:Option Nat) (k:VP):Prop:=match b with
 | some (.cells c _)=>N9 c o size k
 | some (.rom c)=>N9 c o size k
 | _=>False
theorem Q36 {α:Type}:∀ {n:Nat} {l:List α},n<=l.length->D9 n l=some (l.take n)
 | 0,l,_=>by simp[D9]
 | n+1,[],h=>by simp at h
 | n+1,a :: l,h=>by simp[D9,Q36 (n:=n) (l:=l) (by simpa using h)]
theorem E38 {α:Type}:∀ {n:Nat} {l:List α},l.length<n->D9 n l=none
 | 0,l,h=>by omega
 | n+1,[],_=>rfl
 | n+1,a :: l,h=>by simp[D9,E38 (n:=n) (l:=l) (by simpa using h)]
theorem W79 (o:Nat) (size:Option Nat) (k:VP) (c:List Value) (hle:∀ n,size=some n->0<n):ldC o size False k c=N9 c o size k:=by
 unfold ldC N9
 cases size with
 | none=>exact X20 c o False k
 | some n=>
  dsimp only
  have hn:=hle n rfl
  by_cases h:o+n<=c.length
  .rw[Q36 (by simp;omega)];dsimp only;rw[E3];simp[h]
  .rw[E38 (by simp;omega)];simp[h]
theorem E77 (b o:Nat) (size:Option Nat) (H:Y0) (k:VP) (hle:∀ n,size=some n->0<n):G0 (.pointer (some ⟨b,o,none⟩)) size H k=ldP (X0 H b) o size k:=by
 show J20 H b False (ldB o size False k)=_
 rw[W6]
 unfold ldP
 cases X0 H b with
 | none=>rfl
 | some blk=>
  cases blk with
  | map es q=>rfl
  | cells c sl=>exact W79 o size k c hle
  | rom c=>exact W79 o size k c hle
theorem R48 (b o:Nat) (H:Y0) (k:VP):G0 (.pointer (some ⟨b,o,none⟩)) none H k=ldP (X0 H b) o none k:=E77 b o none H k (fun n h=>by cases h)
theorem M30 (b o n:Nat) (H:Y0) (k:VP):G0 (.pointer (some ⟨b,o,none⟩)) (some (n+1)) H k=ldP (X0 H b) o (some (n+1)) k:=E77 b o _ H k (fun m h=>by cases h;omega)
theorem N88 (b o:Nat) (H:Y0) (k:VP):G0 (.pointer (some ⟨b,o,none⟩)) (some 2) H k=ldP (X0 H b) o (some 2) k:=M30 b o 1 H k
theorem C89 (b o:Nat) (H:Y0) (k:VP):G0 (.pointer (some ⟨b,o,none⟩)) (some 3) H k=ldP (X0 H b) o (some 3) k:=M30 b o 2 H k
theorem J78 (b o:Nat) (H:Y0) (k:VP):G0 (.pointer (some ⟨b,o,none⟩)) (some 32) H k=ldP (X0 H b) o (some 32) k:=M30 b o 31 H k
theorem N58 (c:List Value) (sl o:Nat) (size:Option Nat) (k:VP):ldP (some (.cells c sl)) o size k=N9 c o size k:=rfl
theorem M68 (c:List Value) (o:Nat) (size:Option Nat) (k:VP):ldP (some (.rom c)) o size k=N9 c o size k:=rfl
theorem G40 (c:List Value) (o:Nat) (k:VP):N9 c o none k=(c[o]?).elim False k:=rfl
theorem D16 (c:List Value) (o n:Nat) (k:VP):N9 c o (some n) k=(o+n<=c.length/\k (.agg ⟨(c.drop o).take n⟩)):=rfl
def G6 (c:List Value) (o:Nat) (vs:List Value):List Value:=c.take o++vs++c.drop (o+vs.length)
def stP (b:Option V4) (o:Nat) (vs:List Value) (k:V4->Prop):Prop:=match b with
 | some (.cells c sl)=>o+vs.length<=c.length/\k (.cells (G6 c o vs) sl)
 | _=>False
theorem X38 (H:Y0) (b o:Nat) (vs:List Value) (k:Y0->Prop):Q18 H ⟨b,o,none⟩ vs False k=stP (X0 H b) o vs fun blk=>k (hs H b (some blk)):=by
 unfold Q18 stP
 dsimp only
 rw[W6]
 cases X0 H b with
 | none=>rfl
 | some blk=>
  cases blk with
  | map es q=>rfl
  | rom c=>rfl
  | cells c sl=>
   dsimp only[Option.elim_some]
   by_cases h:o+vs.length<=c.length
   .rw[Nat.ble_eq_true_of_le h];simp only[cond_true];rw[E3,Y8];simp[h,G6]
   .have:Nat.ble (o+vs.length) c.length=false:=by
     cases hb:Nat.ble (o+vs.length) c.length with
     | false=>rfl
     | true=>exact absurd (Nat.le_of_ble_eq_true hb) h
    rw[this];simp[h]
theorem M26 {size:Nat} (h1:v.cells.toList.length=size) (h2:Z0 v.cells.toList=true) (b o:Nat) (H:Y0) (k:Y0->Prop):W3 (.pointer (some ⟨b,o,none⟩)) v size H k=stP (X0 H b) o v.cells.toList fun blk=>k (hs H b (some blk)):=by
 show cond (Nat.beq v.cells.toList.length size&&Z0 v.cells.toList) (Q18 H ⟨b,o,none⟩ v.cells.toList False k) False=_
 rw[h2,h1]
 have:Nat.beq size size=true:=by simp
 rw[this]
 exact X38 H b o _ k
theorem N55 (l:List Value) (size b o:Nat) (H:Y0) (k:Y0->Prop):W3 (.pointer (some ⟨b,o,none⟩)) (.agg ⟨l⟩) size H k=if l.length=size/\Z0 l=true then stP (X0 H b) o l fun blk=>k (hs H b (some blk)) else False:=by
 by_cases h:l.length=size/\Z0 l=true
 .rw[if_pos h];exact M26 (v := .agg ⟨l⟩) h.1 h.2 b o H k
 .rw[if_neg h]
  show cond (Nat.beq l.length size&&Z0 l) (Q18 H ⟨b,o,none⟩ l False k) False=False
  have:(Nat.beq l.length size&&Z0 l)=false:=by
   cases hb:(Nat.beq l.length size&&Z0 l) with
   | false=>rfl
   | true=>
    rw[Bool.and_eq_true] at hb
    exact absurd ⟨Nat.eq_of_beq_eq_true hb.1,hb.2⟩ h
  rw[this];rfl
section
variable (b o:Nat) (H:Y0) (k:Y0->Prop)
theorem U70 (K:IntKind) (n:Int):W3 (.pointer (some ⟨b,o,none⟩)) (.int K n) 1 H k=stP (X0 H b) o [.int K n] fun blk=>k (hs H b (some blk)):=M26 (v := .int K n) rfl rfl b o H k
theorem X62 (x:Bool):W3 (.pointer (some ⟨b,o,none⟩)) (.bool x) 1 H k=stP (X0 H b) o [.bool x] fun blk=>k (hs H b (some blk)):=M26 (v := .bool x) rfl rfl b o H k
theorem U51 (x:ByteArray):W3 (.pointer (some ⟨b,o,none⟩)) (.string x) 1 H k=stP (X0 H b) o [.string x] fun blk=>k (hs H b (some blk)):=M26 (v := .string x) rfl rfl b o H k
theorem Q59 (A:Option Addr) (n c:Nat):W3 (.pointer (some ⟨b,o,none⟩)) (.slice A n c) 1 H k=stP (X0 H b) o [.slice A n c] fun blk=>k (hs H b (some blk)):=M26 (v := .slice A n c) rfl rfl b o H k
theorem D71 (A:Option Addr):W3 (.pointer (some ⟨b,o,none⟩)) (.pointer A) 1 H k=stP (X0 H b) o [.pointer A] fun blk=>k (hs H b (some blk)):=M26 (v := .pointer A) rfl rfl b o H k
theorem D69 (r:Option Nat):W3 (.pointer (some ⟨b,o,none⟩)) (.map r) 1 H k=stP (X0 H b) o [.map r] fun blk=>k (hs H b (some blk)):=M26 (v := .map r) rfl rfl b o H k
theorem Z65 (f:Fn) (x y:Array Value):W3 (.pointer (some ⟨b,o,none⟩)) (.func f x y) 1 H k=stP (X0 H b) o [.func f x y] fun blk=>k (hs H b (some blk)):=M26 (v := .func f x y) rfl rfl b o H k
end
theorem Y33 (c:List Value) (sl o:Nat) (vs:List Value) (k:V4->Prop):stP (some (.cells c sl)) o vs k=(o+vs.length<=c.length/\k (.cells (G6 c o vs) sl)):=rfl
theorem U49 {o:Nat} (h:o<c.length):G6 c o [v]=c.set o v:=by
 unfold G6
 rw[List.set_eq_take_append_cons_drop,if_pos h];simp
theorem Z5 {vs:List Value} (h:vs.length=c.length):G6 c 0 vs=vs:=by
 unfold G6;simp[h]
theorem Q0 (H:Y0) (i:Nat) (b:Option V4):X0 (hs H i b) i=b:=by rw[W7,if_pos rfl]
theorem M0 {H:Y0} {i j:Nat} (b:Option V4) (h:j≠i):X0 (hs H i b) j=X0 H j:=by rw[W7,if_neg h]
theorem B42 (H:Y0) (size n:Nat) (b o len cap:Nat) (k:List Value->Prop) (hn:0<n*size):G8 H size n (.slice (some ⟨b,o,none⟩) len cap) False k=match (X0 H b).bind V4.row with
  | some c=>o+n*size<=c.length/\k ((c.drop o).take (n*size))
  | none=>False:=by
 unfold G8 G24
 dsimp only
 rw[W6]
 have main:∀ c:List Value,(match D9 (n*size) (c.drop o) with | some l=>R7 l k | none=>False)=(o+n*size<=c.length/\k ((c.drop o).take (n*size))):=by
  intro c
  by_cases h:o+n*size<=c.length
  .rw[Q36 (by simp;omega)];dsimp only;rw[E3];simp[h]
  .rw[E38 (by simp;omega)];simp[h]
 cases X0 H b with
 | none=>rfl
 | some blk=>
  cases blk with
  | map es q=>rfl
  | cells c sl=>exact main c
  | rom c=>exact main c
end Go.Clo
