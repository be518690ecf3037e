/-
  The closed executor: operations with an effect,joined;a region in its order.
  The closed executor: one operation;a region in its order.
  The closed executor: the order that a region's edges leave open.
-/
import Derived.Test.YtpiobdofbhkmjaaDoorL8
set_option linter.unusedSimpArgs false
set_option linter.unusedVariables false
set_option linter.unusedSectionVars false
namespace Go.Clo
variable {X1:X} {c:Call} {d n:Nat} {e t:TypeId} {x:Operand} {β:Type}
section
variable {β:Type} {P:Program} {d n nx:Nat} {o:Oper} {T:U1 Value} {H:Y0}
theorem D76 {s:Operand} {tl:List TypeId} {xl:List Operand} {S1:X} {i:TypeInfo} (ho:o.op = .call c) (hc:c.callee = .builtin .copy)
  (ht':c.argTypes.toList=t :: tl) (ha:c.args.toList=s :: x :: xl) (hs:Q2 n s=some S1) (hx:Q2 n x=some X1) (hu:P.underlying t=some (.slice e)) (hi:P.info? e=some i) (call:B5 β) (z:β) (k:Value->Y0->Nat->β):
  evE (.copy S1 X1 i.size) call T H nx z k=z\/∃ v H' nx',evE (.copy S1 X1 i.size) call T H nx z k=k v H' nx'/\EV P d n o T H nx v H' nx':=by
 have hms:s ∈ o.op.operands:=by rw[ho];simp only[Op.operands,Call.operands,hc];exact Array.mem_def.2 (by simp[ha])
 have hmx:x ∈ o.op.operands:=by rw[ho];simp only[Op.operands,Call.operands,hc];exact Array.mem_def.2 (by simp[ha])
 have hex:∀ (a:Act) (w:World),(execOp a.eval o).run P w=((Builtin.copy_ c.argTypes o.type (c.args.map a.eval)).run P w).andThen fun v w => .ok (.value v) w:=by
  intro a w;simp[execOp,ho,resolve,hc,invoke,builtin]
 have q0:c.argTypes[0]? = some t:=by rw[<- Array.getElem?_toList,ht'];rfl
 have q1:∀ a:Act,(c.args.map a.eval)[0]? = some (a.eval s):=fun a=>by rw[Array.getElem?_map,<- Array.getElem?_toList,ha];rfl
 have q2:∀ a:Act,(c.args.map a.eval)[1]? = some (a.eval x):=fun a=>by rw[Array.getElem?_map,<- Array.getElem?_toList,ha];rfl
 show J61 S1 X1 i.size call T H nx z k=z\/∃ v H' nx',J61 S1 X1 i.size call T H nx z k=k v H' nx'/\_
 unfold J61
 rw[N4,N4]
 split
 .rename_i base dLen cap m hsv hlx
  rw[N2]
  have hp0:=D34 (H:=H) (nx:=nx) (size:=i.size) (m:=Nat.min m dLen) (x:=ev T X1) (none:Option (List Value)) some
  rw[R39]
  cases hnw:G8 H i.size (Nat.min m dLen) (ev T X1) none some with
  | none=>exact .inl rfl
  | some cs=>
   have hr0:∀ (F:FM) (P:Program) (x':Value) (w:World),VR F (ev T X1) x'->HB F H nx w->∃ l',(∀ w2:World,w2.heap=w.heap->(Builtin.firstCells i.size (Nat.min m dLen) x').run P w2 = .ok l'.toArray w2)/\VL F cs l':=by
    rcases hp0 with h | ⟨l,h,hp⟩
    .rw[hnw] at h;cases h
    .rw[hnw] at h;cases h;exact hp
   dsimp only[Option.elim_some]
   cases hon:Z0 cs with
   | false=>exact .inl rfl
   | true=>
    dsimp only[cond_true]
    split
    .refine .inr ⟨_,_,_,rfl,fun F a w K Q ht hr hk => ?_⟩
     have h1:=evX ht hs hms
     rw[hsv] at h1
     have he:=h1.sliceN_inv
     obtain⟨cs',hcr,hcv⟩:=hr0 F P (a.eval x) w (evX ht hx hmx) hr.hb
     refine N6 (v := .int .i64 (.ofNat (Nat.min m dLen))) (w':=w) ?_ (hk _ F w (.int _ _) (U5.refl hr))
     rw[hex]
     have q1':=q1 a
     rw[he] at q1'
     simp only[Builtin.copy_,q0,q1',q2 a,Sem.run_bind,run_underlying hu,Result.andThen_ok,X24 hlx (evX ht hx hmx) w,D6 hi,hcr w rfl,Sem.run_pure,goInt]
     rfl
    .rename_i a0
     obtain⟨b,o',s'⟩:=a0
     cases s' with
     | some s0=>exact .inl (by unfold Q18;rfl)
     | none=>
     rcases J32 (F:=fun _=>none) (H:=H) (nx:=nx) (b:=b) (o':=o') (vs:=cs) none z (fun H=>k (.int .i64 (.ofNat (Nat.min m dLen))) H nx) with h | ⟨H',h,hp⟩
     .exact .inl h
     .refine .inr ⟨_,H',nx,h,fun F a w K Q ht hr hk => ?_⟩
      have h1:=evX ht hs hms
      rw[hsv] at h1
      obtain⟨_,tt,c',hF,he,_⟩:=h1.slice_inv
      obtain⟨cs',hcr,hcv⟩:=hr0 F P (a.eval x) w (evX ht hx hmx) hr.hb
      obtain⟨w',hst,hstp⟩:=hp F P w tt cs' hr hF hcv (Z23 hcv hon)
      refine N6 (v := .int .i64 (.ofNat (Nat.min m dLen))) (w':=w') ?_ (hk _ F w' (.int _ _) hstp)
      rw[hex]
      have q1':=q1 a
      rw[he] at q1'
      simp only[Builtin.copy_,q0,q1',q2 a,Sem.run_bind,run_underlying hu,Result.andThen_ok,X24 hlx (evX ht hx hmx) w,D6 hi,hcr w rfl,Sem.run_pure,goInt,hst]
      rfl
 .exact .inl rfl
theorem R76 {kt et:TypeId} (ho:o.op = .call c) (hc:c.callee = .builtin .clear)
  (ht':c.argTypes.toList=[t]) (ha:c.args.toList=[x]) (hx:Q2 n x=some X1) (hu:P.underlying t=some (.map kt et)) (call:B5 β) (z:β) (k:Value->Y0->Nat->β):
  evE (.clrM X1) call T H nx z k=z\/∃ v H' nx',evE (.clrM X1) call T H nx z k=k v H' nx'/\EV P d n o T H nx v H' nx':=by
 have hmx:x ∈ o.op.operands:=by rw[ho];simp only[Op.operands,Call.operands,hc];exact Array.mem_def.2 (by simp[ha])
 have hex:∀ (a:Act) (w:World),(execOp a.eval o).run P w=((Builtin.clear_ c.argTypes o.type (c.args.map a.eval)).run P w).andThen fun v w => .ok (.value v) w:=by
  intro a w;simp[execOp,ho,resolve,hc,invoke,builtin]
 have q0:c.argTypes[0]? = some t:=by rw[<- Array.getElem?_toList,ht'];rfl
 have q1:∀ a:Act,(c.args.map a.eval)[0]? = some (a.eval x):=fun a=>by rw[Array.getElem?_map,<- Array.getElem?_toList,ha];rfl
 show Z61 X1 call T H nx z k=z\/∃ v H' nx',Z61 X1 call T H nx z k=k v H' nx'/\_
 unfold Z61
 rw[N4]
 split
 .rename_i hv
  refine .inr ⟨undef,H,nx,rfl,fun F a w K Q ht hr hk => ?_⟩
  have h1:=evX ht hx hmx
  rw[hv] at h1
  have he:a.eval x = .map none:=by
   generalize a.eval x=q at h1
   cases h1;rfl
  refine N6 (v := .tuple #[]) (w':=w) ?_ (hk _ F w (VR.undef F) (U5.refl hr))
  rw[hex]
  have q1':=q1 a
  rw[he] at q1'
  simp only[Builtin.clear_,q0,q1',Sem.run_bind,run_underlying hu,Result.andThen_ok,Sem.run_pure]
 .rename_i r hv
  rw[W6]
  cases hg:X0 H r with
  | none=>exact .inl rfl
  | some blk=>
   dsimp only[Option.elim_some]
   split
   .rename_i es clock
    rw[Y8]
    refine .inr ⟨undef,_,nx,rfl,fun F a w K Q ht hr hk => ?_⟩
    have h1:=evX ht hx hmx
    rw[hv] at h1
    obtain⟨tt,hF,he⟩:∃ tt,F r=some tt/\a.eval x = .map (some tt.blk):=by
     generalize a.eval x=q at h1
     cases h1 with
     | map hF=>exact⟨_,hF,rfl⟩
    obtain⟨hb0,es',hw,hel⟩:=hr.hb.get hF hg
    have hst:=E49 (c:=clock) hr hF hg rfl hb0 (es:=[]) (es' := #[]) .nil
    refine N6 (v := .tuple #[]) ?_ (hk _ F _ (VR.undef F) hst)
    rw[hex]
    have q1':=q1 a
    rw[he] at q1'
    simp only[Builtin.clear_,q0,q1',Sem.run_bind,run_underlying hu,Result.andThen_ok,Sem.run_pure,B13 hw,N24 hw]
   .exact .inl rfl
 .exact .inl rfl
theorem Y73 {zero:List Value} (ho:o.op = .call c) (hc:c.callee = .builtin .clear)
  (ht':c.argTypes.toList=[t]) (ha:c.args.toList=[x]) (hx:Q2 n x=some X1) (hu:P.underlying t=some (.slice e)) (hz:J18 P e=some zero) (call:B5 β) (z:β) (k:Value->Y0->Nat->β):
  evE (.clrS X1 zero) call T H nx z k=z\/∃ v H' nx',evE (.clrS X1 zero) call T H nx z k=k v H' nx'/\EV P d n o T H nx v H' nx':=by
 have hmx:x ∈ o.op.operands:=by rw[ho];simp only[Op.operands,Call.operands,hc];exact Array.mem_def.2 (by simp[ha])
 have hex:∀ (a:Act) (w:World),(execOp a.eval o).run P w=((Builtin.clear_ c.argTypes o.type (c.args.map a.eval)).run P w).andThen fun v w => .ok (.value v) w:=by
  intro a w;simp[execOp,ho,resolve,hc,invoke,builtin]
 have q0:c.argTypes[0]? = some t:=by rw[<- Array.getElem?_toList,ht'];rfl
 have q1:∀ a:Act,(c.args.map a.eval)[0]? = some (a.eval x):=fun a=>by rw[Array.getElem?_map,<- Array.getElem?_toList,ha];rfl
 obtain⟨it,zv,hit,hiz,rfl,hfl,hone,hlen⟩:=G22 hz
 show M60 X1 zv.cells.toList call T H nx z k=z\/∃ v H' nx',M60 X1 zv.cells.toList call T H nx z k=k v H' nx'/\_
 unfold M60
 rw[N4]
 split
 .rename_i m cp hv
  refine .inr ⟨undef,H,nx,rfl,fun F a w K Q ht hr hk => ?_⟩
  have h1:=evX ht hx hmx
  rw[hv] at h1
  have he:=h1.sliceN_inv
  refine N6 (v := .tuple #[]) (w':=w) ?_ (hk _ F w (VR.undef F) (U5.refl hr))
  rw[hex]
  have q1':=q1 a
  rw[he] at q1'
  simp only[Builtin.clear_,q0,q1',Sem.run_bind,run_underlying hu,Result.andThen_ok,Sem.run_pure]
 .rename_i b o' m cp hv
  cases hm:Nat.beq m 0 with
  | true=>
   have hm0:m=0:=Nat.eq_of_beq_eq_true hm
   subst hm0
   refine .inr ⟨undef,H,nx,rfl,fun F a w K Q ht hr hk => ?_⟩
   have h1:=evX ht hx hmx
   rw[hv] at h1
   obtain⟨_,tt,c',hF,he,_⟩:=h1.slice_inv
   refine N6 (v := .tuple #[]) (w':=w) ?_ (hk _ F w (VR.undef F) (U5.refl hr))
   rw[hex]
   have q1':=q1 a
   rw[he] at q1'
   simp only[Builtin.clear_,q0,q1',Sem.run_bind,run_underlying hu,Result.andThen_ok,Sem.run_pure]
  | false=>
   have hm0:m≠0:=fun e=>by subst e;simp at hm
   simp only[cond_false]
   cases hon:Z0 (V5 zv.cells.toList m) with
   | false=>exact .inl rfl
   | true=>
    simp only[cond_true]
    rcases J32 (F:=fun _=>none) (H:=H) (nx:=nx) (b:=b) (o':=o') (vs:=V5 zv.cells.toList m) none z (fun H=>k undef H nx) with h | ⟨H',h,hp⟩
    .exact .inl h
    .refine .inr ⟨_,H',nx,h,fun F a w K Q ht hr hk => ?_⟩
     have h1:=evX ht hx hmx
     rw[hv] at h1
     obtain⟨_,tt,c',hF,he,_⟩:=h1.slice_inv
     have hvl:VL F (V5 zv.cells.toList m) (V5 zv.cells.toList m):=VL.repeat (Z20 hfl F) m
     obtain⟨w',hst,hstp⟩:=hp F P w tt _ hr hF hvl (Z23 hvl hon)
     refine N6 (v := .tuple #[]) (w':=w') ?_ (hk _ F w' (VR.undef F) hstp)
     rw[hex]
     have q1':=q1 a
     rw[he] at q1'
     have hzc:(Builtin.zeroCells zv.cells m).toList=V5 zv.cells.toList m:=N25 zv.cells m
     obtain⟨m',rfl⟩:∃ m',m=m'+1:=⟨m-1,by omega⟩
     simp only[Builtin.clear_,q0,q1',Sem.run_bind,run_underlying hu,Result.andThen_ok,Sem.run_pure,J30 hit hiz,hzc,hst]
 .exact .inl rfl
theorem V82 {i : IE} (hI : U28 P n o = some (.e i)) {call : B5 β} (hcall : D19 P call) (z : β) (k : Value -> Y0 -> Nat -> β) :
    evE i call T H nx z k = z \/ ∃ v H' nx', evE i call T H nx z k = k v H' nx' /\ EV P d n o T H nx v H' nx' := by
  have h := (W33 hI).resolve_right (by simp)
  clear hI
  unfold V31 at h
  split at h
  case h_24 =>
    rename_i t x v ho
    split at h
    · rename_i h1 h2 h3; cases h; exact W84 ho h1 h2 h3 call z k
    · cases h
  case h_25 =>
    rename_i t m key v ho
    split at h
    · rename_i h1 h2 h3 h4
      cases hk : P.underlying _ with
      | none => rw [hk] at h; cases h
      | some kd => rw [hk] at h; cases h; exact Q58 ho (.inl rfl) h1 h2 h3 h4 hk call z k
    · cases h
  case h_28 =>
    rename_i t m key v ho
    split at h
    · rename_i h1 h2 h3 h4
      cases hk : P.underlying _ with
      | none => rw [hk] at h; cases h
      | some kd => rw [hk] at h; cases h; exact Q58 ho (.inr rfl) h1 h2 h3 h4 hk call z k
    · cases h
  case h_26 =>
    rename_i c ho
    split at h
    case h_1 =>
      rename_i f hc
      split at h
      · rename_i h1 h2; cases h; exact Y74 ho hc h1 h2 hcall z k
      · cases h
    case h_2 =>
      rename_i hc
      split at h
      · rename_i t u tl s x xl h1 h2
        split at h
        · rename_i g1 g2 g3 g4
          split at h
          · rename_i z0 inf g5 g6
            split at h
            · cases h
            · rename_i hud
              cases hb : Nat.blt 0 inf.size with
              | false => rw [hb] at h; cases h
              | true => rw [hb] at h; cases h; exact W77 ho hc h1 h2 g1 g2 g3 g4 (fun k' e => hud k' e) g5 g6 (by simpa using hb) call z k
          · cases h
        · cases h
      · cases h
    case h_3 =>
      rename_i hc
      split at h
      · rename_i t tl s x xl h1 h2
        split at h
        · rename_i g1 g2 g3
          cases hk : P.info? _ with
          | none => rw [hk] at h; cases h
          | some inf => rw [hk] at h; cases h; exact D76 ho hc h1 h2 g1 g2 g3 hk call z k
        · cases h
      · cases h
    all_goals first
      | (cases h; done)
      | (split at h <;> cases h; done)
      | (rename_i hc; split at h
         · rename_i t x h1 h2
           split at h
           · rename_i g1 g2; cases h; exact R76 ho hc h1 h2 g1 g2 call z k
           · rename_i g1 g2
             cases hz : J18 P _ with
             | none => rw [hz] at h; cases h
             | some zero => rw [hz] at h; cases h; exact Y73 ho hc h1 h2 g1 g2 hz call z k
           · cases h
         · cases h
         done)
      | (repeat' (first | (cases h; done) | split at h))
      | skip
    all_goals first
      | (rw [Bool.cond_eq_ite] at h; split at h <;> cases h; done)
      | (rw [Option.map_eq_some_iff] at h; obtain ⟨_, _, h⟩ := h; cases h; done)
  all_goals first
    | (cases h; done)
    | (split at h <;> cases h; done)
    | (repeat' (first | (cases h; done) | split at h))
    | skip
  all_goals first
    | (rw [Bool.cond_eq_ite] at h; split at h <;> cases h; done)
    | (rw [Option.map_eq_some_iff] at h; obtain ⟨_, _, h⟩ := h; cases h; done)
end
theorem TR.put {d:Nat} {F:FM} {T:U1 Value} {n:Nat} {a:Act} (ht:TR d F T n a.tmps) {t:Nat} (htn:t<n) {v v':Value} (hv:VR F v v'):TR d F (ts d T t v) n (a.put (some t) v').tmps:=by
 have hlt:∀ j,j<n->j<2^d:=fun j hj=>Nat.lt_of_lt_of_le hj ht.le
 refine⟨B25 d T t v ht.wf,by simp[Act.put,ht.size],ht.le,fun j hj => ?_⟩
 rw[Z32 d T t j v ht.wf (hlt t htn) (hlt j hj)]
 by_cases e:j=t
 .subst e
  simp[Act.put,ht.size,hj];exact hv
 .have:=ht.get j hj
  simp only[e,if_false]
  have e2:(a.put (some t) v').tmps.getD j undef=a.tmps.getD j undef:=by
   simp[Act.put,Array.getElem?_setIfInBounds_ne (Ne.symm e)]
  rw[e2];exact this
def Agr (n:Nat) (W:List Nat) (T T':U1 Value):Prop:=∀ j,j<n->j ∉ W->(tg T' j).getD undef=(tg T j).getD undef
theorem Agr.refl (n:Nat) (W:List Nat) (T:U1 Value):Agr n W T T:=fun _ _ _=>rfl
theorem Agr.trans {n:Nat} {W W':List Nat} {T T1 T2:U1 Value} (h:Agr n W T T1) (h':Agr n W' T1 T2):Agr n (W++W') T T2:=fun j hj hn=>by
 rw[List.mem_append] at hn
 exact (h' j hj (fun h=>hn (.inr h))).trans (h j hj (fun h=>hn (.inl h)))
theorem Agr.mono {W W':List Nat} {T T1:U1 Value} (h:Agr n W T T1) (hs:∀ j ∈ W,j ∈ W'):Agr n W' T T1:=fun j hj hn=>h j hj (fun hh=>hn (hs j hh))
theorem B90 {t:Nat} {T:U1 Value} (hn:n<=2^d) (ht:t<n) (hw:WF d T) (v:Value):Agr n [t] T (ts d T t v):=fun j hj hne=>by
 rw[Z32 d T t j v hw (by omega) (by omega),if_neg (by simpa using hne)]
theorem C22 {dst:Option Nat} {v:Value} {T:U1 Value} (k:U1 Value->β):
  ∃ T',Z9 d dst v T k=k T'/\(WF d T->WF d T'/\∀ n,n<=2^d->(∀ t,dst=some t->t<n)->Agr n dst.toList T T')/\∀ (F:FM) (n:Nat) (a:Act) (v':Value),(∀ t,dst=some t->t<n)->TR d F T n a.tmps->VR F v v'->TR d F T' n (a.put dst v').tmps:=by
 cases dst with
 | none=>exact⟨T,rfl,fun h=>⟨h,fun n _ _=>Agr.refl _ _ _⟩,fun F n a v' _ ht _=>ht⟩
 | some t=>
  refine⟨ts d T t v,X23 d T t v k,fun h=>⟨B25 d T t v h,fun n hn hlt=>B90 hn (hlt t rfl) h v⟩,fun F n a v' hlt ht hv=>ht.put (hlt t rfl) hv⟩
def GR (g:Option (Nat × Bool)) (F:FM) (T:U1 Value) (a:Act):Prop:=∀ t want,g=some (t,want)->t<a.tmps.size/\VR F ((tg T t).getD undef) (a.tmps.getD t undef)
theorem Q45 {ops:List Oper} {o:Oper} {g:Option (Nat × Bool)} (hg:E25 n ops o.guard=some g) (T:U1 Value) (z yes no:β):
  V14 g T z yes no=z\/(V14 g T z yes no=yes/\∀ (F:FM) (a:Act),GR g F T a->Region.wanted o (yielded ops.toArray a.tmps)=true) \/
  (V14 g T z yes no=no/\∀ (F:FM) (a:Act),GR g F T a->Region.wanted o (yielded ops.toArray a.tmps)=false):=by
 cases hgd:o.guard with
 | none=>
  rw[hgd] at hg;simp[E25] at hg;subst hg
  exact .inr (.inl ⟨rfl,fun F a _=>by simp[Region.wanted,hgd]⟩)
 | some jw=>
  obtain⟨j,want⟩:=jw
  rw[hgd] at hg
  simp only[E25] at hg
  cases hj:nth ops j with
  | none=>simp[hj] at hg
  | some oj=>
   cases hd:oj.dst with
   | none=>simp[hj,hd] at hg
   | some t=>
    simp only[hj,hd] at hg
    cases hb:Nat.blt t n with
    | false=>rw[hb] at hg;cases hg
    | true=>
     rw[hb] at hg;cases hg
     have hy:∀ (F:FM) (a:Act),GR (some (t,want)) F T a->∃ v',VR F ((tg T t).getD undef) v'/\yielded ops.toArray a.tmps j=(match v' with | .bool b=>some b | _=>none):=by
      intro F a ht
      obtain⟨hsz,hvr⟩:=ht t want rfl
      refine⟨a.tmps.getD t undef,hvr,?_⟩
      rw[C14] at hj
      simp only[yielded,List.getElem?_toArray,hj,Option.bind_some,hd,Array.getElem?_eq_getElem hsz]
      have:a.tmps.getD t undef=a.tmps[t]:=by simp[hsz]
      rw[this]
      cases a.tmps[t]<;>rfl
     unfold V14
     dsimp only
     rw[R20]
     cases hv:tg T t with
     | none=>
      refine .inr (.inr ⟨rfl,fun F a ht => ?_⟩)
      obtain⟨v',hvr,he⟩:=hy F a ht
      rw[hv] at hvr
      cases hvr
      simp[Region.wanted,hgd,he]
     | some v=>
      dsimp only[Option.elim_some]
      split
      .rename_i b
       rw[D22]
       have key:∀ (F:FM) (a:Act),GR (some (t,want)) F T a->Region.wanted o (yielded ops.toArray a.tmps)=cond b want (!want):=by
        intro F a ht
        obtain⟨v',hvr,he⟩:=hy F a ht
        rw[hv] at hvr
        have:=VR.bool_inv hvr
        subst this
        simp only[Region.wanted,hgd,he]
        cases b<;>cases want<;>rfl
       cases hc:cond b want (!want) with
       | true=>exact .inr (.inl ⟨rfl,fun F a ht=>by rw[key F a ht,hc]⟩)
       | false=>exact .inr (.inr ⟨rfl,fun F a ht=>by rw[key F a ht,hc]⟩)
      .exact .inl rfl
      .rename_i hnb hnc
       refine .inr (.inr ⟨rfl,fun F a ht => ?_⟩)
       obtain⟨v',hvr,he⟩:=hy F a ht
       rw[hv] at hvr
       simp only[Option.getD_some] at hvr
       have:∀ b,v' ≠ .bool b:=by
        intro b hb;subst hb
        cases hvr
        .exact hnc _ rfl
        .exact hnb b rfl
       simp only[Region.wanted,hgd,he]
       cases v'<;>first | rfl | exact absurd rfl (this _)
end Go.Clo

namespace Go.Clo
variable {n:Nat} {o:Oper} {ops:List Oper} {s:S}
theorem N14 (a:Act) (dst:Option Tmp) (v:Value):(a.put dst v).defers=a.defers:=by cases dst<;>rfl
theorem Z85 {t:Option Tmp} {r:Option Nat} (h:K61 n t=some r):r=t/\∀ q,t=some q->q<n:=by
 cases t with
 | none=>simp[K61] at h;exact⟨h.symm,fun q hq=>by cases hq⟩
 | some t=>
  simp only[K61] at h
  cases hb:Nat.blt t n with
  | false=>rw[hb] at h;cases h
  | true=>rw[hb] at h;cases h;exact⟨rfl,fun q hq=>by cases hq;simpa using hb⟩
theorem J26 {P:Program} (h:D25 P n ops o=some s):E25 n ops o.guard=some s.guard/\s.dst=o.dst/\(∀ q,o.dst=some q->q<n)/\U28 P n o=some s.i:=by
 unfold D25 at h
 split at h
 .rename_i g d i h1 h2 h3
  cases h
  obtain⟨e1,e2⟩:=Z85 h2
  exact⟨h1,e1,e2,h3⟩
 .cases h
theorem TR.gr {d:Nat} {F:FM} {T:U1 Value} {a:Act} (ht:TR d F T n a.tmps) {g:Option (Nat × Bool)} (hg:E25 n ops o.guard=some g):GR g F T a:=by
 intro t want e
 subst e
 have htn:t<n:=by
  cases hgd:o.guard with
  | none=>rw[hgd] at hg;simp[E25] at hg
  | some jw=>
   obtain⟨j,w⟩:=jw
   rw[hgd] at hg
   simp only[E25] at hg
   split at hg
   .split at hg
    .rename_i t' _
     cases hb:Nat.blt t' n with
     | false=>rw[hb] at hg;cases hg
     | true=>rw[hb] at hg;cases hg;simpa using hb
    .cases hg
   .cases hg
 exact⟨by rw[ht.size];exact htn,ht.get t htn⟩
def C93 (P:Program) (d n:Nat) (ops:List Oper) (o:Oper) (T:U1 Value) (H:Y0) (nx:Nat) (T':U1 Value) (H':Y0) (nx':Nat):Prop:=
 ∀ (F:FM) (a:Act) (w:World) (K:Act->World->Prop) (Q:Exit->Act->World->Prop),TR d F T n a.tmps->HR F H nx w ->
  (∀ F' a' w',TR d F' T' n a'.tmps->U5 F H nx w F' H' nx' w'->a'.defers=a.defers->K a' w') ->
  if Region.wanted o (yielded ops.toArray a.tmps) then o.wp P a w K Q\/(o.asks P a w/\LetsOut Q) else K (a.put o.dst undef) w
section
variable {β:Type} {P:Program} {d n:Nat} {ops:List Oper}
theorem M72 (hs:D25 P n ops o=some s) (hn:n<=2^d) {call:B5 β} (hcall:D19 P call) (T:U1 Value) (H:Y0) (nx:Nat) (z:β) (k:U1 Value->Y0->Nat->β):
  E28 P d call s T H nx z k=z\/∃ T' H' nx',E28 P d call s T H nx z k=k T' H' nx'/\(WF d T->WF d T'/\Agr n s.dst.toList T T')/\C93 P d n ops o T H nx T' H' nx':=by
 obtain⟨hg,hd,hdn,hi⟩:=J26 hs
 obtain⟨g,dst,i⟩:=s
 dsimp only at hg hd hi
 subst hd
 show V14 g T z (E47 i P d o.dst call T H nx z k) (Z9 d o.dst undef T fun T=>k T H nx)=z\/∃ T' H' nx',V14 g T z (E47 i P d o.dst call T H nx z k) (Z9 d o.dst undef T fun T=>k T H nx)=k T' H' nx'/\_
 rcases Q45 hg T z (E47 i P d o.dst call T H nx z k) (Z9 d o.dst undef T fun T=>k T H nx) with e | ⟨e,hw⟩ | ⟨e,hw⟩
 .exact .inl e
 .rw[e]
  cases i with
  | p i=>
   show B15 i P d o.dst call T H nx z k=z\/∃ T' H' nx',B15 i P d o.dst call T H nx z k=k T' H' nx'/\_
   unfold B15
   rcases W80 (P:=P) (d:=d) (T:=T) hi z (fun v=>Z9 d o.dst v T fun T=>k T H nx) with h | ⟨v,h,hp⟩
   .exact .inl h
   .obtain⟨T',ht',hwf,hT⟩:=C22 (d:=d) (dst:=o.dst) (v:=v) (T:=T) (fun T=>k T H nx)
    refine .inr ⟨T',H,nx,by rw[h,ht'],fun h=>⟨(hwf h).1,(hwf h).2 n hn hdn⟩,fun F a w K Q ht hr hk => ?_⟩
    rw[if_pos (hw F a (ht.gr hg))]
    obtain⟨v',hrun,hv⟩:=hp F a w (ht.or o)
    exact .inl (N6 hrun (hk F _ w (hT F n a v' hdn ht hv) (U5.refl hr) (N14 a _ _)))
  | r i=>
   show N74 i P d o.dst call T H nx z k=z\/∃ T' H' nx',N74 i P d o.dst call T H nx z k=k T' H' nx'/\_
   unfold N74
   rcases V51 (P:=P) (d:=d) (T:=T) (H:=H) (nx:=nx) hi z (fun v=>Z9 d o.dst v T fun T=>k T H nx) with h | ⟨v,h,hp⟩
   .exact .inl h
   .obtain⟨T',ht',hwf,hT⟩:=C22 (d:=d) (dst:=o.dst) (v:=v) (T:=T) (fun T=>k T H nx)
    refine .inr ⟨T',H,nx,by rw[h,ht'],fun h=>⟨(hwf h).1,(hwf h).2 n hn hdn⟩,fun F a w K Q ht hr hk => ?_⟩
    rw[if_pos (hw F a (ht.gr hg))]
    obtain⟨v',hrun,hv⟩:=hp F a w (ht.or o) hr.hb
    exact .inl (N6 hrun (hk F _ w (hT F n a v' hdn ht hv) (U5.refl hr) (N14 a _ _)))
  | a i=>
   show U61 i P d o.dst call T H nx z k=z\/∃ T' H' nx',U61 i P d o.dst call T H nx z k=k T' H' nx'/\_
   unfold U61
   .rcases M79 (P:=P) (d:=d) (T:=T) hi z (J54 d o.dst T H nx k) with h | ⟨b,y,h,hp⟩
    .exact .inl h
    .unfold J54 at h
     rw[Y8,N2,J8] at h
     obtain⟨T',ht',hwf,hT⟩:=C22 (d:=d) (dst:=o.dst) (v:=y.val nx) (T:=T) (fun T=>k T (Go.Clo.hs H nx (some b)) (nx+1))
     rw[ht'] at h
     refine .inr ⟨T',_,nx+1,h,fun h=>⟨(hwf h).1,(hwf h).2 n hn hdn⟩,fun F a w K Q ht hr hk => ?_⟩
     rw[if_pos (hw F a (ht.gr hg))]
     obtain⟨obj,hrun,hnew⟩:=hp F a w (ht.or o)
     obtain⟨t,e1,e2,hst⟩:=U5.new hr hnew
     have hv:VR (upd F nx t) (y.val nx) (y.real w.heap.size):=by rw[<- e1];exact B0.vr (R10 F nx t) e2 y
     exact .inl (N6 hrun (hk _ _ _ (hT _ n a _ hdn (ht.mono (hst.fle hr)) hv) hst (N14 a _ _)))
  | e i=>
   show N76 i P d o.dst call T H nx z k=z\/∃ T' H' nx',N76 i P d o.dst call T H nx z k=k T' H' nx'/\_
   unfold N76
   rcases V82 (P:=P) (d:=d) (T:=T) (H:=H) (nx:=nx) hi hcall z (fun v H nx=>Z9 d o.dst v T fun T=>k T H nx) with h | ⟨v,H',nx',h,hp⟩
   .exact .inl h
   .obtain⟨T',ht',hwf,hT⟩:=C22 (d:=d) (dst:=o.dst) (v:=v) (T:=T) (fun T=>k T H' nx')
    refine .inr ⟨T',H',nx',by rw[h,ht'],fun h=>⟨(hwf h).1,(hwf h).2 n hn hdn⟩,fun F a w K Q ht hr hk => ?_⟩
    rw[if_pos (hw F a (ht.gr hg))]
    refine .inl (hp F a w K Q (ht.or o) hr fun v' F' w' hv hst => ?_)
    exact hk F' _ w' (hT F' n a v' hdn (ht.mono (hst.fle hr)) hv) hst (N14 a _ _)
 .rw[e]
  obtain⟨T',ht',hwf,hT⟩:=C22 (d:=d) (dst:=o.dst) (v:=undef) (T:=T) (fun T=>k T H nx)
  refine .inr ⟨T',H,nx,ht',fun h=>⟨(hwf h).1,(hwf h).2 n hn hdn⟩,fun F a w K Q ht hr hk => ?_⟩
  rw[if_neg (by simp[hw F a (ht.gr hg)])]
  exact hk F _ w (hT F n a undef hdn ht (VR.undef F)) (U5.refl hr) (N14 a _ _)
def X17:List S->List Nat
 | []=>[]
 | s :: l=>s.dst.toList++X17 l
theorem J55 (hn:n<=2^d) {call:B5 β} (hcall:D19 P call) (z:β) (k:U1 Value->Y0->Nat->β):∀ (suf:List Oper) (l:List S) (i:Nat),Y7 P n ops suf=some l->(∀ j,j<suf.length->suf[j]? = ops[i+j]?)->∀ (T:U1 Value) (H:Y0) (nx:Nat),
  Y14 P d call z k l T H nx=z\/∃ T' H' nx',Y14 P d call z k l T H nx=k T' H' nx'/\(WF d T->WF d T'/\Agr n (X17 l) T T') /\
   ∀ (F:FM) (a:Act) (w:World) (Q:Exit->Act->World->Prop) (rest:List Nat),TR d F T n a.tmps->HR F H nx w ->
    (∀ F' a' w',TR d F' T' n a'.tmps->U5 F H nx w F' H' nx' w'->a'.defers=a.defers->wpOps P ops.toArray Q rest a' w')->wpOps P ops.toArray Q (List.range' i suf.length++rest) a w
 | [],l,i,h,_,T,H,nx=>by
  simp[Y7] at h;subst h
  exact .inr ⟨T,H,nx,rfl,fun h=>⟨h,Agr.refl _ _ _⟩,fun F a w Q rest ht hr hk=>by simpa using hk F a w ht (U5.refl hr) rfl⟩
 | o :: suf,l,i,h,hsuf,T,H,nx=>by
  simp only[Y7] at h
  cases hs:D25 P n ops o with
  | none=>simp[hs] at h
  | some s=>cases hl:Y7 P n ops suf with
   | none=>simp[hs,hl] at h
   | some l'=>
    simp[hs,hl] at h;subst h
    show E28 P d call s T H nx z (Y14 P d call z k l')=z\/∃ T' H' nx',E28 P d call s T H nx z (Y14 P d call z k l')=k T' H' nx'/\_
    rcases M72 (d:=d) hs hn hcall T H nx z (Y14 P d call z k l') with h1 | ⟨T1,H1,nx1,h1,hw1,hok⟩
    .exact .inl h1
    .rw[h1]
     rcases J55 hn hcall z k suf l' (i+1) hl (fun j hj=>by have:=hsuf (j+1) (by simp;omega);simpa [Nat.add_assoc,Nat.add_comm 1 j] using this) T1 H1 nx1 with h2 | ⟨T2,H2,nx2,h2,hw2,hp⟩
     .exact .inl h2
     .refine .inr ⟨T2,H2,nx2,h2,fun h=>⟨(hw2 (hw1 h).1).1,(hw1 h).2.trans (hw2 (hw1 h).1).2⟩,fun F a w Q rest ht hr hk => ?_⟩
      simp only[List.length_cons,List.range'_succ,List.cons_append]
      rw[wpOps_cons]
      unfold wpOp
      have ho:ops.toArray[i]? = some o:=by have:=hsuf 0 (by simp);simpa using this.symm
      simp only[ho]
      refine hok F a w _ Q ht hr fun F' a' w' ht' hst hdf => ?_
      exact hp F' a' w' Q rest ht' hst.hr fun F2 a2 w2 ht2 hst2 hdf2=>hk F2 a2 w2 ht2 (hst.trans hst2) (hdf2.trans hdf)
theorem K79 (hn:n<=2^d) {call:B5 β} (hcall:D19 P call) (z:β) (k:U1 Value->Y0->Nat->β) (suf:List Oper) (l:List S) (i:Nat) (h:Y7 P n ops suf=some l) (hsuf:∀ j,suf[j]? = ops[i+j]?) (T:U1 Value) (H:Y0) (nx:Nat):
  Y14 P d call z k l T H nx=z\/∃ T' H' nx',Y14 P d call z k l T H nx=k T' H' nx'/\(WF d T->WF d T'/\Agr n (X17 l) T T') /\
   ∀ (F:FM) (a:Act) (w:World) (Q:Exit->Act->World->Prop),TR d F T n a.tmps->HR F H nx w ->
    (∀ F' a' w',TR d F' T' n a'.tmps->U5 F H nx w F' H' nx' w'->a'.defers=a.defers->Q .normal a' w')->wpOps P ops.toArray Q (List.range' i suf.length) a w:=by
 rcases J55 hn hcall z k suf l i h (fun j _=>hsuf j) T H nx with h1 | ⟨T',H',nx',h1,h2,h3⟩
 .exact .inl h1
 .exact .inr ⟨T',H',nx',h1,h2,fun F a w Q ht hr hk=>by simpa using h3 F a w Q [] ht hr hk⟩
end
end Go.Clo

namespace Go.Clo
variable {i:Nat} {listed:Array Bool} {ops:List Oper}
theorem J59 {β:Type}:∀ (ops:List Oper) (acc:List Nat) (f:List Nat->β),∃ ml,B40 acc ops f=f (acc++ml)/\ml.length=ops.length /\
  ∀ i o,ops[i]? = some o->ml[i]? = some (G4 (acc++ml.take i) o.after.toList 0)
 | [],acc,f=>⟨[],by simp[B40],rfl,fun i o h=>by simp at h⟩
 | o :: ops,acc,f=>by
  obtain⟨ml,h1,h2,h3⟩:=J59 ops (acc++[G4 acc o.after.toList 0]) f
  refine⟨G4 acc o.after.toList 0 :: ml,by simp[B40,N2,h1],by simp[h2],fun i o' hi => ?_⟩
  cases i with
  | zero=>simp at hi;subst hi;simp
  | succ i=>simpa using h3 i o' (by simpa using hi)
theorem W74 (ops:List Oper):(Z3 ops).length=ops.length/\∀ i o,ops[i]? = some o->(Z3 ops)[i]? = some (G4 ((Z3 ops).take i) o.after.toList 0):=by
 obtain⟨ml,h1,h2,h3⟩:=J59 ops [] id
 have:Z3 ops=ml:=by unfold Z3;rw[h1];simp
 rw[this]
 exact⟨h2,fun i o hi=>by simpa using h3 i o hi⟩
theorem X9:∀ (es:List Edge) (acc:List Nat) (m j:Nat),(G4 acc es m).testBit j=true->m.testBit j=true\/∃ e ∈ es,Region.binds .any e=true/\(e.on=j\/∃ x,acc[e.on]? = some x/\x.testBit j=true)
 | [],acc,m,j,h => .inl h
 | e :: es,acc,m,j,h=>by
  simp only[G4] at h
  cases hb:Region.binds .any e with
  | false=>
   rw[hb] at h
   rcases X9 es acc m j h with h | ⟨e',he',hx⟩
   .exact .inl h
   .exact .inr ⟨e',by simp[he'],hx⟩
  | true=>
   rw[hb] at h
   rcases X9 es acc _ j h with h | ⟨e',he',hx⟩
   .simp only[Nat.testBit_or,Bool.or_eq_true] at h
    rcases h with (h | h) | h
    .exact .inl h
    .rw[Nat.testBit_two_pow] at h
     exact .inr ⟨e,by simp,hb,.inl (by simpa using h)⟩
    .refine .inr ⟨e,by simp,hb,.inr ?_⟩
     rw[C14] at h
     cases hx:acc[e.on]? with
     | none=>rw[hx] at h;simp at h
     | some x=>rw[hx] at h;exact⟨x,rfl,h⟩
   .exact .inr ⟨e',by simp[he'],hx⟩
theorem W66 {j:Nat} (h:X5 (Z3 ops) i j=true):
  ∃ o e,ops[i]? = some o/\e ∈ o.after/\Region.binds .any e=true/\(e.on=j\/(e.on<i/\X5 (Z3 ops) e.on j=true)):=by
 obtain⟨h1,h2⟩:=W74 ops
 unfold X5 at h
 rw[C14] at h
 cases hm:(Z3 ops)[i]? with
 | none=>rw[hm] at h;cases h
 | some m=>
  rw[hm] at h
  dsimp only at h
  have hi:i<ops.length:=by
   rcases Nat.lt_or_ge i ops.length with g | g
   .exact g
   .simp[h1,g] at hm
  have ho:ops[i]? = some ops[i]:=by simp[hi]
  have:=h2 i _ ho
  rw[hm] at this
  cases this
  rcases X9 _ _ _ _ h with h | ⟨e,he,hb,hx⟩
  .simp at h
  .refine⟨ops[i],e,ho,by simpa using he,hb,?_⟩
   rcases hx with hx | ⟨x,hx,hxb⟩
   .exact .inl hx
   .have hlt:e.on<i:=by
     rcases Nat.lt_or_ge e.on i with g | g
     .exact g
     .simp[List.getElem?_take,Nat.not_lt.2 g] at hx
    refine .inr ⟨hlt,?_⟩
    simp[hlt] at hx
    unfold X5
    rw[C14,hx]
    exact hxb
structure Z21 (ops:List Oper) (i:Nat) (o:Oper):Prop where
 one:∀ j oj d,ops[j]? = some oj->oj.dst=some d->i≠j->o.dst≠some d/\(d ∈ D27 ops o->X5 (Z3 ops) i j=true\/X5 (Z3 ops) j i=true)
 self:∀ d,o.dst=some d->d ∉ D27 ops o
 edge:∀ e ∈ o.after,Region.binds .any e=true->e.on<i
theorem Y45 {ops:List Oper}:∀ (suf:List Oper) (i0:Nat),U22 (Z3 ops) ops suf i0=true->∀ k o,suf[k]? = some o->Z21 ops (i0+k) o
 | [],i0,_,k,o,hk=>by simp at hk
 | o :: suf,i0,h,k,o',hk=>by
  simp only[U22,Bool.and_eq_true] at h
  obtain⟨⟨⟨⟨h1,h2⟩,h3⟩,h4⟩,h5⟩:=h
  cases k with
  | succ k=>
   have:=Y45 suf (i0+1) h5 k o' (by simpa using hk)
   rwa [show i0+1+k=i0+(k+1) by omega] at this
  | zero=>
   simp at hk;subst hk
   refine⟨fun j oj d hj hd hne => ?_,fun d hd => ?_,fun e he hb => ?_⟩
   .rw[List.all_eq_true] at h1
    have:=h1 (oj,j) (by
     rw[List.mem_iff_getElem?]
     exact⟨j,by simp[List.getElem?_zipIdx,hj]⟩)
    simp only[hd,Bool.or_eq_true,Bool.and_eq_true] at this
    rcases this with this | ⟨g1,g2⟩
    .exact absurd (Nat.eq_of_beq_eq_true this) hne
    .refine⟨fun e => ?_,fun hm => ?_⟩
     .rw[e] at g1;simp at g1
     .rcases g2 with (g2 | g2) | g2
      .simp[hm] at g2
      .exact .inl g2
      .exact .inr g2
   .rw[hd] at h3
    simpa using h3
   .rw[List.all_eq_true] at h4
    have:=h4 e (by simpa using he)
    simp[hb] at this
    simpa using this
theorem Z55 (hok:∀ i o,ops[i]? = some o->Z21 ops i o):∀ (i j:Nat),X5 (Z3 ops) i j=true->j<i:=by
 intro i
 induction i using Nat.strongRecOn with
 | _ i ih=>
  intro j h
  obtain⟨o,e,ho,he,hb,hx⟩:=W66 h
  have hlt:=(hok i o ho).edge e he hb
  rcases hx with rfl | ⟨_,hx⟩
  .exact hlt
  .have:=ih e.on hlt j hx
   omega
def Z78 (ops:List Oper) (D:Nat->Bool):Prop:=∀ i o,ops[i]? = some o->D i=true->∀ e ∈ o.after,Region.binds .any e=true->D e.on=true
theorem K51 (hok:∀ i o,ops[i]? = some o->Z21 ops i o) {D:Nat->Bool} (hc:Z78 ops D):∀ (i j:Nat),(∀ o,ops[i]? = some o->∀ e ∈ o.after,Region.binds .any e=true->D e.on=true)->X5 (Z3 ops) i j=true->D j=true:=by
 intro i
 induction i using Nat.strongRecOn with
 | _ i ih=>
  intro j hd h
  obtain⟨o,e,ho,he,hb,hx⟩:=W66 h
  have hlt:=(hok i o ho).edge e he hb
  have hl:=hd o ho e he hb
  rcases hx with rfl | ⟨_,hx⟩
  .exact hl
  .exact ih e.on hlt j (fun o' ho' e' he' hb'=>hc e.on o' ho' hl e' he' hb') hx
theorem J51 {ops:Array Oper} (h:i ∈ Region.ready .any ops listed):i<ops.size/\listed.getD i true=false/\∀ o,ops[i]? = some o->∀ e ∈ o.after,Region.binds .any e=true->listed.getD e.on false=true:=by
 simp only[Region.ready,List.mem_filter,List.mem_range,Bool.and_eq_true,Bool.not_eq_true'] at h
 obtain⟨h1,h2,h3⟩:=h
 refine⟨h1,h2,fun o ho e he hb => ?_⟩
 rw[ho] at h3
 simp only[Option.map_some,Option.getD_some,Array.all_eq_true_iff_forall_mem] at h3
 have:=h3 e he
 simpa [hb] using this
theorem G72 {ops:Array Oper} (hs:listed.size=ops.size) (hedge:∀ i o,ops[i]? = some o->∀ e ∈ o.after,Region.binds .any e=true->e.on<i) (h:Region.ready .any ops listed=[]):∀ i,i<ops.size->listed.getD i false=true:=by
 intro i
 induction i using Nat.strongRecOn with
 | _ i ih=>
  intro hi
  cases hl:listed.getD i false with
  | true=>rfl
  | false=>
   exfalso
   have hmem:i ∈ Region.ready .any ops listed:=by
    simp only[Region.ready,List.mem_filter,List.mem_range,Bool.and_eq_true,Bool.not_eq_true']
    refine⟨hi,?_,?_⟩
    .have hi2:i<listed.size:=by omega
     simp[hi2] at hl ⊢;exact hl
    .have ho:ops[i]? = some ops[i]:=by simp[hi]
     rw[ho]
     simp only[Option.map_some,Option.getD_some,Array.all_eq_true_iff_forall_mem]
     intro e he
     cases hb:Region.binds .any e with
     | false=>rfl
     | true=>
      have hlt:=hedge i _ ho e he hb
      have:=ih e.on hlt (by omega)
      rw[this];rfl
   rw[h] at hmem
   cases hmem
end Go.Clo
