/-
  The closed executor: the operations with an effect.
  The closed executor: append and copy;the operations with an effect,joined.
  The closed executor: append,copy,and all operations with an effect.
  The closed executor: all operations with an effect.
-/
import Derived.Test.YtpiobdofbhkmjaaDoorL7
import Derived.Laws.StructEq
set_option linter.unusedSimpArgs false
set_option linter.unusedVariables false
set_option linter.unusedSectionVars false
namespace Go.Clo
variable {F:FM} {P:Program} {Q:Exit->Act->World->Prop} {V1:X} {a:Act} {c r:Nat} {kd:TypeDesc} {l l':List MapEntry} {o:Oper} {t:TypeId} {v:Value} {w w':World}
def EV (P:Program) (d n:Nat) (o:Oper) (T:U1 Value) (H:Y0) (nx:Nat) (v:Value) (H':Y0) (nx':Nat):Prop:=
 ∀ (F:FM) (a:Act) (w:World) (K:Act->World->Prop) (Q:Exit->Act->World->Prop),OR n o F T a->HR F H nx w ->
  (∀ v' F' w',VR F' v v'->U5 F H nx w F' H' nx' w'->K (a.put o.dst v') w')->o.wp P a w K Q
def Enters (P : Program) (f : FuncId) : Prop := ∃ fn c, P.funcs[f]? = some fn /\ fn.body = some c /\ (fn.name == "runtime.NumGoroutine") = false
def CS (P:Program) (f:FuncId) (args:List Value) (H:Y0) (nx:Nat) (v:Value) (H':Y0) (nx':Nat):Prop:=
 Enters P f/\∀ (F:FM) (args':List Value) (w:World),HR F H nx w->VL F args args' ->
  Calls P f args'.toArray w fun e w'=>∃ v' F',e = .returned v'/\VR F' v v'/\U5 F H nx w F' H' nx' w'
def D19 {β:Type} (P:Program) (call:B5 β):Prop:=
 ∀ f args H nx (z:β) k,call f args H nx z k=z\/∃ v H' nx',call f args H nx z k=k v H' nx'/\CS P f args H nx v H' nx'
theorem VR.undef (F:FM):VR F Go.undef Go.undef:=VR.tuple' .nil
theorem N6 {K:Act->World->Prop} (h:(execOp a.eval o).run P w = .ok (.value v) w') (hk:K (a.put o.dst v) w'):o.wp P a w K Q:=by
 unfold Oper.wp;rw[h];exact hk
theorem R38 {K:Act->World->Prop} (h:(execOp a.eval o).run P w = .ok .skip w') (hk:K (a.put o.dst Go.undef) w'):o.wp P a w K Q:=by
 unfold Oper.wp;rw[h];exact hk
theorem Z82 {f:FuncId} (he:Enters P f) (args:Array Value) (w:World):(callFunc f args).run P w = .ok (.enter f args) w:=by
 obtain⟨fn,c,h1,h2,h3⟩:=he
 have h3' : ¬ fn.name = "runtime.NumGoroutine" := by simpa using h3
 simp[callFunc,program,Sem.run,h1,h2,h3']
section
variable {β:Type} {P:Program} {d n nx:Nat} {o:Oper} {T:U1 Value} {H:Y0}
theorem Y74 {c:Call} {f:Operand} {y:X} {ys:List X} (ho:o.op = .call c) (hc:c.callee = .value f) (hf:Q2 n f=some y) (hys:E12 n c.args.toList=some ys) {call:B5 β} (hcall:D19 P call) (z:β) (k:Value->Y0->Nat->β):
  evE (.call y ys) call T H nx z k=z\/∃ v H' nx',evE (.call y ys) call T H nx z k=k v H' nx'/\EV P d n o T H nx v H' nx':=by
 show C60 y ys call T H nx z k=z\/∃ v H' nx',C60 y ys call T H nx z k=k v H' nx'/\_
 unfold C60
 rw[N4]
 split
 .rename_i g first cap hv
  rw[W35,E3]
  rcases hcall g (first++ys.map (ev T)++cap) H nx z k with h | ⟨v,H',nx',h,he,hcs⟩
  .exact .inl h
  .refine .inr ⟨v,H',nx',h,fun F a w K Q ht hr hk => ?_⟩
   have h1:=evX ht hf (by rw[ho];simp[Op.operands,Call.operands,hc])
   rw[hv] at h1
   have h2:=X63 ht hys (by rw[ho];intro q hq;simp[Op.operands,Call.operands,hc];exact .inr (by simpa using hq))
   generalize hq:a.eval f=q at h1
   cases h1 with
   | @func _ x x' y' y'' e1 e2 e3 e4=>
    have hx:VL F first x'.toList:=VL.ofArr e1 e2
    have hy:VL F cap y''.toList:=VL.ofArr e3 e4
    have hcalls:=hcs F (x'.toList++c.args.toList.map a.eval++y''.toList) w hr ((hx.append h2).append hy)
    unfold Oper.wp
    have harr:(x'.toList++c.args.toList.map a.eval++y''.toList).toArray=x'++c.args.map a.eval++y'':=by
     apply Array.toList_inj.1;simp
    rw[harr] at hcalls
    have hrun:(execOp a.eval o).run P w = .ok (.enter g (x'++c.args.map a.eval++y'')) w:=by
     simp only[execOp,ho,resolve,hc,hq,Deferred.ofValue,Sem.run_bind,Sem.run_pure,Result.andThen_ok,invoke]
     exact Z82 he _ w
    rw[hrun]
    simp only[Oper.upon]
    refine hcalls.mono fun e w' ⟨v',F',e1,hvr,hst⟩ => ?_
    subst e1
    exact hk v' F' w' hvr hst
 .exact .inl rfl
theorem W84 {x v:Operand} {X1:X} {i:TypeInfo} (ho:o.op = .store t x v) (hx:Q2 n x=some X1) (hv:Q2 n v=some V1) (hi:P.info? t=some i) (call:B5 β) (z:β) (k:Value->Y0->Nat->β):
  evE (.st X1 V1 i.size) call T H nx z k=z\/∃ u H' nx',evE (.st X1 V1 i.size) call T H nx z k=k u H' nx'/\EV P d n o T H nx u H' nx':=by
 show eSt X1 V1 i.size call T H nx z k=z\/∃ u H' nx',eSt X1 V1 i.size call T H nx z k=k u H' nx'/\_
 unfold eSt
 rw[N4,N4]
 split
 .rename_i a hxv
  obtain⟨b,o',s'⟩:=a
  cases hb:(Nat.beq (ev T V1).cells.toList.length i.size&&Z0 (ev T V1).cells.toList) with
  | false=>exact .inl rfl
  | true=>
   dsimp only[cond_true]
   rw[Bool.and_eq_true] at hb
   rcases J32 (F:=fun _=>none) (H:=H) (nx:=nx) (b:=b) (o':=o') (vs:=(ev T V1).cells.toList) s' z (fun H=>k undef H nx) with h | ⟨H',h,hp⟩
   .exact .inl h
   .refine .inr ⟨undef,H',nx,h,fun F act w K Q ht hr hk => ?_⟩
    have h1:=evX ht hx
    rw[hxv] at h1
    obtain⟨rfl,tt,hF,he⟩:=h1.ptr_inv
    have h2:=(evX ht hv).cells (Z46 hb.2)
    obtain⟨w',hrun,hst⟩:=hp F P w tt _ hr hF h2 (Z23 h2 hb.2)
    have hlen:(act.eval v).cells.size=i.size:=by
     have a:=Nat.eq_of_beq_eq_true hb.1
     have b:=h2.length
     simp at a b;omega
    refine R38 (w':=w') ?_ (hk undef F w' (VR.undef F) hst)
    simp only[execOp,ho,Instr.storeAt,he,Instr.sureAddr,Sem.run_bind,Sem.run_pure,Result.andThen_ok,storeVar,D6 hi,hlen,ne_eq,not_true,if_false,hrun]
 .exact .inl rfl
theorem J39 {kd:TypeDesc} {k:Value}:∀ {es:List MapEntry} {j i:Nat} {v:Value},Instr.findNow kd k es j=some (some (i,v))->j<=i/\∃ e,es[i-j]? = some e/\Instr.sameNow kd k e.key=some true
 | [],j,i,v,h=>by simp[Instr.findNow] at h
 | e :: es,j,i,v,h=>by
  simp only[Instr.findNow] at h
  cases hs:Instr.sameNow kd k e.key with
  | none=>simp[hs] at h
  | some q=>
   cases q with
   | true=>
    simp[hs] at h
    obtain⟨rfl,rfl⟩:=h
    exact⟨Nat.le_refl _,e,by simp,hs⟩
   | false=>
    simp only[hs] at h
    obtain⟨h1,e',h2,h3⟩:=J39 h
    refine⟨by omega,e',?_,h3⟩
    have:i-j=(i-(j+1))+1:=by omega
    rw[this];simpa using h2
theorem D85 {a b:Value} (h:Instr.sameNow kd a b=some true):Instr.sameBits 10000 b a=true:=by
 unfold Instr.sameNow at h
 split at h
 .split at h
  .rename_i e2;subst e2;simp at h;subst h;simp[Instr.sameBits]
  .cases h
 .simp only[Option.some.injEq] at h
  rw[beq_toListBytes] at h
  simp only[Instr.sameBits]
  rw[beq_toListBytes]
  simp at h;simp[h]
 .simp at h;subst h;simp[Instr.sameBits]
 .cases h
theorem Z41 {α:Type}:∀ (l:List α) (i:Nat) (b:α),E40 l i b=l.set i b
 | [],i,b=>by cases i<;>rfl
 | a :: l,0,b=>rfl
 | a :: l,i+1,b=>by simp[E40,Z41 l i b]
theorem EL.set {F:FM} {l l':List MapEntry} (h:EL F l l') {k v v':Value} (hk:W9 k=true) (hv:VR F v v'):∀ {i:Nat} {e e':MapEntry},l[i]? = some e->l'[i]? = some e'->EL F (l.set i ⟨k,v,e.born⟩) (l'.set i ⟨k,v',e'.born⟩)/\e.born=e'.born/\e.key=e'.key:=by
 induction h with
 | nil=>intro i e e' h;simp at h
 | @cons k0 u u' b m m' hk0 hu t ih=>
  intro i e e' h1 h2
  cases i with
  | zero=>
   simp at h1 h2
   subst h1;subst h2
   exact⟨.cons hk hv t,rfl,rfl⟩
  | succ i=>
   obtain⟨g1,g2⟩:=ih (by simpa using h1) (by simpa using h2)
   exact⟨.cons hk0 hu g1,g2⟩
theorem EL.snoc (h:EL F l l') {k v':Value} {b:Nat} (hk:W9 k=true) (hv:VR F v v'):EL F (l++[⟨k,v,b⟩]) (l'++[⟨k,v',b⟩]):=by
 induction h with
 | nil=>exact .cons hk hv .nil
 | cons hk0 hu _ ih=>exact .cons hk0 hu ih
theorem EL.get (h:EL F l l') {i:Nat} {e:MapEntry} (hi:l[i]? = some e):∃ e',l'[i]? = some e':=by
 have:=h.length
 have hl:i<l.length:=by
  rcases Nat.lt_or_ge i l.length with g | g
  .exact g
  .simp[List.getElem?_eq_none g] at hi
 exact⟨l'[i],by simp[<- this,hl]⟩
theorem N24 {es:Array MapEntry} (h:w.heap[r]? = some (.map es c)) (o:Obj):(setObj r o).run P w = .ok () { w with heap:=w.heap.setIfInBounds r o }:=by
 simp[setObj,Sem.run,h]
theorem E49 (hr:HR F H nx w) {t:Tgt} {old:V4} {es:List MapEntry} {es':Array MapEntry} (hF:F r=some t) (hg:X0 H r=some old) (hro:old.isRom=false) (hb0:t.base=0) (hel:EL F es es'.toList):
  U5 F H nx w F (hs H r (some (.map es c))) nx { w with heap:=w.heap.setIfInBounds t.blk (.map es' c) }:=by
 have hlt:=(hr.hb.get hF hg).lt
 refine U5.update hr (hr.hb.lt hF) hg hro rfl hF rfl rfl rfl (by simp) (fun k hk => ?_) ⟨hb0,es',?_,hel⟩
 .simp[Array.getElem?_setIfInBounds_ne (Ne.symm hk)]
 .simp[hlt]
theorem Q58 {m key v:Operand} {M1 K1:X} {kt et:TypeId} {opp:Op} (ho:o.op=opp) (hop:opp = .mapUpdate t m key v\/opp = .insert t m key v) (hm:Q2 n m=some M1) (hk:Q2 n key=some K1) (hv:Q2 n v=some V1)
  (hu:P.underlying t=some (.map kt et)) (hku:P.underlying kt=some kd) (call:B5 β) (z:β) (k:Value->Y0->Nat->β):
  evE (.upd kd M1 K1 V1) call T H nx z k=z\/∃ u H' nx',evE (.upd kd M1 K1 V1) call T H nx z k=k u H' nx'/\EV P d n o T H nx u H' nx':=by
 have om:m ∈ o.op.operands/\key ∈ o.op.operands/\v ∈ o.op.operands:=by
  rcases hop with rfl | rfl<;>rw[ho]<;>simp[Op.operands]
 show N72 kd M1 K1 V1 call T H nx z k=z\/∃ u H' nx',N72 kd M1 K1 V1 call T H nx z k=k u H' nx'/\_
 unfold N72
 rw[N4,N4,N4]
 split
 .rename_i r hmv
  rw[W6]
  cases hg:X0 H r with
  | none=>exact .inl rfl
  | some blk=>
   dsimp only[Option.elim_some]
   unfold Z74
   split
   .rename_i es clock
    cases hkk:N15 kd (ev T K1) with
    | false=>exact .inl rfl
    | true=>
     dsimp only[cond_true]
     have prep:∀ (F:FM) (a:Act) (w:World),OR n o F T a->HR F H nx w->∃ tt es',F r=some tt/\a.eval m = .map (some tt.blk)/\tt.base=0/\w.heap[tt.blk]? = some (.map es' clock)/\EL F es es'.toList/\a.eval key=ev T K1/\VR F (ev T V1) (a.eval v):=by
      intro F a w ht hr
      have h1:=evX ht hm om.1
      rw[hmv] at h1
      generalize a.eval m=q at h1
      cases h1 with
      | @map _ tt hF=>
       obtain⟨hb0,es',hw,hel⟩:=hr.hb.get hF hg
       exact⟨tt,es',hF,rfl,hb0,hw,hel,B18 (evX ht hk om.2.1) (C30 hkk),evX ht hv om.2.2⟩
     split
     .rename_i i u hfi
      split
      .rename_i e hei
       rw[E3,Y8]
       refine .inr ⟨undef,_,nx,rfl,fun F a w K Q ht hr hkk' => ?_⟩
       obtain⟨tt,es',hF,he,hb0,hw,hel,hke,hvr⟩:=prep F a w ht hr
       rw[C14] at hei
       obtain⟨e',hei'⟩:=hel.get hei
       obtain⟨g1,g2,g3⟩:=hel.set (C30 hkk) hvr hei hei'
       obtain⟨u',hfi',_⟩:=(R27 (kd:=kd) (k:=ev T K1) hel 0).2.2 _ _ hfi
       obtain⟨_,e2,q1,q2⟩:=J39 hfi'
       have hq:e2=e':=by simp at q1;rw[<- Array.getElem?_toList] at q1;rw[hei'] at q1;exact (Option.some.inj q1).symm
       subst hq
       have hmod:(es'.modify i fun q=>{ q with key:=ev T K1,val:=a.eval v }).toList=es'.toList.set i ⟨ev T K1,a.eval v,e2.born⟩:=by
        apply List.ext_getElem?
        intro j
        simp only[Array.getElem?_toList,Array.getElem?_modify,List.getElem?_set]
        by_cases hij:i=j
        .subst hij
         have hi2:i<es'.size:=by
          rcases Nat.lt_or_ge i es'.size with g | g
          .exact g
          .simp[g] at hei'
         rw[Array.getElem?_toList] at hei'
         have hb:=(Array.getElem?_eq_some_iff.1 hei').2
         simp[hi2,hb]
        .simp[hij]
       have hst:=E49 (c:=clock) hr hF hg rfl hb0 (es:=E40 es i ⟨ev T K1,ev T V1,e.born⟩) (es':=es'.modify i fun q=>{ q with key:=ev T K1,val:=a.eval v }) (by rw[Z41,hmod];exact g1)
       refine R38 ?_ (hkk' undef F _ (VR.undef F) hst)
       have hsb:=D85 q2
       have hkey:(((es'[i]?).map (·.key)).getD (ev T K1))=e2.key:=by
        rw[Array.getElem?_toList] at hei';simp[hei']
       rcases hop with rfl | rfl<;>simp only[execOp,ho,Instr.mapUpdate,Sem.run_bind,run_underlying hu,Result.andThen_ok,he,B13 hw,hke,Y19 hku hkk _ 9999,Instr.findKey,run_underlying hku,hfi',Sem.run_pure,hkey,Instr.keyThatStays,hsb,if_true,N24 hw]
      .exact .inl rfl
     .rename_i hfi
      rw[E3,N2,Y8]
      refine .inr ⟨undef,_,nx,rfl,fun F a w K Q ht hr hkk' => ?_⟩
      obtain⟨tt,es',hF,he,hb0,hw,hel,hke,hvr⟩:=prep F a w ht hr
      have hfi':=(R27 (kd:=kd) (k:=ev T K1) hel 0).2.1 hfi
      have hst:=E49 (c:=clock+1) hr hF hg rfl hb0 (es:=es++[⟨ev T K1,ev T V1,clock⟩]) (es':=es'.push ⟨ev T K1,a.eval v,clock⟩) (by simpa using hel.snoc (C30 hkk) hvr)
      refine R38 ?_ (hkk' undef F _ (VR.undef F) hst)
      rcases hop with rfl | rfl<;>simp only[execOp,ho,Instr.mapUpdate,Sem.run_bind,run_underlying hu,Result.andThen_ok,he,B13 hw,hke,Y19 hku hkk _ 9999,Instr.findKey,run_underlying hku,hfi',Sem.run_pure,N24 hw]
     .exact .inl rfl
   .exact .inl rfl
 .exact .inl rfl
end
end Go.Clo

namespace Go.Clo
variable {P:Program} {ar:Array Value} {base:Option Addr} {c' m sLen:Nat} {i:TypeInfo} {new:List Value} {ud:TypeDesc} {w:World} {x':Value}
theorem Q46 (F:FM):∀ (l:List UInt8),VL F (l.map fun b=>Value.int .u8 b.toNat) (l.map fun b=>Value.int .u8 b.toNat)
 | [] => .nil
 | b :: l => .cons (.int _ _) (Q46 F l)
theorem D34 {β:Type} {H:Y0} {nx size:Nat} {x:Value} (z:β) (k:List Value->β):
  G8 H size m x z k=z\/∃ l,G8 H size m x z k=k l/\∀ (F:FM) (P:Program) (x':Value) (w:World),VR F x x'->HB F H nx w->∃ l',(∀ w2:World,w2.heap=w.heap->(Builtin.firstCells size m x').run P w2 = .ok l'.toArray w2)/\VL F l l':=by
 unfold G8
 split
 .rename_i a len cap
  unfold G24
  obtain⟨b,o,s⟩:=a
  cases s with
  | some q=>exact .inl rfl
  | none=>
   dsimp only
   rw[W6]
   cases hg:X0 H b with
   | none=>exact .inl rfl
   | some blk=>
    have main:∀ c,blk.row=some c->((match D9 (m*size) (c.drop o) with
      | some l=>R7 l k
      | none=>z)=z\/∃ l,(match D9 (m*size) (c.drop o) with
      | some l=>R7 l k
      | none=>z)=k l/\∀ (F:FM) (P:Program) (x':Value) (w:World),VR F (.slice (some ⟨b,o,none⟩) len cap) x'->HB F H nx w->∃ l',(∀ w2:World,w2.heap=w.heap->(Builtin.firstCells size m x').run P w2 = .ok l'.toArray w2)/\VL F l l'):=by
     intro c hrow
     split
     .rename_i l hl
      rw[E3]
      refine .inr ⟨l,rfl,fun F P x' w hx hb => ?_⟩
      obtain⟨_,t,c',hF,rfl,_⟩:=hx.slice_inv
      obtain⟨l',hrun,hvl,_⟩:=Q55 (P:=P) (hb.get hF hg) hrow hl
      exact⟨l',fun w2 hw2=>by simp[Builtin.firstCells,hrun w2 hw2],hvl⟩
     .exact .inl rfl
    cases blk with
    | map es c=>exact .inl rfl
    | rom c=>exact main c rfl
    | cells c sl=>exact main c rfl
 .refine .inr ⟨[],rfl,fun F P x' w hx _=>⟨[],fun w2 _ => ?_,.nil⟩⟩
  have:=hx.sliceN_inv;subst this
  simp[Builtin.firstCells]
 .rename_i s
  rw[D32]
  refine .inr ⟨_,rfl,fun F P x' w hx _=>⟨_,fun w2 _ => ?_,Q46 F _⟩⟩
  cases hx
  simp[Builtin.firstCells]
  apply Array.toList_inj.1
  simp[List.extract_eq_take_drop]
 .exact .inl rfl
theorem X24 {F:FM} {x:Value} (h:B54 x=some m) (hx:VR F x x') (w:World):(Builtin.lenOf x').run P w = .ok m w:=by
 unfold B54 at h
 split at h
 .cases h;cases hx<;>simp[Builtin.lenOf]
 .cases h;cases hx;simp[Builtin.lenOf]
 .cases h
theorem Z75 (need c:Nat) (h:c<need):Builtin.nextslicecap need c<=2*need+1000:=by
 unfold Builtin.nextslicecap
 split
 .omega
 .split
  .omega
  .have X19:∀ r q,q<=2*need+1000->(q<need->q+(q+768)/4<=2*need+1000)->Builtin.growBy need r q<=2*need+1000:=by
    intro r
    induction r with
    | zero=>intro q hq _;exact hq
    | succ r ih=>
     intro q hq hg
     simp only[Builtin.growBy]
     split
     .exact hq
     .exact ih _ (hg (by omega)) (fun h=>by omega)
   exact X19 4 c (by omega) (by omega)
theorem D67 (m:Nat) (w:World):(askRoom m).run P w = .ok () w:=by
 unfold askRoom
 split
 .rfl
 .rfl
theorem C55 (z:Array Value) (m:Nat):(Builtin.zeroCells z m).size=m*z.size:=by simp[Builtin.zeroCells]
section
variable {β:Type} {P:Program} {d n nx:Nat} {o:Oper} {T:U1 Value} {H:Y0}
theorem U27 {t u e:TypeId} {at_:Array TypeId} (h0:at_[0]? = some t) (h1:at_[1]? = some u) (hu:P.underlying t=some (.slice e)) (huu:P.underlying u=some ud) (hud:∀ k,ud ≠ .int k) (hi:P.info? e=some i) (ha0:ar[0]? = some (.slice base sLen c')) (ha1:ar[1]? = some x') (hlen:(Builtin.lenOf x').run P w = .ok m w)
  (hnew:(Builtin.firstCells i.size m x').run P w = .ok new.toArray w) (hfit:sLen+m<=c') (ty:TypeId):
  (Builtin.append_ at_ ty ar).run P w=match base with
   | none => .ok (.slice none (sLen+m) c') w
   | some a=>((storeCells (a.add (sLen*i.size)) new).run P w).andThen fun _ w' => .ok (.slice (some a) (sLen+m) c') w':=by
 cases base with
 | none=>
  cases ud<;>first | exact absurd rfl (hud _) | simp only[Builtin.append_,h0,h1,ha0,ha1,Sem.run_bind,run_underlying hu,run_underlying huu,Result.andThen_ok,D6 hi,Sem.run_pure,hlen,Bool.false_eq_true,if_false,hfit,Bool.not_false,if_true,hnew]
 | some a=>
  cases ud<;>first | exact absurd rfl (hud _) | simp only[Builtin.append_,h0,h1,ha0,ha1,Sem.run_bind,run_underlying hu,run_underlying huu,Result.andThen_ok,D6 hi,Sem.run_pure,hlen,Bool.false_eq_true,if_false,hfit,Bool.not_false,if_true,hnew]
theorem W55 {t u e:TypeId} {zv:Value} {at_:Array TypeId} (h0:at_[0]? = some t) (h1:at_[1]? = some u) (hu:P.underlying t=some (.slice e)) (huu:P.underlying u=some ud) (hud:∀ k,ud ≠ .int k) (hi:P.info? e=some i) (hiz:i.zero=some zv) (ha0:ar[0]? = some (.slice base sLen c')) (ha1:ar[1]? = some x') {w:World} (hlen:(Builtin.lenOf x').run P w = .ok m w)
  (hfit:c'<sLen+m) (hb1:(2*(sLen+m)+1000)*i.bytes<=281474976710656) (hb2:sLen+m<=1000000000) {old:List Value} (hold:∀ q,(Builtin.firstCells i.size sLen (.slice base sLen c')).run P { w with drawn:=q } = .ok old.toArray { w with drawn:=q })
  (hnew:∀ q,(Builtin.firstCells i.size m x').run P { w with drawn:=q } = .ok new.toArray { w with drawn:=q }) (ty:TypeId):
  ∃ newCap,(sLen+m<=newCap/\newCap<=9223372036854775807)/\(Builtin.append_ at_ ty ar).run P w =
   .ok (.slice (some ⟨w.heap.size,0,none⟩) (sLen+m) newCap) (({ w with drawn:=w.drawn+1 }:World).alloc (.cells (old.toArray++new.toArray++Builtin.zeroCells zv.cells (newCap-(sLen+m))) e (0,0))):=by
 refine⟨(sLen+m)+w.tape w.drawn (.appendCap (sLen+m) c' e)%(2^63-(sLen+m)),⟨Nat.le_add_right _ _,by
  have:=Nat.mod_lt (w.tape w.drawn (.appendCap (sLen+m) c' e)) (show 0<2^63-(sLen+m) by omega)
  omega⟩,?_⟩
 have n1:¬ (sLen+m<=c'):=by omega
 have n2:¬ (((sLen+m:Nat):Int) > IntKind.i64.max):=by
  have:IntKind.i64.max=9223372036854775807:=by decide
  rw[this];omega
 have n3:¬ (Builtin.nextslicecap (sLen+m) c'*i.bytes > 2^48):=by
  have h:=Nat.mul_le_mul_right i.bytes (Z75 (sLen+m) c' hfit)
  have e:2^48=281474976710656:=by decide
  rw[e];omega
 have hch:(choose (.appendCap (sLen+m) c' e)).run P w = .ok ((sLen+m)+w.tape w.drawn (.appendCap (sLen+m) c' e)%(2^63-(sLen+m))) { w with drawn:=w.drawn+1 }:=by
  simp[choose,Sem.run,Question.forced,Question.cut]
 have hzv:∀ w,(zeroValue e).run P w = .ok zv w:=fun w=>J30 hi hiz w
 cases ud<;>first | exact absurd rfl (hud _) | (
  simp only[Builtin.append_,h0,h1,ha0,ha1,Sem.run_bind,run_underlying hu,run_underlying huu,Result.andThen_ok,D6 hi,Sem.run_pure,hlen,Bool.false_eq_true,if_false,n1,B14 hi,n2,false_and,n3,hch,D67,hold,Bool.not_false,if_true,hnew,hzv,R19])
theorem E36 {c:Call} {s x:Operand} {t u:TypeId} {tl:List TypeId} {xl:List Operand} (ho:o.op = .call c) (hc:c.callee = .builtin .append) (ht':c.argTypes.toList=t :: u :: tl) (ha:c.args.toList=s :: x :: xl) (a:Act) (w:World):
  ∃ at_:Array TypeId,∃ ar:Array Value,at_[0]? = some t/\at_[1]? = some u/\ar[0]? = some (a.eval s)/\ar[1]? = some (a.eval x) /\
   (execOp a.eval o).run P w=((Builtin.append_ at_ o.type ar).run P w).andThen fun v w => .ok (.value v) w:=by
 refine⟨c.argTypes,c.args.map a.eval,?_,?_,?_,?_,?_⟩
 .rw[<- Array.getElem?_toList,ht'];rfl
 .rw[<- Array.getElem?_toList,ht'];rfl
 .rw[Array.getElem?_map,<- Array.getElem?_toList,ha];rfl
 .rw[Array.getElem?_map,<- Array.getElem?_toList,ha];rfl
 .simp[execOp,ho,resolve,hc,invoke,builtin]
end
end Go.Clo

namespace Go.Clo
variable {F:FM} {H:Y0} {new new' old:List Value} {w:World}
theorem N80 {nx:Nat} (hr:HR F H nx w) {old':List Value} (hold:VL F old old') (hnew:VL F new new') {need size newCap:Nat} {zv:Value} {e:TypeId} (q:Nat)
  (hlen:(old++new).length=need*size) (hsz:0<size) (hz:zv.cells.size=size) (hcap:need<=newCap) (hbd:newCap<=9223372036854775807):
  ∃ F',U5 F H nx w F' (hs H nx (some (.cells (old++new) size))) (nx+1) (({ w with drawn:=q }:World).alloc (.cells (old'.toArray++new'.toArray++Builtin.zeroCells zv.cells (newCap-need)) e (0,0))) /\
   VR F' (.slice (some ⟨nx,0,none⟩) need need) (.slice (some ⟨w.heap.size,0,none⟩) need newCap):=by
 have hfresh:F nx=none:=hr.fresh nx (Nat.le_refl _)
 have hsub:(newCap-need)*size=newCap*size-need*size:=Nat.sub_mul _ _ _
 have hmul:need*size<=newCap*size:=Nat.mul_le_mul_right _ hcap
 refine⟨upd F nx ⟨w.heap.size,0,need*size,size,newCap*size⟩,?_,?_⟩
 .refine U5.name hr rfl rfl rfl rfl (by simp) (fun k hk=>N21 _ _ k hk) ?_ (Nat.le_refl _)
  have hl:=(hold.append hnew).length
  refine⟨_,e,G26 _ _,?_,hlen.symm,rfl,by rw[hlen];simp;omega,?_⟩
  .simp only[Array.size_append,C55,hz]
   simp at hl hlen
   simp
   omega
  .have hd:((old'.toArray++new'.toArray++Builtin.zeroCells zv.cells (newCap-need)).toList.drop 0).take (old++new).length=old'++new':=by
    rw[List.drop_zero,Array.toList_append,Array.toList_append]
    simp only[]
    rw[hl]
    exact List.take_left
   show VL _ (old++new) ((List.drop 0 _).take _)
   rw[hd]
   exact (hold.append hnew).mono (N30 hfresh _)
 .have:=VR.slice (F:=upd F nx ⟨w.heap.size,0,need*size,size,newCap*size⟩) (b:=nx) (o:=0) (n:=need) (c:=need) (c':=newCap) (R10 F nx _) (.inr ⟨hsz,hcap,by simp,by simp,hbd⟩)
  exact this
theorem X66 {nx:Nat} (P:Program) (hr:HR F H nx w) {b o':Nat} {t:Tgt} {c:List Value} {size:Nat} (hg:X0 H b=some (.cells c size)) (hF:F b=some t)
  {sLen m cap':Nat} {new':List Value} (hold:D9 (sLen*size) (c.drop o')=some old) (hnew:VL F new new') (hone:∀ v ∈ new',v.oneCell'=true) (hlen:(old++new).length=(sLen+m)*size) (hsz:0<size)
  (hfit:sLen+m<=cap') (hroom:t.base+o'+cap'*size<=t.rsz) (hbd:cap'<=9223372036854775807):
  ∃ F' w',(storeCells ⟨t.blk,t.base+o'+sLen*size,none⟩ new').run P w = .ok () w'/\U5 F H nx w F' (hs (hs H b none) nx (some (.cells (old++new) size))) (nx+1) w' /\
   VR F' (.slice (some ⟨nx,0,none⟩) (sLen+m) (sLen+m)) (.slice (some ⟨t.blk,t.base+o',none⟩) (sLen+m) cap'):=by
 have hfresh:F nx=none:=hr.fresh nx (Nat.le_refl _)
 obtain⟨eo,el⟩:=Y49 hold
 obtain⟨c',e,h1,h2,h3,h4,h5,h6⟩:=hr.hb.get hF hg
 have hnl:=hnew.length
 have hml:new.length=m*size:=by simp[el] at hlen;rw[Nat.add_mul] at hlen;omega
 have hmul:(sLen+m)*size<=cap'*size:=Nat.mul_le_mul_right _ hfit
 have hadd:(sLen+m)*size=sLen*size+m*size:=Nat.add_mul _ _ _
 have hcl:c'.toList.length=c'.size:=by simp
 have hrun:=run_storeCells_at P t.blk (t.base+o'+sLen*size) e new' 0 c' w h1 (by simp only[Nat.add_zero];omega) hone
 simp only[Nat.add_zero] at hrun
 refine⟨upd F nx ⟨t.blk,t.base+o',(sLen+m)*size,size,t.rsz⟩,_,hrun,?_,?_⟩
 .refine U5.rename hr hg rfl rfl hF rfl rfl rfl rfl (by simp) (fun k hk _=>setRow_other w _ k _ hk) ?_
  refine⟨_,e,setRow_heap w t.blk c' _ e (0,0) h1,?_,hlen.symm,rfl,?_,?_⟩
  .simp;omega
  .rw[hlen];dsimp only;omega
  .rw[hlen]
   have hs:=Y59 c'.toList new' (t.base+o') (sLen*size) ((sLen+m)*size) (by omega) (by omega)
   show VL _ _ ((List.drop (t.base+o') (_:Array Value).toList).take _)
   rw[List.toList_toArray,hs]
   have hd0:((c'.toList.drop (t.base+o')).take ((sLen+m)*size)).drop (sLen*size+new'.length)=[]:=by
    apply List.drop_eq_nil_of_le;simp;omega
   rw[hd0,List.append_nil]
   have hvo:VL F old ((((c'.toList.drop t.base).take c.length).drop o').take (sLen*size)):=by rw[eo];exact (h6.drop o').take _
   have hocl:sLen*size<=c.length-o':=by
    have hh:=el
    rw[eo] at hh
    simp at hh
    omega
   have heq:(((c'.toList.drop t.base).take c.length).drop o').take (sLen*size)=((c'.toList.drop (t.base+o')).take ((sLen+m)*size)).take (sLen*size):=by
    apply List.ext_getElem?
    intro j
    simp only[List.getElem?_take,List.getElem?_drop]
    by_cases hj:j<sLen*size
    .have a1:o'+j<c.length:=by omega
     have a2:j<(sLen+m)*size:=by omega
     simp[hj,a1,a2,Nat.add_assoc]
    .simp[hj]
   rw[<- heq]
   exact (hvo.append hnew).mono (N30 hfresh _)
 .have:=VR.slice (F:=upd F nx ⟨t.blk,t.base+o',(sLen+m)*size,size,t.rsz⟩) (b:=nx) (o:=0) (n:=sLen+m) (c:=sLen+m) (c':=cap') (R10 F nx _) (.inr ⟨hsz,hfit,by simp,by simpa using hroom,hbd⟩)
  exact this
end Go.Clo

namespace Go.Clo
theorem U68 {H:Y0} {size m b o' len cap:Nat} {s:Option Nat} {z:Option (List Value)} {l:List Value} (h:G8 H size m (.slice (some ⟨b,o',s⟩) len cap) none some=some l):
  s=none/\∃ blk c,X0 H b=some blk/\blk.row=some c/\D9 (m*size) (c.drop o')=some l:=by
 unfold G8 G24 at h
 cases s with
 | some q=>simp at h
 | none=>
  dsimp only at h
  rw[W6] at h
  cases hg:X0 H b with
  | none=>simp[hg] at h
  | some blk=>
   rw[hg] at h
   cases blk with
   | map es c=>simp at h
   | cells c sl=>
    dsimp only[Option.elim_some] at h
    split at h
    .rename_i l' hl
     rw[E3] at h
     cases h
     exact⟨rfl,_,c,rfl,rfl,hl⟩
    .cases h
   | rom c=>
    dsimp only[Option.elim_some] at h
    split at h
    .rename_i l' hl
     rw[E3] at h
     cases h
     exact⟨rfl,_,c,rfl,rfl,hl⟩
    .cases h
theorem R39 {β:Type} (H:Y0) (size m:Nat) (x:Value) (z:β) (k:List Value->β):G8 H size m x z k=(G8 H size m x none some).elim z k:=by
 unfold G8
 split
 .unfold G24
  split
  .rw[W6,W6]
   cases X0 H _ with
   | none=>rfl
   | some blk=>
    cases blk with
    | map es c=>rfl
    | cells c sl=>
     dsimp only[Option.elim_some]
     split
     .rw[E3,E3];rfl
     .rfl
    | rom c=>
     dsimp only[Option.elim_some]
     split
     .rw[E3,E3];rfl
     .rfl
  .rfl
 .rfl
 .rw[D32,D32];rfl
 .rfl
section
variable {β:Type} {P:Program} {d n nx:Nat} {o:Oper} {T:U1 Value} {H:Y0}
theorem W77 {c:Call} {s x:Operand} {t u e:TypeId} {ud:TypeDesc} {tl:List TypeId} {xl:List Operand} {S1 X1:X} {i:TypeInfo} {z0:List Value} (ho:o.op = .call c) (hc:c.callee = .builtin .append)
  (ht':c.argTypes.toList=t :: u :: tl) (ha:c.args.toList=s :: x :: xl) (hs:Q2 n s=some S1) (hx:Q2 n x=some X1) (hu:P.underlying t=some (.slice e)) (huu:P.underlying u=some ud) (hud:∀ k,ud ≠ .int k)
  (hz0:J18 P e=some z0) (hi:P.info? e=some i) (hsz:0<i.size) (call:B5 β) (z:β) (k:Value->Y0->Nat->β):
  evE (.app S1 X1 i.size i.bytes) call T H nx z k=z\/∃ v H' nx',evE (.app S1 X1 i.size i.bytes) call T H nx z k=k v H' nx'/\EV P d n o T H nx v H' nx':=by
 have hms:s ∈ o.op.operands:=by rw[ho];simp only[Op.operands,Call.operands,hc];exact Array.mem_def.2 (by simp[ha])
 have hmx:x ∈ o.op.operands:=by rw[ho];simp only[Op.operands,Call.operands,hc];exact Array.mem_def.2 (by simp[ha])
 obtain⟨it,zv,hit,hiz,hzc,hfl,hone0,hzl⟩:=G22 hz0
 rw[hi] at hit;cases hit
 have hzs:zv.cells.size=i.size:=by rw[hzc] at hzl;simpa using hzl
 show (E7 T S1 fun vs=>E7 T X1 fun vx=>X27 H nx i.size i.bytes vs vx z k)=z\/∃ v H' nx',(E7 T S1 fun vs=>E7 T X1 fun vx=>X27 H nx i.size i.bytes vs vx z k)=k v H' nx'/\_
 rw[N4,N4]
 unfold X27
 split
 .rename_i base sLen sCap m hsv hlx
  rw[N2]
  cases hb:(Nat.ble ((2*(sLen+m)+1000)*i.bytes) 281474976710656&&Nat.ble (sLen+m) 1000000000) with
  | false=>exact .inl rfl
  | true=>
   dsimp only[cond_true]
   simp only[Bool.and_eq_true,Nat.ble_eq] at hb
   obtain⟨hb1,hb2⟩:=hb
   have hnewp:=D34 (H:=H) (nx:=nx) (size:=i.size) (m:=m) (x:=ev T X1) (none:Option (List Value)) some
   rw[R39]
   cases hnw:G8 H i.size m (ev T X1) none some with
   | none=>exact .inl rfl
   | some new=>
    have hnewr:∀ (F:FM) (P:Program) (x':Value) (w:World),VR F (ev T X1) x'->HB F H nx w->∃ l',(∀ w2:World,w2.heap=w.heap->(Builtin.firstCells i.size m x').run P w2 = .ok l'.toArray w2)/\VL F new l':=by
     rcases hnewp with h | ⟨l,h,hp⟩
     .rw[hnw] at h;cases h
     .rw[hnw] at h;cases h;exact hp
    dsimp only[Option.elim_some]
    cases hon:Z0 new with
    | false=>exact .inl rfl
    | true=>
     dsimp only[cond_true]
     cases hfit:Nat.ble (sLen+m) sCap with
     | true=>
      dsimp only[cond_true]
      have hfit:sLen+m<=sCap:=Nat.le_of_ble_eq_true hfit
      unfold N60
      split
      .cases hm0:Nat.beq m 0 with
       | false=>exact .inl rfl
       | true=>
        refine .inr ⟨_,_,_,rfl,fun F a w K Q ht hr hk => ?_⟩
        have h1:=evX ht hs hms
        rw[hsv] at h1
        have he:=h1.sliceN_inv
        obtain⟨new',hnr,hnv⟩:=hnewr F P (a.eval x) w (evX ht hx hmx) hr.hb
        obtain⟨at_,ar,q0,q1,q2,q3,hex⟩:=E36 (P:=P) ho hc ht' ha a w
        rw[he] at q2
        have hrun:=U27 q0 q1 hu huu hud hi q2 q3 (X24 hlx (evX ht hx hmx) w) (hnr w rfl) hfit o.type
        refine N6 (v := .slice none (sLen+m) sCap) (w':=w) ?_ (hk _ F w (.sliceN _ _) (U5.refl hr))
        rw[hex,hrun];rfl
      .rename_i b o'
       rw[N2]
       rcases J32 (F:=fun _=>none) (H:=H) (nx:=nx) (b:=b) (o':=o'+sLen*i.size) (vs:=new) none z (fun H'=>k (.slice (some ⟨b,o',none⟩) (sLen+m) sCap) H' nx) with h | ⟨H',h,hp⟩
       .exact .inl h
       .refine .inr ⟨_,H',nx,h,fun F a w K Q ht hr hk => ?_⟩
        have h1:=evX ht hs hms
        rw[hsv] at h1
        obtain⟨_,tt,c',hF,he,hcc⟩:=h1.slice_inv
        have hcc':sCap<=c':=by rcases hcc with h | ⟨_,h,_⟩<;>omega
        obtain⟨new',hnr,hnv⟩:=hnewr F P (a.eval x) w (evX ht hx hmx) hr.hb
        obtain⟨at_,ar,q0,q1,q2,q3,hex⟩:=E36 (P:=P) ho hc ht' ha a w
        rw[he] at q2
        have hrun:=U27 q0 q1 hu huu hud hi q2 q3 (X24 hlx (evX ht hx hmx) w) (hnr w rfl) (by omega) o.type
        obtain⟨w',hst,hstp⟩:=hp F P w tt new' hr hF hnv (Z23 hnv hon)
        refine N6 (v := .slice (some ⟨tt.blk,tt.base+o',none⟩) (sLen+m) c') (w':=w') ?_ (hk _ F w' (.slice hF hcc) hstp)
        rw[hex,hrun]
        dsimp only
        rw[M18,Nat.add_assoc,hst]
        rfl
      .exact .inl rfl
     | false=>
      dsimp only[cond_false]
      have hnofit:¬ sLen+m<=sCap:=fun h=>by rw[Nat.ble_eq_true_of_le h] at hfit;cases hfit
      rw[R39]
      have holdp:=D34 (H:=H) (nx:=nx) (size:=i.size) (m:=sLen) (x:=ev T S1) (none:Option (List Value)) some
      cases hol:G8 H i.size sLen (ev T S1) none some with
      | none=>exact .inl rfl
      | some old=>
       have holdr:∀ (F:FM) (P:Program) (x':Value) (w:World),VR F (ev T S1) x'->HB F H nx w->∃ l',(∀ w2:World,w2.heap=w.heap->(Builtin.firstCells i.size sLen x').run P w2 = .ok l'.toArray w2)/\VL F old l':=by
        rcases holdp with h | ⟨l,h,hp⟩
        .rw[hol] at h;cases h
        .rw[hol] at h;cases h;exact hp
       dsimp only[Option.elim_some]
       rw[E3]
       cases hcl:Nat.beq (old++new).length ((sLen+m)*i.size) with
       | false=>exact .inl rfl
       | true=>
        dsimp only[cond_true]
        have hcl:=Nat.eq_of_beq_eq_true hcl
        have X19:∀ (F:FM) (a:Act) (w:World) (K:Act->World->Prop) (Q:Exit->Act->World->Prop) (H2:Y0),OR n o F T a->HR F H nx w->U5 F H nx w F H2 nx w ->
          (∀ base' c',a.eval s = .slice base' sLen c'->∃ c'',a.eval s = .slice base' sLen c''/\c''<sLen+m) ->
          (∀ v' F' w',VR F' (.slice (some ⟨nx,0,none⟩) (sLen+m) (sLen+m)) v'->U5 F H nx w F' (Go.Clo.hs H2 nx (some (.cells (old++new) i.size))) (nx+1) w'->K (a.put o.dst v') w')->o.wp P a w K Q:=by
         intro F a w K Q H2 ht hr hst2 hsm hk
         have h0:=evX ht hs hms
         have h1:=h0
         rw[hsv] at h1
         have hsl:∃ base' c',a.eval s = .slice base' sLen c':=by
          generalize a.eval s=qq at h1
          cases h1<;>exact⟨_,_,rfl⟩
         obtain⟨base',c0,he0⟩:=hsl
         obtain⟨c',he,hlt⟩:=hsm base' c0 he0
         obtain⟨old',hor,hov⟩:=holdr F P (a.eval s) w h0 hr.hb
         obtain⟨new',hnr,hnv⟩:=hnewr F P (a.eval x) w (evX ht hx hmx) hr.hb
         have ho2:∀ q,(Builtin.firstCells i.size sLen (.slice base' sLen c')).run P { w with drawn:=q } = .ok old'.toArray { w with drawn:=q }:=by
          intro q
          rw[<- he]
          exact hor _ rfl
         have hn2:∀ q,(Builtin.firstCells i.size m (a.eval x)).run P { w with drawn:=q } = .ok new'.toArray { w with drawn:=q }:=fun q=>hnr _ rfl
         obtain⟨at_,ar,q0,q1,q2,q3,hex⟩:=E36 (P:=P) ho hc ht' ha a w
         rw[he] at q2
         obtain⟨newCap,⟨hcap,hbd⟩,hrun⟩:=W55 q0 q1 hu huu hud hi hiz q2 q3 (X24 hlx (evX ht hx hmx) w) hlt hb1 hb2 ho2 hn2 o.type
         obtain⟨F',hstp,hvr⟩:=N80 (e:=e) (zv:=zv) hst2.hr hov hnv (w.drawn+1) hcl hsz hzs hcap hbd
         exact N6 (by rw[hex,hrun];rfl) (hk _ F' _ hvr (hst2.trans hstp))
        unfold B26
        split
        .unfold C17
         rw[N2,N2,Y8]
         refine .inr ⟨_,_,_,rfl,fun F a w K Q ht hr hk=>X19 F a w K Q H ht hr (U5.refl hr) ?_ hk⟩
         intro base' c' he
         have h1:=evX ht hs hms
         rw[hsv] at h1
         have he2:=h1.sliceN_inv
         rw[he2] at he;cases he
         exact⟨_,he2,by omega⟩
        .rename_i b o'
         rw[W6]
         cases hg:X0 H b with
         | none=>exact .inl rfl
         | some blk=>
          dsimp only[Option.elim_some]
          split
          .rename_i hls
           unfold C17
           rw[N2,N2,Y8]
           refine .inr ⟨_,_,_,rfl,fun F a w K Q ht hr hk=>X19 F a w K Q H ht hr (U5.refl hr) ?_ hk⟩
           intro base' c' he
           have h1:=evX ht hs hms
           rw[hsv] at h1
           obtain⟨_,tt,c2,hF,he2,hcc⟩:=h1.slice_inv
           rw[he2] at he;cases he
           .obtain⟨_,hl2⟩:=X32 (hr.hb.get hF hg) hls hcc
            have:c'=sCap:=by
             rcases Nat.decEq c' sCap with h | h
             .have:=(hl2 h).1;cases this
             .exact h
            exact⟨_,he2,by omega⟩
          .rename_i hls
           rw[Y8]
           unfold C17
           rw[N2,N2,Y8]
           refine .inr ⟨_,_,_,rfl,fun F a w K Q ht hr hk => ?_⟩
           have h1:=evX ht hs hms
           rw[hsv] at h1
           obtain⟨_,tt,c2,hF,he2,hcc⟩:=h1.slice_inv
           by_cases hc2:c2<sLen+m
           .refine X19 F a w K Q _ ht hr (U5.kill hr (hr.hb.lt hF)) ?_ hk
            intro base' c' he
            rw[he2] at he;cases he
            exact⟨_,he2,hc2⟩
           .cases blk with
            | map es q=>simp[C10] at hls
            | rom cc=>
             obtain⟨_,hl2⟩:=X32 (hr.hb.get hF hg) hls hcc
             simp[C10] at hls
            | cells cc sl=>
             obtain⟨_,hl2⟩:=X32 (hr.hb.get hF hg) hls hcc
             obtain⟨_,g2,g3,g4,g5,g6⟩:=hl2 (by omega)
             have hsl:sl=i.size:=by
              obtain⟨_,_,_,_,_,h4,_⟩:=hr.hb.get hF hg
              omega
             subst hsl
             rw[hsv] at hol
             obtain⟨_,blk2,cc2,hg2,hrow2,htk⟩:=U68 (z:=none) hol
             rw[hg] at hg2;cases hg2;cases hrow2
             obtain⟨new',hnr,hnv⟩:=hnewr F P (a.eval x) w (evX ht hx hmx) hr.hb
             obtain⟨F',w',hst,hstp,hvr⟩:=X66 P hr hg hF htk hnv (Z23 hnv hon) hcl hsz (by omega) g5 g6
             obtain⟨at_,ar,q0,q1,q2,q3,hex⟩:=E36 (P:=P) ho hc ht' ha a w
             rw[he2] at q2
             have hrun:=U27 q0 q1 hu huu hud hi q2 q3 (X24 hlx (evX ht hx hmx) w) (hnr w rfl) (by omega) o.type
             refine N6 (v := .slice (some ⟨tt.blk,tt.base+o',none⟩) (sLen+m) c2) (w':=w') ?_ (hk _ F' w' hvr hstp)
             rw[hex,hrun]
             dsimp only
             rw[M18,hst]
             rfl
          .exact .inl rfl
        .exact .inl rfl
 .exact .inl rfl
end
end Go.Clo
