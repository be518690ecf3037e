/-
  The closed executor: steps of the heap.
  The closed executor: the operations with an effect.
  The closed executor: append and copy;the operations with an effect,joined.
  The closed executor: append,copy,and all operations with an effect.
-/
import Derived.Test.YtoiioigihocgbaaGreatDoorN6
import Derived.Laws.StructEq
set_option linter.all false
namespace Go.Clo
variable {F:FM} {H:Y0} {b nx q:Nat} {old:C1} {t:J7} {w w':World}
def upd(F:FM)(q:Nat)(t:J7):FM:=fun i=>if i=q then some t else F i
theorem M19(h:F q=none)(t:J7):F.le (upd F q t):=by
 intro i u hi;unfold upd
 by_cases e:i=q
 .subst e;rw[h] at hi;cases hi
 .simp[e,hi]
theorem Y6(F:FM)(q:Nat)(t:J7):upd F q t q=some t:=by simp[upd]
theorem M5(F:FM){i:Nat}(t:J7)(h:i≠q):upd F q t i=F i:=by simp[upd,h]
theorem N2.update(hr:HR F H nx w){new:C1}(hb:b<nx)(hg:J0 H b=some old)(V:old.isRom=false)(a1:new.isRom=false)(hF:F b=some t)
  (h1:w'.os=w.os)(h2:w'.tape=w.tape)(h3:w'.output=w.output)(h4:w'.heap.size=w.heap.size)(h5:∀ k,k≠t.blk->w'.heap[k]? = w.heap[k]?)(hn:BR F t new w'):
  N2 F H nx w F (hs H b (some new)) nx w':=by
 have O:∀ i,J0 (hs H b (some new)) i=if i=b then some new else J0 H i:=fun i=>N7 H b i _
 have conv:∀ i bi,J0 (hs H b (some new)) i=some bi->∃ J,J0 H i=some J/\J.isRom=bi.isRom:=by
  intro i bi E;rw[O i] at E
  by_cases e:i=b
  .subst e;rw[if_pos rfl] at E;cases E;exact⟨old,hg,by rw[V,a1]⟩
  .rw[if_neg e] at E;exact⟨bi,E,rfl⟩
 refine⟨Nat.le_refl _,fun _ _=>rfl,h1,h2,h3,by omega,?_,?_,?_,?_,?_⟩
 .intro k hk Z
  refine h5 k (fun e=>Z ⟨b,old,t,hb,hg,V,hF,e.symm⟩)
 .rintro k ⟨i,kb,ti,hi,E,W,Q,rfl⟩
  obtain⟨J,g1,g2⟩:=conv i kb E;exact .inl ⟨i,J,ti,hi,g1,g2.trans W,Q,rfl⟩
 .intro i hi U
  rw[O i]
  by_cases e:i=b
  .subst e;rw[hg] at U;cases U
  .rw[if_neg e];exact U
 .intro i bi E a2
  rw[O i] at E
  by_cases e:i=b
  .subst e;rw[if_pos rfl] at E;cases E;rw[a1] at a2;cases a2
  .rw[if_neg e] at E;exact⟨hr.low E,E⟩
 .refine⟨?_,?_,hr.fresh,fun i hi=>by rw[O,if_neg (by omega)];exact hr.top i hi,hr.gl.step (fun k hk Z=>h5 k (fun e=>Z ⟨b,old,t,hb,hg,V,hF,e.symm⟩)) (by
   rintro k ⟨i,kb,ti,hi,E,W,Q,rfl⟩;obtain⟨J,g1,g2⟩:=conv i kb E;exact .inl ⟨i,J,ti,hi,g1,g2.trans W,Q,rfl⟩)⟩
  .intro i kb hi E
   rw[O i] at E
   by_cases e:i=b
   .subst e;rw[if_pos rfl] at E;cases E;exact⟨t,hF,hn⟩
   .rw[if_neg e] at E
    obtain⟨ti,Q,a4⟩:=hr.blk i kb hi E;refine⟨ti,Q,a4.mono (fun _ _ h=>h) (h5 _ (fun e2 => ?_))⟩;rcases hr.inj i b kb old ti t hi hb E hg Q hF e2 with h | h
    .exact e h
    .rw[V] at h;cases h.2
  .intro i j bi bj ti tj hi hj E a6 Q a7 e
   obtain⟨J,a3,ri⟩:=conv i bi E;obtain⟨a5,a0,rj⟩:=conv j bj a6;rw[<- ri,<- rj];exact hr.inj i j J a5 ti tj hi hj a3 a0 Q a7 e
theorem N2.kill(hr:HR F H nx w)(hb:b<nx):N2 F H nx w F (hs H b none) nx w:=by
 have O:∀ i,J0 (hs H b none) i=if i=b then none else J0 H i:=fun i=>N7 H b i _
 have back:∀ i bi,J0 (hs H b none) i=some bi->J0 H i=some bi:=by
  intro i bi E;rw[O i] at E
  by_cases e:i=b
  .simp[e] at E
  .rwa [if_neg e] at E
 refine⟨Nat.le_refl _,fun _ _=>rfl,rfl,rfl,rfl,Nat.le_refl _,fun _ _ _=>rfl,?_,?_,fun i bi E _=>⟨hr.low (back i bi E),back i bi E⟩,?_⟩
 .rintro k ⟨i,kb,ti,hi,E,Q,J,rfl⟩
  exact .inl ⟨i,kb,ti,hi,back i kb E,Q,J,rfl⟩
 .intro i hi U
  rw[O i]
  by_cases e:i=b<;>simp[e,U]
 .refine⟨fun i kb hi E=>hr.blk i kb hi (back i kb E),?_,hr.fresh,fun i hi=>by rw[O,if_neg (by omega)];exact hr.top i hi,hr.gl.step (fun _ _ _=>rfl) (by
   rintro k ⟨i,kb,ti,hi,E,Q,J,rfl⟩;exact .inl ⟨i,kb,ti,hi,back i kb E,Q,J,rfl⟩)⟩
  intro i j bi bj ti tj hi hj E V J W e;exact hr.inj i j bi bj ti tj hi hj (back i bi E) (back j bj V) J W e
theorem HR.name(hr:HR F H nx w){new:C1}(a6:new.isRom=false)
  (h5:∀ k,k≠t.blk->k<w.heap.size->w'.heap[k]? = w.heap[k]?)(a0:¬ Y53 F H nx t.blk)(hn:BR (upd F nx t) t new w')(a3:∀ x ∈ Q42,x.1≠t.blk):
  HR (upd F nx t) (hs H nx (some new)) (nx+1) w'/\(∀ i,i<nx->J0 H i=none->J0 (hs H nx (some new)) i=none) /\
   (∀ k,Own (upd F nx t) (hs H nx (some new)) (nx+1) k->Own F H nx k\/k=t.blk) /\
   (∀ i b,J0 (hs H nx (some new)) i=some b->b.isRom=true->i<nx/\J0 H i=some b):=by
 have W:F nx=none:=hr.fresh nx (Nat.le_refl _);have a7:=M19 W t;have Q:∀ i,J0 (hs H nx (some new)) i=if i=nx then some new else J0 H i:=fun i=>N7 H nx i _
 have J:∀ i,i<nx+1->i≠nx->i<nx:=fun i h e=>by omega
 have Z:∀ k,Own (upd F nx t) (hs H nx (some new)) (nx+1) k->Own F H nx k\/k=t.blk:=by
  rintro k ⟨i,kb,ti,hi,E,a5,O,rfl⟩;rw[Q i] at E
  by_cases e:i=nx
  .subst e;rw[Y6] at O;cases O;exact .inr rfl
  .rw[if_neg e] at E;rw[M5 F t e] at O
   exact .inl ⟨i,kb,ti,J i hi e,E,a5,O,rfl⟩
 refine⟨⟨?_,?_,?_,fun i hi=>by rw[Q,if_neg (by omega)];exact hr.top i (by omega),⟨hr.gl.1.step fun x hx=>h5 _ (a3 x hx) (hr.gl.1 x hx).1,fun x hx ho=>(Z _ ho).elim (hr.gl.2 x hx) (a3 x hx)⟩⟩,?_,Z,?_⟩
 .intro i kb hi E
  rw[Q i] at E
  by_cases e:i=nx
  .subst e;rw[if_pos rfl] at E;cases E;exact⟨t,Y6 _ _ _,hn⟩
  .rw[if_neg e] at E
   obtain⟨ti,O,a2⟩:=hr.blk i kb (J i hi e) E;refine⟨ti,by rw[M5 F t e];exact O,a2.mono a7 (h5 _ (fun e2=>a0 ⟨i,kb,ti,J i hi e,E,O,e2⟩) a2.lt)⟩
 .intro i j bi bj ti tj hi hj E V O U e
  rw[Q i] at E;rw[Q j] at V
  by_cases ei:i=nx<;>by_cases ej:j=nx
  .exact .inl (by rw[ei,ej])
  .exfalso
   subst ei;rw[Y6] at O;cases O;rw[if_neg ej] at V;rw[M5 F t ej] at U;exact a0 ⟨j,bj,tj,J j hj ej,V,U,e.symm⟩
  .exfalso
   subst ej;rw[Y6] at U;cases U;rw[if_neg ei] at E;rw[M5 F t ei] at O;exact a0 ⟨i,bi,ti,J i hi ei,E,O,e⟩
  .rw[if_neg ei] at E;rw[if_neg ej] at V;rw[M5 F t ei] at O;rw[M5 F t ej] at U
   exact hr.inj i j bi bj ti tj (J i hi ei) (J j hj ej) E V O U e
 .intro i hi
  rw[M5 F t (by omega)];exact hr.fresh i (by omega)
 .intro i hi a1
  rw[Q i,if_neg (by omega)];exact a1
 .intro i bi E a4
  rw[Q i] at E
  by_cases e:i=nx
  .subst e;rw[if_pos rfl] at E;cases E;rw[a6] at a4;cases a4
  .rw[if_neg e] at E;exact⟨hr.low E,E⟩
theorem N2.name{F:FM}{H:Y0}{nx:Nat}{w w':World}(hr:HR F H nx w){new:C1}(Q:new.isRom=false){t:J7}
  (h1:w'.os=w.os)(h2:w'.tape=w.tape)(h3:w'.output=w.output)(h4:w.heap.size<=w'.heap.size)(h5:∀ k,k<w.heap.size->w'.heap[k]? = w.heap[k]?)
  (hn:BR (upd F nx t) t new w')(U:w.heap.size<=t.blk):
  N2 F H nx w (upd F nx t) (hs H nx (some new)) (nx+1) w':=by
 have O:¬ Y53 F H nx t.blk:=by
  rintro⟨i,kb,u,hi,hg,hF,e⟩;obtain⟨u',E,J⟩:=hr.blk i kb hi hg;rw[hF] at E;cases E;have:=J.lt;omega
 obtain⟨g1,g2,g3,g4⟩:=hr.name Q (fun k _ hk=>h5 k hk) O hn (fun x hx e=>by have:=(hr.gl.1 x hx).1;omega);exact⟨by omega,fun i hi=>M5 F t (by omega),h1,h2,h3,h4,fun k hk _=>h5 k hk,fun k hk=>(g3 k hk).imp id (fun e=>by omega),g2,g4,g1⟩
theorem N2.rename(hr:HR F H nx w){new:C1}{t':J7}(hg:J0 H b=some old)(J:old.isRom=false)(W:new.isRom=false)(hF:F b=some t)(ht:t'.blk=t.blk)
  (h1:w'.os=w.os)(h2:w'.tape=w.tape)(h3:w'.output=w.output)(h4:w.heap.size<=w'.heap.size)(h5:∀ k,k≠t.blk->k<w.heap.size->w'.heap[k]? = w.heap[k]?)
  (hn:BR (upd F nx t') t' new w'):
  N2 F H nx w (upd F nx t') (hs (hs H b none) nx (some new)) (nx+1) w':=by
 have hb:b<nx:=hr.hb.lt hF;have hk:=N2.kill hr hb;have O:¬ Y53 F (hs H b none) nx t'.blk:=by
  rintro⟨i,kb,u,hi,E,Z,e⟩;rw[N7] at E
  by_cases ei:i=b
  .simp[ei] at E
  .rw[if_neg ei] at E
   rcases hr.inj i b kb old u t hi hb E hg Z hF (by omega) with h | h
   .exact ei h
   .rw[J] at h;cases h.2
 obtain⟨g1,g2,g3,g4⟩:=hk.hr.name W (fun k hk Q=>h5 k (by omega) Q) O hn (fun x hx e=>hr.gl.2 x hx ⟨b,old,t,hb,hg,J,hF,by omega⟩);refine⟨by omega,fun i hi=>M5 F t' (by omega),h1,h2,h3,h4,?_,?_,?_,fun i bi E V=>hk.rom i bi (g4 i bi E V).2 V,g1⟩
 .intro k hk O
  exact h5 k (fun e=>O ⟨b,old,t,hb,hg,J,hF,e.symm⟩) hk
 .intro k Q
  rcases g3 k Q with h | h
  .exact hk.own k h
  .exact .inl ⟨b,old,t,hb,hg,J,hF,by omega⟩
 .intro i hi U
  exact g2 i hi (hk.keep i hi U)
theorem Y14(w:World)(E:Obj)(k:Nat)(h:k<w.heap.size):(w.alloc E).heap[k]? = w.heap[k]? := RowKit.Below.heap_alloc w E k h
theorem E16(w:World)(E:Obj):(w.alloc E).heap[w.heap.size]? = some E:=by
 show(w.heap.push E)[w.heap.size]? = some E;simp
theorem N2.new(hr:HR F H nx w){b:C1}{O:Obj}(hn:W55 F b O):
  ∃ t,t.blk=w.heap.size/\t.base=0/\N2 F H nx w (upd F nx t) (hs H nx (some b)) (nx+1) (w.alloc O):=by
 have E:F nx=none:=hr.fresh nx (Nat.le_refl _)
 cases b with
 | cells c sl=>
  obtain⟨rfl,c',e,rfl,J⟩:=hn;refine⟨⟨w.heap.size,0,c.length,0,c'.size⟩,rfl,rfl,N2.name hr rfl rfl rfl rfl (by simp) (fun k hk=>Y14 w _ k hk) ?_ (Nat.le_refl _)⟩;refine⟨c',e,E16 w _,rfl,rfl,rfl,by have:=J.length;simp at this;simp[this],?_⟩;have hl:=J.length;simp only[List.drop_zero];rw[List.take_of_length_le (by omega)];exact J.mono (M19 E _)
 | map es k=>
  obtain⟨rfl,rfl⟩:=hn;refine⟨⟨w.heap.size,0,0,0,0⟩,rfl,rfl,N2.name hr rfl rfl rfl rfl (by simp) (fun k hk=>Y14 w _ k hk) ?_ (Nat.le_refl _)⟩;exact⟨rfl,#[],E16 w _,.nil⟩
 | rom c=>exact hn.elim
theorem Q0.vr(h:F q=some t)(hb:t.base=0)(y:Q0):VR F (y.val q) (y.real t.blk):=by
 cases y with
 | ptr=>have:=VR.ptr (o:=0) h;rw[hb] at this;exact this
 | slice l c=>have:=VR.slice (o:=0) (n:=l) (c:=c) (c':=c) h (.inl rfl);rw[hb] at this;exact this
 | map=>exact VR.map h
theorem M39{α:Type}(L vs:List α)(base o n:Nat)(h:o+vs.length<=n)(h2:base+n<=L.length):
  ((L.take (base+o)++vs++L.drop (base+o+vs.length)).drop base).take n=((L.drop base).take n).take o++vs++((L.drop base).take n).drop (o+vs.length):=by
 apply List.ext_getElem?;intro j;have e1:min (base+o) L.length=base+o:=by omega
 have e2:min o (min n (L.length-base))=o:=by omega
 simp only[List.getElem?_take,List.getElem?_drop,List.getElem?_append,List.length_append,List.length_take,List.length_drop,e1,e2]
 by_cases hj:j<n
 .by_cases h3:j<o
  .have a1:base+j<base+o+vs.length:=by omega
   have a2:base+j<base+o:=by omega
   have a3:j<o+vs.length:=by omega
   simp[hj,h3,a1,a3]
  .by_cases h4:j<o+vs.length
   .have a1:base+j<base+o+vs.length:=by omega
    have a2:¬ base+j<base+o:=by omega
    have a3:base+j-(base+o)=j-o:=by omega
    simp[hj,h3,h4,a1,a3]
   .have a1:¬ base+j<base+o+vs.length:=by omega
    have a3:base+o+vs.length+(base+j-(base+o+vs.length))=base+(o+vs.length+(j-(o+vs.length))):=by omega
    have a4:o+vs.length+(j-(o+vs.length))<n:=by omega
    simp[hj,h4,a1,a3,a4]
 .have a1:¬ j<o:=by omega
  have a2:¬ j<o+vs.length:=by omega
  have a3:¬ o+vs.length+(j-(o+vs.length))<n:=by omega
  simp[hj,a2,a3]
theorem K14{l l':List Value}(h:VL F l l')(h1:Z0 l=true):∀ v ∈ l',v.oneCell'=true:=by
 induction h with
 | nil=>intro v hv;cases hv
 | cons hv _ ih=>
  intro u hu;rcases List.mem_cons.1 hu with rfl | hu
  .cases hv<;>first | rfl | (simp[Z0] at h1;done)
  .refine ih ?_ u hu
   cases hv<;>first | exact h1 | (simp[Z0] at h1;done)
theorem M20{β:Type}{F:FM}{H:Y0}{nx:Nat}{b o':Nat}{vs:List Value}(s':Option Nat)(z:β)(k:Y0->β):
  U12 H ⟨b,o',s'⟩ vs z k=z\/∃ H',U12 H ⟨b,o',s'⟩ vs z k=k H'/\∀(F:FM) (P:Program) (w:World) (t:J7) (E:List Value),HR F H nx w->F b=some t->VL F vs E->(∀ v ∈ E,v.oneCell'=true) ->
   ∃ w',(storeCells ⟨t.blk,t.base+o',none⟩ E).run P w = .ok () w'/\N2 F H nx w F H' nx w':=by
 unfold U12
 cases s' with
 | some q=>exact .inl rfl
 | none=>
  dsimp only;rw[Y4]
  cases hg:J0 H b with
  | none=>exact .inl rfl
  | some blk=>
   cases blk with
   | map es c=>exact .inl rfl
   | rom c=>exact .inl rfl
   | cells c sl=>
    dsimp only[Option.elim_some]
    cases hb:Nat.ble (o'+vs.length) c.length with
    | false=>exact .inl rfl
    | true=>
     dsimp only[cond_true];rw[V2,G4];refine .inr ⟨_,rfl,fun F P w t E hr hF U O => ?_⟩;have W:o'+vs.length<=c.length:=Nat.le_of_ble_eq_true hb;have V:=hr.hb.lt hF;obtain⟨c',e,h1,h2,h3,h4,h5,h6⟩:=hr.hb.get hF hg;have J:=U.length;have Q:=run_storeCells_at P t.blk (t.base+o') e E 0 c' w h1 (by simp only[Nat.add_zero];omega) O;refine⟨_,Q,N2.update hr V hg rfl rfl hF rfl rfl rfl (by simp) (fun k hk=>setRow_other w _ k _ hk) ?_⟩;refine⟨_,e,setRow_heap w t.blk c' _ e (0,0) h1,?_,?_,h4,?_,?_⟩
     .simp;omega
     .simp;omega
     .simp;omega
     .have e1:(c.take o'++vs++c.drop (o'+vs.length)).length=c.length:=by simp;omega
      rw[e1];simp only[Nat.add_zero];have Z:c'.toList.length=c'.size:=by simp
      rw[M39 c'.toList E t.base o' c.length (by omega) (by omega)];rw[<- J];exact((h6.take o').append U).append (h6.drop _)
end Go.Clo

namespace Go.Clo
variable {F:FM} {P:Program} {Q:Exit->Act->World->Prop} {V1:X} {a:Act} {c r:Nat} {kd:TypeDesc} {l l':List MapEntry} {o:Oper} {t:TypeId} {v:Value} {w w':World}
def EV(P:Program)(d n:Nat)(o:Oper)(T:K0 Value)(H:Y0)(nx:Nat)(v:Value)(H':Y0)(nx':Nat):Prop:=
 ∀(F:FM) (a:Act) (w:World) (K:Act->World->Prop) (Q:Exit->Act->World->Prop),OR n o F T a->HR F H nx w ->
  (∀ v' F' w',VR F' v v'->N2 F H nx w F' H' nx' w'->K (a.put o.dst v') w')->o.wp P a w K Q
def Enters (P : Program) (f : FuncId) : Prop := ∃ fn c, P.funcs[f]? = some fn /\ fn.body = some c /\ (fn.name == "runtime.NumGoroutine") = false
def CS(P:Program)(f:FuncId)(args:List Value)(H:Y0)(nx:Nat)(v:Value)(H':Y0)(nx':Nat):Prop:=
 Enters P f/\∀(F:FM) (E:List Value) (w:World),HR F H nx w->VL F args E ->
  Calls P f E.toArray w fun e w'=>∃ v' F',e = .returned v'/\VR F' v v'/\N2 F H nx w F' H' nx' w'
def E11{β:Type}(P:Program)(call:Z3 β):Prop:=
 ∀ f args H nx (z:β) k,call f args H nx z k=z\/∃ v H' nx',call f args H nx z k=k v H' nx'/\CS P f args H nx v H' nx'
theorem VR.undef(F:FM):VR F Go.undef Go.undef:=VR.tuple' .nil
theorem C3{K:Act->World->Prop}(h:(execOp a.eval o).run P w = .ok (.value v) w')(hk:K (a.put o.dst v) w'):o.wp P a w K Q:=by
 unfold Oper.wp;rw[h];exact hk
theorem J24{K:Act->World->Prop}(h:(execOp a.eval o).run P w = .ok .skip w')(hk:K (a.put o.dst Go.undef) w'):o.wp P a w K Q:=by
 unfold Oper.wp;rw[h];exact hk
theorem N57 {f:FuncId} (he:Enters P f) (args:Array Value) (w:World):(callFunc f args).run P w = .ok (.enter f args) w:=by
 obtain⟨fn,c,h1,h2,h3⟩:=he
 have E : ¬ fn.name = "runtime.NumGoroutine" := by simpa using h3
 simp[callFunc,program,Sem.run,h1,h2,E]
section
variable {β:Type} {P:Program} {d n nx:Nat} {o:Oper} {T:K0 Value} {H:Y0}
theorem Y54{c:Call}{f:Operand}{y:X}{ys:List X}(ho:o.op = .call c)(hc:c.callee = .value f)(hf:N0 n f=some y)(W:U7 n c.args.toList=some ys){call:Z3 β}(J:E11 P call)(z:β)(k:Value->Y0->Nat->β):
  evE (.call y ys) call T H nx z k=z\/∃ v H' nx',evE (.call y ys) call T H nx z k=k v H' nx'/\EV P d n o T H nx v H' nx':=by
 show E41 y ys call T H nx z k=z\/∃ v H' nx',E41 y ys call T H nx z k=k v H' nx'/\_;unfold E41;rw[G2]
 split
 .rename_i g first cap hv
  rw[C22,V2];rcases J g (first++ys.map (ev T)++cap) H nx z k with h | ⟨v,H',nx',h,he,hcs⟩
  .exact .inl h
  .refine .inr ⟨v,H',nx',h,fun F a w K Q ht hr hk => ?_⟩
   have h1:=evX ht hf (by rw[ho];simp[Op.operands,Call.operands,hc]);rw[hv] at h1;have h2:=W48 ht W (by rw[ho];intro q hq;simp[Op.operands,Call.operands,hc];exact .inr (by simpa using hq));generalize hq:a.eval f=q at h1
   cases h1 with
   | @func _ x x' y' y'' e1 e2 e3 e4=>
    have hx:VL F first x'.toList:=VL.ofArr e1 e2;have hy:VL F cap y''.toList:=VL.ofArr e3 e4;have E:=hcs F (x'.toList++c.args.toList.map a.eval++y''.toList) w hr ((hx.append h2).append hy);unfold Oper.wp;have U:(x'.toList++c.args.toList.map a.eval++y''.toList).toArray=x'++c.args.map a.eval++y'':=by
     apply Array.toList_inj.1;simp
    rw[U] at E;have O:(execOp a.eval o).run P w = .ok (.enter g (x'++c.args.map a.eval++y'')) w:=by
     simp only[execOp,ho,resolve,hc,hq,Deferred.ofValue,Sem.run_bind,Sem.run_pure,Result.andThen_ok,invoke];exact N57 he _ w
    rw[O];simp only[Oper.upon];refine E.mono fun e w' ⟨v',F',e1,V,Z⟩ => ?_
    subst e1;exact hk v' F' w' V Z
 .exact .inl rfl
theorem W63{x v:Operand}{X1:X}{i:TypeInfo}(ho:o.op = .store t x v)(hx:N0 n x=some X1)(hv:N0 n v=some V1)(hi:P.info? t=some i)(call:Z3 β)(z:β)(k:Value->Y0->Nat->β):
  evE (.st X1 V1 i.size) call T H nx z k=z\/∃ u H' nx',evE (.st X1 V1 i.size) call T H nx z k=k u H' nx'/\EV P d n o T H nx u H' nx':=by
 show eSt X1 V1 i.size call T H nx z k=z\/∃ u H' nx',eSt X1 V1 i.size call T H nx z k=k u H' nx'/\_;unfold eSt;rw[G2,G2]
 split
 .rename_i a U
  obtain⟨b,o',s'⟩:=a
  cases hb:(Nat.beq (ev T V1).cells.toList.length i.size&&Z0 (ev T V1).cells.toList) with
  | false=>exact .inl rfl
  | true=>
   dsimp only[cond_true];rw[Bool.and_eq_true] at hb;rcases M20 (F:=fun _=>none) (H:=H) (nx:=nx) (b:=b) (o':=o') (vs:=(ev T V1).cells.toList) s' z (fun H=>k undef H nx) with h | ⟨H',h,hp⟩
   .exact .inl h
   .refine .inr ⟨undef,H',nx,h,fun F O w K Q ht hr hk => ?_⟩
    have h1:=evX ht hx;rw[U] at h1;obtain⟨rfl,tt,hF,he⟩:=h1.ptr_inv;have h2:=(evX ht hv).cells (G28 hb.2);obtain⟨w',J,V⟩:=hp F P w tt _ hr hF h2 (K14 h2 hb.2);have E:(O.eval v).cells.size=i.size:=by
     have a:=Nat.eq_of_beq_eq_true hb.1;have b:=h2.length;simp at a b;omega
    refine J24 (w':=w') ?_ (hk undef F w' (VR.undef F) V);simp only[execOp,ho,Instr.storeAt,he,Instr.sureAddr,Sem.run_bind,Sem.run_pure,Result.andThen_ok,storeVar,E3 hi,E,ne_eq,not_true,if_false,J]
 .exact .inl rfl
theorem W25{kd:TypeDesc}{k:Value}:∀ {es:List MapEntry} {j i:Nat} {v:Value},Instr.findNow kd k es j=some (some (i,v))->j<=i/\∃ e,es[i-j]? = some e/\Instr.sameNow kd k e.key=some true
 | [],j,i,v,h=>by simp[Instr.findNow] at h
 | e :: es,j,i,v,h=>by
  simp only[Instr.findNow] at h
  cases hs:Instr.sameNow kd k e.key with
  | none=>simp[hs] at h
  | some q=>
   cases q with
   | true=>
    simp[hs] at h;obtain⟨rfl,rfl⟩:=h;exact⟨Nat.le_refl _,e,by simp,hs⟩
   | false=>
    simp only[hs] at h;obtain⟨h1,e',h2,h3⟩:=W25 h;refine⟨by omega,e',?_,h3⟩;have:i-j=(i-(j+1))+1:=by omega
    rw[this];simpa using h2
theorem Z64{a b:Value}(h:Instr.sameNow kd a b=some true):Instr.sameBits 10000 b a=true:=by
 unfold Instr.sameNow at h
 split at h
 .split at h
  .rename_i e2;subst e2;simp at h;subst h;simp[Instr.sameBits]
  .cases h
 .simp only[Option.some.injEq] at h
  rw[beq_toListBytes] at h;simp only[Instr.sameBits];rw[beq_toListBytes];simp at h;simp[h]
 .simp at h;subst h;simp[Instr.sameBits]
 .cases h
theorem K25{α:Type}:∀(l:List α) (i:Nat) (b:α),R26 l i b=l.set i b
 | [],i,b=>by cases i<;>rfl
 | a :: l,0,b=>rfl
 | a :: l,i+1,b=>by simp[R26,K25 l i b]
theorem EL.set{F:FM}{l l':List MapEntry}(h:EL F l l'){k v v':Value}(hk:M4 k=true)(hv:VR F v v'):∀ {i:Nat} {e e':MapEntry},l[i]? = some e->l'[i]? = some e'->EL F (l.set i ⟨k,v,e.born⟩) (l'.set i ⟨k,v',e'.born⟩)/\e.born=e'.born/\e.key=e'.key:=by
 induction h with
 | nil=>intro i e e' h;simp at h
 | @cons k0 u u' b m m' hk0 hu t ih=>
  intro i e e' h1 h2
  cases i with
  | zero=>
   simp at h1 h2;subst h1;subst h2;exact⟨.cons hk hv t,rfl,rfl⟩
  | succ i=>
   obtain⟨g1,g2⟩:=ih (by simpa using h1) (by simpa using h2);exact⟨.cons hk0 hu g1,g2⟩
theorem EL.snoc(h:EL F l l'){k v':Value}{b:Nat}(hk:M4 k=true)(hv:VR F v v'):EL F (l++[⟨k,v,b⟩]) (l'++[⟨k,v',b⟩]):=by
 induction h with
 | nil=>exact .cons hk hv .nil
 | cons E hu _ ih=>exact .cons E hu ih
theorem EL.get(h:EL F l l'){i:Nat}{e:MapEntry}(hi:l[i]? = some e):∃ e',l'[i]? = some e':=by
 have:=h.length;have hl:i<l.length:=by
  rcases Nat.lt_or_ge i l.length with g | g
  .exact g
  .simp[List.getElem?_eq_none g] at hi
 exact⟨l'[i],by simp[<- this,hl]⟩
theorem R15{es:Array MapEntry}(h:w.heap[r]? = some (.map es c))(o:Obj):(setObj r o).run P w = .ok () { w with heap:=w.heap.setIfInBounds r o }:=by
 simp[setObj,Sem.run,h]
theorem K31(hr:HR F H nx w){t:J7}{E:C1}{es:List MapEntry}{es':Array MapEntry}(hF:F r=some t)(hg:J0 H r=some E)(O:E.isRom=false)(V:t.base=0)(U:EL F es es'.toList):
  N2 F H nx w F (hs H r (some (.map es c))) nx { w with heap:=w.heap.setIfInBounds t.blk (.map es' c) }:=by
 have J:=(hr.hb.get hF hg).lt;refine N2.update hr (hr.hb.lt hF) hg O rfl hF rfl rfl rfl (by simp) (fun k hk => ?_) ⟨V,es',?_,U⟩
 .simp[Array.getElem?_setIfInBounds_ne (Ne.symm hk)]
 .simp[J]
theorem V41{m key v:Operand}{M1 K1:X}{kt et:TypeId}{a6:Op}(ho:o.op=a6)(a2:a6 = .mapUpdate t m key v\/a6 = .insert t m key v)(hm:N0 n m=some M1)(hk:N0 n key=some K1)(hv:N0 n v=some V1)
  (hu:P.underlying t=some (.map kt et))(Z:P.underlying kt=some kd)(call:Z3 β)(z:β)(k:Value->Y0->Nat->β):
  evE (.upd kd M1 K1 V1) call T H nx z k=z\/∃ u H' nx',evE (.upd kd M1 K1 V1) call T H nx z k=k u H' nx'/\EV P d n o T H nx u H' nx':=by
 have om:m ∈ o.op.operands/\key ∈ o.op.operands/\v ∈ o.op.operands:=by
  rcases a2 with rfl | rfl<;>rw[ho]<;>simp[Op.operands]
 show U54 kd M1 K1 V1 call T H nx z k=z\/∃ u H' nx',U54 kd M1 K1 V1 call T H nx z k=k u H' nx'/\_;unfold U54;rw[G2,G2,G2]
 split
 .rename_i r ac
  rw[Y4]
  cases hg:J0 H r with
  | none=>exact .inl rfl
  | some blk=>
   dsimp only[Option.elim_some];unfold G52
   split
   .rename_i es clock
    cases V:Q9 kd (ev T K1) with
    | false=>exact .inl rfl
    | true=>
     dsimp only[cond_true];have a0:∀(F:FM) (a:Act) (w:World),OR n o F T a->HR F H nx w->∃ tt es',F r=some tt/\a.eval m = .map (some tt.blk)/\tt.base=0/\w.heap[tt.blk]? = some (.map es' clock)/\EL F es es'.toList/\a.eval key=ev T K1/\VR F (ev T V1) (a.eval v):=by
      intro F a w ht hr;have h1:=evX ht hm om.1;rw[ac] at h1;generalize a.eval m=q at h1
      cases h1 with
      | @map _ tt hF=>
       obtain⟨W,es',hw,J⟩:=hr.hb.get hF hg;exact⟨tt,es',hF,rfl,W,hw,J,C11 (evX ht hk om.2.1) (W20 V),evX ht hv om.2.2⟩
     split
     .rename_i i u a3
      split
      .rename_i e a4
       rw[V2,G4];refine .inr ⟨undef,_,nx,rfl,fun F a w K Q ht hr U => ?_⟩;obtain⟨tt,es',hF,he,W,hw,J,a5,a1⟩:=a0 F a w ht hr;rw[Q8] at a4;obtain⟨e',E⟩:=J.get a4;obtain⟨g1,g2,g3⟩:=J.set (W20 V) a1 a4 E;obtain⟨u',O,_⟩:=(E17 (kd:=kd) (k:=ev T K1) J 0).2.2 _ _ a3;obtain⟨_,e2,q1,q2⟩:=W25 O;have hq:e2=e':=by simp at q1;rw[<- Array.getElem?_toList] at q1;rw[E] at q1;exact(Option.some.inj q1).symm
       subst hq;have a9:(es'.modify i fun q=>{ q with key:=ev T K1,val:=a.eval v }).toList=es'.toList.set i ⟨ev T K1,a.eval v,e2.born⟩:=by
        apply List.ext_getElem?;intro j;simp only[Array.getElem?_toList,Array.getElem?_modify,List.getElem?_set]
        by_cases aa:i=j
        .subst aa
         have ad:i<es'.size:=by
          rcases Nat.lt_or_ge i es'.size with g | g
          .exact g
          .simp[g] at E
         rw[Array.getElem?_toList] at E;have hb:=(Array.getElem?_eq_some_iff.1 E).2;simp[ad,hb]
        .simp[aa]
       have a7:=K31 (c:=clock) hr hF hg rfl W (es:=R26 es i ⟨ev T K1,ev T V1,e.born⟩) (es':=es'.modify i fun q=>{ q with key:=ev T K1,val:=a.eval v }) (by rw[K25,a9];exact g1);refine J24 ?_ (U undef F _ (VR.undef F) a7);have ab:=Z64 q2;have a8:(((es'[i]?).map (·.key)).getD (ev T K1))=e2.key:=by
        rw[Array.getElem?_toList] at E;simp[E]
       rcases a2 with rfl | rfl<;>simp only[execOp,ho,Instr.mapUpdate,Sem.run_bind,run_underlying hu,Result.andThen_ok,he,M7 hw,a5,Y11 Z V _ 9999,Instr.findKey,run_underlying Z,O,Sem.run_pure,a8,Instr.keyThatStays,ab,if_true,R15 hw]
      .exact .inl rfl
     .rename_i a3
      rw[V2,G1,G4];refine .inr ⟨undef,_,nx,rfl,fun F a w K Q ht hr U => ?_⟩;obtain⟨tt,es',hF,he,W,hw,J,a5,a1⟩:=a0 F a w ht hr;have O:=(E17 (kd:=kd) (k:=ev T K1) J 0).2.1 a3;have a7:=K31 (c:=clock+1) hr hF hg rfl W (es:=es++[⟨ev T K1,ev T V1,clock⟩]) (es':=es'.push ⟨ev T K1,a.eval v,clock⟩) (by simpa using J.snoc (W20 V) a1);refine J24 ?_ (U undef F _ (VR.undef F) a7);rcases a2 with rfl | rfl<;>simp only[execOp,ho,Instr.mapUpdate,Sem.run_bind,run_underlying hu,Result.andThen_ok,he,M7 hw,a5,Y11 Z V _ 9999,Instr.findKey,run_underlying Z,O,Sem.run_pure,R15 hw]
     .exact .inl rfl
   .exact .inl rfl
 .exact .inl rfl
end
end Go.Clo

namespace Go.Clo
variable {P:Program} {ar:Array Value} {base:Option Addr} {c' m sLen:Nat} {i:TypeInfo} {new:List Value} {ud:TypeDesc} {w:World} {x':Value}
theorem W29(F:FM):∀(l:List UInt8),VL F (l.map fun b=>Value.int .u8 b.toNat) (l.map fun b=>Value.int .u8 b.toNat)
 | [] => .nil
 | b :: l => .cons (.int _ _) (W29 F l)
theorem R21{β:Type}{H:Y0}{nx size:Nat}{x:Value}(z:β)(k:List Value->β):
  Z5 H size m x z k=z\/∃ l,Z5 H size m x z k=k l/\∀(F:FM) (P:Program) (x':Value) (w:World),VR F x x'->HB F H nx w->∃ l',(∀ w2:World,w2.heap=w.heap->(Builtin.firstCells size m x').run P w2 = .ok l'.toArray w2)/\VL F l l':=by
 unfold Z5
 split
 .rename_i a len cap
  unfold B19;obtain⟨b,o,s⟩:=a
  cases s with
  | some q=>exact .inl rfl
  | none=>
   dsimp only;rw[Y4]
   cases hg:J0 H b with
   | none=>exact .inl rfl
   | some blk=>
    have E:∀ c,blk.row=some c->((match G5 (m*size) (c.drop o) with
      | some l=>spine l k
      | none=>z)=z\/∃ l,(match G5 (m*size) (c.drop o) with
      | some l=>spine l k
      | none=>z)=k l/\∀(F:FM) (P:Program) (x':Value) (w:World),VR F (.slice (some ⟨b,o,none⟩) len cap) x'->HB F H nx w->∃ l',(∀ w2:World,w2.heap=w.heap->(Builtin.firstCells size m x').run P w2 = .ok l'.toArray w2)/\VL F l l'):=by
     intro c O
     split
     .rename_i l hl
      rw[V2];refine .inr ⟨l,rfl,fun F P x' w hx hb => ?_⟩;obtain⟨_,t,c',hF,rfl,_⟩:=hx.slice_inv;obtain⟨l',J,U,_⟩:=N36 (P:=P) (hb.get hF hg) O hl;exact⟨l',fun w2 Q=>by simp[Builtin.firstCells,J w2 Q],U⟩
     .exact .inl rfl
    cases blk with
    | map es c=>exact .inl rfl
    | rom c=>exact E c rfl
    | cells c sl=>exact E c rfl
 .refine .inr ⟨[],rfl,fun F P x' w hx _=>⟨[],fun w2 _ => ?_,.nil⟩⟩
  have:=hx.sliceN_inv;subst this;simp[Builtin.firstCells]
 .rename_i s
  rw[C20];refine .inr ⟨_,rfl,fun F P x' w hx _=>⟨_,fun w2 _ => ?_,W29 F _⟩⟩
  cases hx
  simp[Builtin.firstCells];apply Array.toList_inj.1;simp[List.extract_eq_take_drop]
 .exact .inl rfl
theorem Y16{F:FM}{x:Value}(h:Y45 x=some m)(hx:VR F x x')(w:World):(Builtin.lenOf x').run P w = .ok m w:=by
 unfold Y45 at h
 split at h
 .cases h;cases hx<;>simp[Builtin.lenOf]
 .cases h;cases hx;simp[Builtin.lenOf]
 .cases h
theorem R55(E c:Nat)(h:c<E):Builtin.nextslicecap E c<=2*E+1000:=by
 unfold Builtin.nextslicecap
 split
 .omega
 .split
  .omega
  .have U44:∀ r q,q<=2*E+1000->(q<E->q+(q+768)/4<=2*E+1000)->Builtin.growBy E r q<=2*E+1000:=by
    intro r
    induction r with
    | zero=>intro q hq _;exact hq
    | succ r ih=>
     intro q hq hg;simp only[Builtin.growBy]
     split
     .exact hq
     .exact ih _ (hg (by omega)) (fun h=>by omega)
   exact U44 4 c (by omega) (by omega)
theorem E49(m:Nat)(w:World):(askRoom m).run P w = .ok () w:=by
 unfold askRoom
 split
 .rfl
 .rfl
theorem G37(z:Array Value)(m:Nat):(Builtin.zeroCells z m).size=m*z.size:=by simp[Builtin.zeroCells]
section
variable {β:Type} {P:Program} {d n nx:Nat} {o:Oper} {T:K0 Value} {H:Y0}
theorem Z17{t u e:TypeId}{Q:Array TypeId}(h0:Q[0]? = some t)(h1:Q[1]? = some u)(hu:P.underlying t=some (.slice e))(W:P.underlying u=some ud)(U:∀ k,ud ≠ .int k)(hi:P.info? e=some i)(V:ar[0]? = some (.slice base sLen c'))(Z:ar[1]? = some x')(E:(Builtin.lenOf x').run P w = .ok m w)
  (J:(Builtin.firstCells i.size m x').run P w = .ok new.toArray w)(O:sLen+m<=c')(ty:TypeId):
  (Builtin.append_ Q ty ar).run P w=match base with
   | none => .ok (.slice none (sLen+m) c') w
   | some a=>((storeCells (a.add (sLen*i.size)) new).run P w).andThen fun _ w' => .ok (.slice (some a) (sLen+m) c') w':=by
 cases base with
 | none=>
  cases ud<;>first | exact absurd rfl (U _) | simp only[Builtin.append_,h0,h1,V,Z,Sem.run_bind,run_underlying hu,run_underlying W,Result.andThen_ok,E3 hi,Sem.run_pure,E,Bool.false_eq_true,if_false,O,Bool.not_false,if_true,J]
 | some a=>
  cases ud<;>first | exact absurd rfl (U _) | simp only[Builtin.append_,h0,h1,V,Z,Sem.run_bind,run_underlying hu,run_underlying W,Result.andThen_ok,E3 hi,Sem.run_pure,E,Bool.false_eq_true,if_false,O,Bool.not_false,if_true,J]
theorem K37{t u e:TypeId}{zv:Value}{J:Array TypeId}(h0:J[0]? = some t)(h1:J[1]? = some u)(hu:P.underlying t=some (.slice e))(a2:P.underlying u=some ud)(Z:∀ k,ud ≠ .int k)(hi:P.info? e=some i)(a3:i.zero=some zv)(a4:ar[0]? = some (.slice base sLen c'))(a5:ar[1]? = some x'){w:World}(V:(Builtin.lenOf x').run P w = .ok m w)
  (U:c'<sLen+m)(a7:(2*(sLen+m)+1000)*i.bytes<=281474976710656)(a6:sLen+m<=1000000000){W:List Value}(O:∀ q,(Builtin.firstCells i.size sLen (.slice base sLen c')).run P { w with drawn:=q } = .ok W.toArray { w with drawn:=q })
  (Q:∀ q,(Builtin.firstCells i.size m x').run P { w with drawn:=q } = .ok new.toArray { w with drawn:=q })(ty:TypeId):
  ∃ E,(sLen+m<=E/\E<=9223372036854775807)/\(Builtin.append_ J ty ar).run P w =
   .ok (.slice (some ⟨w.heap.size,0,none⟩) (sLen+m) E) (({ w with drawn:=w.drawn+1 }:World).alloc (.cells (W.toArray++new.toArray++Builtin.zeroCells zv.cells (E-(sLen+m))) e (0,0))):=by
 refine⟨(sLen+m)+w.tape w.drawn (.appendCap (sLen+m) c' e)%(2^63-(sLen+m)),⟨Nat.le_add_right _ _,by
  have:=Nat.mod_lt (w.tape w.drawn (.appendCap (sLen+m) c' e)) (show 0<2^63-(sLen+m) by omega);omega⟩,?_⟩
 have n1:¬ (sLen+m<=c'):=by omega
 have n2:¬ (((sLen+m:Nat):Int) > IntKind.i64.max):=by
  have:IntKind.i64.max=9223372036854775807:=by decide
  rw[this];omega
 have n3:¬ (Builtin.nextslicecap (sLen+m) c'*i.bytes > 2^48):=by
  have h:=Nat.mul_le_mul_right i.bytes (R55 (sLen+m) c' U);have e:2^48=281474976710656:=by decide
  rw[e];omega
 have a1:(choose (.appendCap (sLen+m) c' e)).run P w = .ok ((sLen+m)+w.tape w.drawn (.appendCap (sLen+m) c' e)%(2^63-(sLen+m))) { w with drawn:=w.drawn+1 }:=by
  simp[choose,Sem.run,Question.forced,Question.cut]
 have a0:∀ w,(zeroValue e).run P w = .ok zv w:=fun w=>E19 hi a3 w
 cases ud<;>first | exact absurd rfl (Z _) | (
  simp only[Builtin.append_,h0,h1,a4,a5,Sem.run_bind,run_underlying hu,run_underlying a2,Result.andThen_ok,E3 hi,Sem.run_pure,V,Bool.false_eq_true,if_false,n1,K8 hi,n2,false_and,n3,a1,E49,O,Bool.not_false,if_true,Q,a0,W12])
theorem X24{c:Call}{s x:Operand}{t u:TypeId}{tl:List TypeId}{xl:List Operand}(ho:o.op = .call c)(hc:c.callee = .builtin .append)(J:c.argTypes.toList=t :: u :: tl)(ha:c.args.toList=s :: x :: xl)(a:Act)(w:World):
  ∃ E:Array TypeId,∃ ar:Array Value,E[0]? = some t/\E[1]? = some u/\ar[0]? = some (a.eval s)/\ar[1]? = some (a.eval x) /\
   (execOp a.eval o).run P w=((Builtin.append_ E o.type ar).run P w).andThen fun v w => .ok (.value v) w:=by
 refine⟨c.argTypes,c.args.map a.eval,?_,?_,?_,?_,?_⟩
 .rw[<- Array.getElem?_toList,J];rfl
 .rw[<- Array.getElem?_toList,J];rfl
 .rw[Array.getElem?_map,<- Array.getElem?_toList,ha];rfl
 .rw[Array.getElem?_map,<- Array.getElem?_toList,ha];rfl
 .simp[execOp,ho,resolve,hc,invoke,builtin]
end
end Go.Clo

namespace Go.Clo
variable {F:FM} {H:Y0} {new new' old:List Value} {w:World}
theorem X58{nx:Nat}(hr:HR F H nx w){O:List Value}(W:VL F old O)(Z:VL F new new'){J size E:Nat}{zv:Value}{e:TypeId}(q:Nat)
  (Q:(old++new).length=J*size)(a1:0<size)(hz:zv.cells.size=size)(V:J<=E)(a0:E<=9223372036854775807):
  ∃ F',N2 F H nx w F' (hs H nx (some (.cells (old++new) size))) (nx+1) (({ w with drawn:=q }:World).alloc (.cells (O.toArray++new'.toArray++Builtin.zeroCells zv.cells (E-J)) e (0,0))) /\
   VR F' (.slice (some ⟨nx,0,none⟩) J J) (.slice (some ⟨w.heap.size,0,none⟩) J E):=by
 have U:F nx=none:=hr.fresh nx (Nat.le_refl _);have a3:(E-J)*size=E*size-J*size:=Nat.sub_mul _ _ _;have a2:J*size<=E*size:=Nat.mul_le_mul_right _ V;refine⟨upd F nx ⟨w.heap.size,0,J*size,size,E*size⟩,?_,?_⟩
 .refine N2.name hr rfl rfl rfl rfl (by simp) (fun k hk=>Y14 _ _ k hk) ?_ (Nat.le_refl _)
  have hl:=(W.append Z).length;refine⟨_,e,E16 _ _,?_,Q.symm,rfl,by rw[Q];simp;omega,?_⟩
  .simp only[Array.size_append,G37,hz]
   simp at hl Q;simp;omega
  .have hd:((O.toArray++new'.toArray++Builtin.zeroCells zv.cells (E-J)).toList.drop 0).take (old++new).length=O++new':=by
    rw[List.drop_zero,Array.toList_append,Array.toList_append];simp only[];rw[hl];exact List.take_left
   show VL _ (old++new) ((List.drop 0 _).take _);rw[hd];exact(W.append Z).mono (M19 U _)
 .have:=VR.slice (F:=upd F nx ⟨w.heap.size,0,J*size,size,E*size⟩) (b:=nx) (o:=0) (n:=J) (c:=J) (c':=E) (Y6 F nx _) (.inr ⟨a1,V,by simp,by simp,a0⟩)
  exact this
theorem B46 {nx:Nat} (P:Program) (hr:HR F H nx w) {b o':Nat} {t:J7} {c:List Value} {size:Nat} (hg:J0 H b=some (.cells c size)) (hF:F b=some t)
  {sLen m cap':Nat} {new':List Value} (hold:G5 (sLen*size) (c.drop o')=some old) (hnew:VL F new new') (hone:∀ v ∈ new',v.oneCell'=true) (hlen:(old++new).length=(sLen+m)*size) (hsz:0<size)
  (hfit:sLen+m<=cap') (hroom:t.base+o'+cap'*size<=t.rsz) (hbd:cap'<=9223372036854775807):
  ∃ F' w',(storeCells ⟨t.blk,t.base+o'+sLen*size,none⟩ new').run P w = .ok () w'/\N2 F H nx w F' (hs (hs H b none) nx (some (.cells (old++new) size))) (nx+1) w' /\
   VR F' (.slice (some ⟨nx,0,none⟩) (sLen+m) (sLen+m)) (.slice (some ⟨t.blk,t.base+o',none⟩) (sLen+m) cap'):=by
 have hfresh:F nx=none:=hr.fresh nx (Nat.le_refl _)
 obtain⟨eo,el⟩:=E31 hold
 obtain⟨c',e,h1,h2,h3,h4,h5,h6⟩:=hr.hb.get hF hg
 have hnl:=hnew.length
 have hml:new.length=m*size:=by simp[el] at hlen;rw[Nat.add_mul] at hlen;omega
 have hmul:(sLen+m)*size<=cap'*size:=Nat.mul_le_mul_right _ hfit
 have hadd:(sLen+m)*size=sLen*size+m*size:=Nat.add_mul _ _ _
 have hcl:c'.toList.length=c'.size:=by simp
 have hrun:=run_storeCells_at P t.blk (t.base+o'+sLen*size) e new' 0 c' w h1 (by simp only[Nat.add_zero];omega) hone
 simp only[Nat.add_zero] at hrun
 refine⟨upd F nx ⟨t.blk,t.base+o',(sLen+m)*size,size,t.rsz⟩,_,hrun,?_,?_⟩
 .refine N2.rename hr hg rfl rfl hF rfl rfl rfl rfl (by simp) (fun k hk _=>setRow_other w _ k _ hk) ?_
  refine⟨_,e,setRow_heap w t.blk c' _ e (0,0) h1,?_,hlen.symm,rfl,?_,?_⟩
  .simp;omega
  .rw[hlen];dsimp only;omega
  .rw[hlen]
   have hs:=M39 c'.toList new' (t.base+o') (sLen*size) ((sLen+m)*size) (by omega) (by omega)
   show VL _ _ ((List.drop (t.base+o') (_:Array Value).toList).take _)
   rw[List.toList_toArray,hs]
   have hd0:((c'.toList.drop (t.base+o')).take ((sLen+m)*size)).drop (sLen*size+new'.length)=[]:=by
    apply List.drop_eq_nil_of_le;simp;omega
   rw[hd0,List.append_nil]
   have hvo:VL F old ((((c'.toList.drop t.base).take c.length).drop o').take (sLen*size)):=by rw[eo];exact (h6.drop o').take _
   have hocl:sLen*size<=c.length-o':=by
    have hh:=el
    rw[eo] at hh
    simp at hh
    omega
   have heq:(((c'.toList.drop t.base).take c.length).drop o').take (sLen*size)=((c'.toList.drop (t.base+o')).take ((sLen+m)*size)).take (sLen*size):=by
    apply List.ext_getElem?
    intro j
    simp only[List.getElem?_take,List.getElem?_drop]
    by_cases hj:j<sLen*size
    .have a1:o'+j<c.length:=by omega
     have a2:j<(sLen+m)*size:=by omega
     simp[hj,a1,a2,Nat.add_assoc]
    .simp[hj]
   rw[<- heq]
   exact (hvo.append hnew).mono (M19 hfresh _)
 .have:=VR.slice (F:=upd F nx ⟨t.blk,t.base+o',(sLen+m)*size,size,t.rsz⟩) (b:=nx) (o:=0) (n:=sLen+m) (c:=sLen+m) (c':=cap') (Y6 F nx _) (.inr ⟨hsz,hfit,by simp,by simpa using hroom,hbd⟩)
  exact this
end Go.Clo
