/-
  The closed executor: steps of the heap.
  The closed executor: the operations with an effect.
  The closed executor: append and copy;the operations with an effect,joined.
  The closed executor: append,copy,and all operations with an effect.
  The closed executor: all operations with an effect.
  The closed executor: operations with an effect,joined;a region in its order.
  The closed executor: one operation;a region in its order.
  The closed executor: the order that a region's edges leave open.
  The closed executor: heaps with blocks beside.
-/
import Derived.Test.YtoiioigihocgbaaGreatDoorD2
import Derived.Laws.StructEq
set_option maxHeartbeats 8000000
set_option maxRecDepth 100000
set_option linter.all false
noncomputable section
open Array renaming getElem?_map->fT,getElem?_toList->cL,mem_def->fQ,toList_inj->fB
open Bool renaming and_eq_true->aG,false_eq_true->dQ,not_eq_true'->cJ,or_eq_true->cO
open Go.Builtin renaming append_->gE,clear_->fX,firstCells->eC,lenOf->gH,zeroCells->fV
open Go.Call renaming operands->fL
open Go.Instr renaming findNow->dP
open Go.Op renaming operands->eI
open Go.Region renaming binds->fH,wanted->fE
open Go.Result renaming andThen_ok->aM
open Go.Sem renaming run_bind->aS,run_pure->bD
open Go.Value renaming int->cD
open List renaming all_eq_true->bW,cons_append->dL,ext_getElem?->dH,getElem?_drop->dB,getElem?_eq_none->aT,getElem?_set->cQ,getElem?_take->aX,length_append->bH,length_cons->cV,length_take->cK,mem_append->dN,mem_cons->aU,mem_filter->dA,mem_range->cW,take_of_length_le->gJ
open Nat renaming add_assoc->eH,add_mul->dM,add_zero->eM,beq->bR,ble->dD,blt->dE,eq_of_beq_eq_true->bT,le_refl->aD,le_trans->bK,lt_of_lt_of_le->aO,lt_or_ge->aW,mod_lt->eZ,mul_le_mul_right->dS,testBit_or->aV,testBit_two_pow->aR
open Ne renaming symm->eT
open Option renaming elim_some->aN,map_eq_some_iff->bU
open Option.some renaming inj->fA,injEq->aZ
namespace Go.Clo
section
variable {F:FM} {H:Y0} {b nx q:Nat} {old:V3} {t:J7} {w w':World}
def upd(F:FM)(q:Nat)(t:J7):FM:=fun i=>if i=q then some t else F i
theorem M19(h:F q=none)(t:J7):F.le (upd F q t):=by
 intro i u hi;unfold upd
 by_cases e:i=q
 .subst e;rw[h] at hi;cases hi
 .simp[e,hi]
theorem Y6(F:FM)(q:Nat)(t:J7):upd F q t q=some t:=by simp[upd]
theorem M5(F:FM){i:Nat}(t:J7)(h:i≠q):upd F q t i=F i:=by simp[upd,h]
theorem N2.update(hr:HR F H nx w){new:V3}(hb:b<nx)(hg:J0 H b=some old)(V:old.isRom=false)(a0:new.isRom=false)(hF:F b=some t)
  (h1:w'.os=w.os)(h2:w'.tape=w.tape)(h3:w'.output=w.output)(h4:w'.heap.size=w.heap.size)(h5:∀ k,k≠t.blk->w'.heap[k]? = w.heap[k]?)(hn:BR F t new w'):
  N2 F H nx w F (hs H b (some new)) nx w':=by
 have O:∀ i,J0 (hs H b (some new)) i=if i=b then some new else J0 H i:=fun i=>N7 H b i _
 have conv:∀ i bi,J0 (hs H b (some new)) i=some bi->∃ J,J0 H i=some J/\J.isRom=bi.isRom:=by
  intro i bi E;rw[O i] at E
  by_cases e:i=b
  .subst e;rw[if_pos rfl] at E;cases E;exact⟨old,hg,by rw[V,a0]⟩
  .rw[if_neg e] at E;exact⟨bi,E,rfl⟩
 refine⟨aD _,fun _ _=>rfl,h1,h2,h3,by omega,?_,?_,?_,?_,?_⟩
 .intro k hk W
  refine h5 k (fun e=>W ⟨b,old,t,hb,hg,V,hF,e.symm⟩)
 .rintro k ⟨i,kb,ti,hi,E,Z,Q,rfl⟩
  obtain⟨J,g1,g2⟩:=conv i kb E;exact .inl ⟨i,J,ti,hi,g1,g2.trans Z,Q,rfl⟩
 .intro i hi U
  rw[O i]
  by_cases e:i=b
  .subst e;rw[hg] at U;cases U
  .rw[if_neg e];exact U
 .intro i bi E a2
  rw[O i] at E
  by_cases e:i=b
  .subst e;rw[if_pos rfl] at E;cases E;rw[a0] at a2;cases a2
  .rw[if_neg e] at E;exact⟨hr.low E,E⟩
 .refine⟨?_,?_,hr.fresh,fun i hi=>by rw[O,if_neg (by omega)];exact hr.top i hi,hr.gl.step (fun k hk W=>h5 k (fun e=>W ⟨b,old,t,hb,hg,V,hF,e.symm⟩)) (by
   rintro k ⟨i,kb,ti,hi,E,Z,Q,rfl⟩;obtain⟨J,g1,g2⟩:=conv i kb E;exact .inl ⟨i,J,ti,hi,g1,g2.trans Z,Q,rfl⟩)⟩
  .intro i kb hi E
   rw[O i] at E
   by_cases e:i=b
   .subst e;rw[if_pos rfl] at E;cases E;exact⟨t,hF,hn⟩
   .rw[if_neg e] at E
    obtain⟨ti,Q,a5⟩:=hr.blk i kb hi E;refine⟨ti,Q,a5.mono (fun _ _ h=>h) (h5 _ (fun e2 => ?_))⟩;rcases hr.inj i b kb old ti t hi hb E hg Q hF e2 with h | h
    .exact e h
    .rw[V] at h;cases h.2
  .intro i j bi bj ti tj hi hj E a4 Q a6 e
   obtain⟨J,a1,ri⟩:=conv i bi E;obtain⟨a7,a3,rj⟩:=conv j bj a4;rw[<- ri,<- rj];exact hr.inj i j J a7 ti tj hi hj a1 a3 Q a6 e
theorem N2.kill(hr:HR F H nx w)(hb:b<nx):N2 F H nx w F (hs H b none) nx w:=by
 have O:∀ i,J0 (hs H b none) i=if i=b then none else J0 H i:=fun i=>N7 H b i _
 have back:∀ i bi,J0 (hs H b none) i=some bi->J0 H i=some bi:=by
  intro i bi E;rw[O i] at E
  by_cases e:i=b
  .simp[e] at E
  .rwa [if_neg e] at E
 refine⟨aD _,fun _ _=>rfl,rfl,rfl,rfl,aD _,fun _ _ _=>rfl,?_,?_,fun i bi E _=>⟨hr.low (back i bi E),back i bi E⟩,?_⟩
 .rintro k ⟨i,kb,ti,hi,E,U,J,rfl⟩
  exact .inl ⟨i,kb,ti,hi,back i kb E,U,J,rfl⟩
 .intro i hi Q
  rw[O i]
  by_cases e:i=b<;>simp[e,Q]
 .refine⟨fun i kb hi E=>hr.blk i kb hi (back i kb E),?_,hr.fresh,fun i hi=>by rw[O,if_neg (by omega)];exact hr.top i hi,hr.gl.step (fun _ _ _=>rfl) (by
   rintro k ⟨i,kb,ti,hi,E,U,J,rfl⟩;exact .inl ⟨i,kb,ti,hi,back i kb E,U,J,rfl⟩)⟩
  intro i j bi bj ti tj hi hj E V J W e;exact hr.inj i j bi bj ti tj hi hj (back i bi E) (back j bj V) J W e
theorem HR.name(hr:HR F H nx w){new:V3}(a5:new.isRom=false)
  (h5:∀ k,k≠t.blk->k<w.heap.size->w'.heap[k]? = w.heap[k]?)(a1:¬ Y53 F H nx t.blk)(hn:BR (upd F nx t) t new w')(a2:∀ x ∈ Q42,x.1≠t.blk):
  HR (upd F nx t) (hs H nx (some new)) (nx+1) w'/\(∀ i,i<nx->J0 H i=none->J0 (hs H nx (some new)) i=none) /\
   (∀ k,Own (upd F nx t) (hs H nx (some new)) (nx+1) k->Own F H nx k\/k=t.blk) /\
   (∀ i b,J0 (hs H nx (some new)) i=some b->b.isRom=true->i<nx/\J0 H i=some b):=by
 have W:F nx=none:=hr.fresh nx (aD _);have a6:=M19 W t;have Q:∀ i,J0 (hs H nx (some new)) i=if i=nx then some new else J0 H i:=fun i=>N7 H nx i _
 have J:∀ i,i<nx+1->i≠nx->i<nx:=fun i h e=>by omega
 have Z:∀ k,Own (upd F nx t) (hs H nx (some new)) (nx+1) k->Own F H nx k\/k=t.blk:=by
  rintro k ⟨i,kb,ti,hi,E,a7,O,rfl⟩;rw[Q i] at E
  by_cases e:i=nx
  .subst e;rw[Y6] at O;cases O;exact .inr rfl
  .rw[if_neg e] at E;rw[M5 F t e] at O
   exact .inl ⟨i,kb,ti,J i hi e,E,a7,O,rfl⟩
 refine⟨⟨?_,?_,?_,fun i hi=>by rw[Q,if_neg (by omega)];exact hr.top i (by omega),⟨hr.gl.1.step fun x hx=>h5 _ (a2 x hx) (hr.gl.1 x hx).1,fun x hx ho=>(Z _ ho).elim (hr.gl.2 x hx) (a2 x hx)⟩⟩,?_,Z,?_⟩
 .intro i kb hi E
  rw[Q i] at E
  by_cases e:i=nx
  .subst e;rw[if_pos rfl] at E;cases E;exact⟨t,Y6 _ _ _,hn⟩
  .rw[if_neg e] at E
   obtain⟨ti,O,a3⟩:=hr.blk i kb (J i hi e) E;refine⟨ti,by rw[M5 F t e];exact O,a3.mono a6 (h5 _ (fun e2=>a1 ⟨i,kb,ti,J i hi e,E,O,e2⟩) a3.lt)⟩
 .intro i j bi bj ti tj hi hj E V O U e
  rw[Q i] at E;rw[Q j] at V
  by_cases ei:i=nx<;>by_cases ej:j=nx
  .exact .inl (by rw[ei,ej])
  .exfalso
   subst ei;rw[Y6] at O;cases O;rw[if_neg ej] at V;rw[M5 F t ej] at U;exact a1 ⟨j,bj,tj,J j hj ej,V,U,e.symm⟩
  .exfalso
   subst ej;rw[Y6] at U;cases U;rw[if_neg ei] at E;rw[M5 F t ei] at O;exact a1 ⟨i,bi,ti,J i hi ei,E,O,e⟩
  .rw[if_neg ei] at E;rw[if_neg ej] at V;rw[M5 F t ei] at O;rw[M5 F t ej] at U
   exact hr.inj i j bi bj ti tj (J i hi ei) (J j hj ej) E V O U e
 .intro i hi
  rw[M5 F t (by omega)];exact hr.fresh i (by omega)
 .intro i hi a0
  rw[Q i,if_neg (by omega)];exact a0
 .intro i bi E a4
  rw[Q i] at E
  by_cases e:i=nx
  .subst e;rw[if_pos rfl] at E;cases E;rw[a5] at a4;cases a4
  .rw[if_neg e] at E;exact⟨hr.low E,E⟩
theorem N2.name{F:FM}{H:Y0}{nx:Nat}{w w':World}(hr:HR F H nx w){new:V3}(J:new.isRom=false){t:J7}
  (h1:w'.os=w.os)(h2:w'.tape=w.tape)(h3:w'.output=w.output)(h4:w.heap.size<=w'.heap.size)(h5:∀ k,k<w.heap.size->w'.heap[k]? = w.heap[k]?)
  (hn:BR (upd F nx t) t new w')(U:w.heap.size<=t.blk):
  N2 F H nx w (upd F nx t) (hs H nx (some new)) (nx+1) w':=by
 have O:¬ Y53 F H nx t.blk:=by
  rintro⟨i,kb,u,hi,hg,hF,e⟩;obtain⟨u',E,Q⟩:=hr.blk i kb hi hg;rw[hF] at E;cases E;have:=Q.lt;omega
 obtain⟨g1,g2,g3,g4⟩:=hr.name J (fun k _ hk=>h5 k hk) O hn (fun x hx e=>by have:=(hr.gl.1 x hx).1;omega);exact⟨by omega,fun i hi=>M5 F t (by omega),h1,h2,h3,h4,fun k hk _=>h5 k hk,fun k hk=>(g3 k hk).imp id (fun e=>by omega),g2,g4,g1⟩
theorem N2.rename(hr:HR F H nx w){new:V3}{t':J7}(hg:J0 H b=some old)(J:old.isRom=false)(W:new.isRom=false)(hF:F b=some t)(ht:t'.blk=t.blk)
  (h1:w'.os=w.os)(h2:w'.tape=w.tape)(h3:w'.output=w.output)(h4:w.heap.size<=w'.heap.size)(h5:∀ k,k≠t.blk->k<w.heap.size->w'.heap[k]? = w.heap[k]?)
  (hn:BR (upd F nx t') t' new w'):
  N2 F H nx w (upd F nx t') (hs (hs H b none) nx (some new)) (nx+1) w':=by
 have hb:b<nx:=hr.hb.lt hF;have hk:=N2.kill hr hb;have U:¬ Y53 F (hs H b none) nx t'.blk:=by
  rintro⟨i,kb,u,hi,E,Z,e⟩;rw[N7] at E
  by_cases ei:i=b
  .simp[ei] at E
  .rw[if_neg ei] at E
   rcases hr.inj i b kb old u t hi hb E hg Z hF (by omega) with h | h
   .exact ei h
   .rw[J] at h;cases h.2
 obtain⟨g1,g2,g3,g4⟩:=hk.hr.name W (fun k hk Q=>h5 k (by omega) Q) U hn (fun x hx e=>hr.gl.2 x hx ⟨b,old,t,hb,hg,J,hF,by omega⟩);refine⟨by omega,fun i hi=>M5 F t' (by omega),h1,h2,h3,h4,?_,?_,?_,fun i bi E V=>hk.rom i bi (g4 i bi E V).2 V,g1⟩
 .intro k hk U
  exact h5 k (fun e=>U ⟨b,old,t,hb,hg,J,hF,e.symm⟩) hk
 .intro k Q
  rcases g3 k Q with h | h
  .exact hk.own k h
  .exact .inl ⟨b,old,t,hb,hg,J,hF,by omega⟩
 .intro i hi O
  exact g2 i hi (hk.keep i hi O)
theorem Y14(w:World)(E:Obj)(k:Nat)(h:k<w.heap.size):(w.alloc E).heap[k]? = w.heap[k]? := RowKit.Below.heap_alloc w E k h
theorem E16(w:World)(E:Obj):(w.alloc E).heap[w.heap.size]? = some E:=by
 show(w.heap.push E)[w.heap.size]? = some E;simp
theorem N2.new(hr:HR F H nx w){b:V3}{O:Obj}(hn:W55 F b O):
  ∃ t,t.blk=w.heap.size/\t.base=0/\N2 F H nx w (upd F nx t) (hs H nx (some b)) (nx+1) (w.alloc O):=by
 have E:F nx=none:=hr.fresh nx (aD _)
 cases b with
 | cells c sl=>
  obtain⟨rfl,c',e,rfl,J⟩:=hn;refine⟨⟨w.heap.size,0,c.length,0,c'.size⟩,rfl,rfl,N2.name hr rfl rfl rfl rfl (by simp) (fun k hk=>Y14 w _ k hk) ?_ (aD _)⟩;refine⟨c',e,E16 w _,rfl,rfl,rfl,by have:=J.length;simp at this;simp[this],?_⟩;have hl:=J.length;simp only[List.drop_zero];rw[gJ (by omega)];exact J.mono (M19 E _)
 | map es k=>
  obtain⟨rfl,rfl⟩:=hn;refine⟨⟨w.heap.size,0,0,0,0⟩,rfl,rfl,N2.name hr rfl rfl rfl rfl (by simp) (fun k hk=>Y14 w _ k hk) ?_ (aD _)⟩;exact⟨rfl,#[],E16 w _,.nil⟩
 | rom c=>exact hn.elim
theorem Q0.vr(h:F q=some t)(hb:t.base=0)(y:Q0):VR F (y.val q) (y.real t.blk):=by
 cases y with
 | ptr=>have:=VR.ptr (o:=0) h;rw[hb] at this;exact this
 | slice l c=>have:=VR.slice (o:=0) (n:=l) (c:=c) (c':=c) h (.inl rfl);rw[hb] at this;exact this
 | map=>exact VR.map h
theorem M39{α:Type}(L vs:List α)(base o n:Nat)(h:o+vs.length<=n)(h2:base+n<=L.length):
  ((L.take (base+o)++vs++L.drop (base+o+vs.length)).drop base).take n=((L.drop base).take n).take o++vs++((L.drop base).take n).drop (o+vs.length):=by
 apply dH;intro j;have e1:min (base+o) L.length=base+o:=by omega
 have e2:min o (min n (L.length-base))=o:=by omega
 simp only[aX,dB,List.getElem?_append,bH,cK,List.length_drop,e1,e2]
 by_cases hj:j<n
 .by_cases h3:j<o
  .have a1:base+j<base+o+vs.length:=by omega
   have a2:base+j<base+o:=by omega
   have a3:j<o+vs.length:=by omega
   simp[hj,h3,a1,a3]
  .by_cases h4:j<o+vs.length
   .have a1:base+j<base+o+vs.length:=by omega
    have a2:¬ base+j<base+o:=by omega
    have a3:base+j-(base+o)=j-o:=by omega
    simp[hj,h3,h4,a1,a3]
   .have a1:¬ base+j<base+o+vs.length:=by omega
    have a3:base+o+vs.length+(base+j-(base+o+vs.length))=base+(o+vs.length+(j-(o+vs.length))):=by omega
    have a4:o+vs.length+(j-(o+vs.length))<n:=by omega
    simp[hj,h4,a1,a3,a4]
 .have a1:¬ j<o:=by omega
  have a2:¬ j<o+vs.length:=by omega
  have a3:¬ o+vs.length+(j-(o+vs.length))<n:=by omega
  simp[hj,a2,a3]
theorem K14{l l':List Value}(h:VL F l l')(h1:Z0 l=true):∀ v ∈ l',v.oneCell'=true:=by
 induction h with
 | nil=>intro v hv;cases hv
 | cons hv _ ih=>
  intro u hu;rcases aU.1 hu with rfl | hu
  .cases hv<;>first | rfl | (simp[Z0] at h1;done)
  .refine ih ?_ u hu
   cases hv<;>first | exact h1 | (simp[Z0] at h1;done)
theorem M20{β:Type}{F:FM}{H:Y0}{nx:Nat}{b o':Nat}{vs:List Value}(s':Option Nat)(z:β)(k:Y0->β):
  U12 H ⟨b,o',s'⟩ vs z k=z\/∃ H',U12 H ⟨b,o',s'⟩ vs z k=k H'/\∀(F:FM) (P:Program) (w:World) (t:J7) (E:List Value),HR F H nx w->F b=some t->VL F vs E->(∀ v ∈ E,v.oneCell'=true) ->
   ∃ w',(storeCells ⟨t.blk,t.base+o',none⟩ E).run P w = .ok () w'/\N2 F H nx w F H' nx w':=by
 unfold U12
 cases s' with
 | some q=>exact .inl rfl
 | none=>
  dsimp only;rw[Y4]
  cases hg:J0 H b with
  | none=>exact .inl rfl
  | some blk=>
   cases blk with
   | map es c=>exact .inl rfl
   | rom c=>exact .inl rfl
   | cells c sl=>
    dsimp only[aN]
    cases hb:dD (o'+vs.length) c.length with
    | false=>exact .inl rfl
    | true=>
     dsimp only[cond_true];rw[V14,G4];refine .inr ⟨_,rfl,fun F P w t E hr hF Q O => ?_⟩;have Z:o'+vs.length<=c.length:=Nat.le_of_ble_eq_true hb;have V:=hr.hb.lt hF;obtain⟨c',e,h1,h2,h3,h4,h5,h6⟩:=hr.hb.get hF hg;have J:=Q.length;have U:=run_storeCells_at P t.blk (t.base+o') e E 0 c' w h1 (by simp only[eM];omega) O;refine⟨_,U,N2.update hr V hg rfl rfl hF rfl rfl rfl (by simp) (fun k hk=>setRow_other w _ k _ hk) ?_⟩;refine⟨_,e,setRow_heap w t.blk c' _ e (0,0) h1,?_,?_,h4,?_,?_⟩
     .simp;omega
     .simp;omega
     .simp;omega
     .have e1:(c.take o'++vs++c.drop (o'+vs.length)).length=c.length:=by simp;omega
      rw[e1];simp only[eM];have W:c'.toList.length=c'.size:=by simp
      rw[M39 c'.toList E t.base o' c.length (by omega) (by omega)];rw[<- J];exact((h6.take o').append Q).append (h6.drop _)
end
section
variable {F:FM} {P:Program} {Q:Exit->Act->World->Prop} {V1:X} {a:Act} {c r:Nat} {kd:TypeDesc} {l l':List MapEntry} {o:Oper} {t:TypeId} {v:Value} {w w':World}
def EV(P:Program)(d n:Nat)(o:Oper)(T:K0 Value)(H:Y0)(nx:Nat)(v:Value)(H':Y0)(nx':Nat):Prop:=
 ∀(F:FM) (a:Act) (w:World) (K:Act->World->Prop) (Q:Exit->Act->World->Prop),OR n o F T a->HR F H nx w ->
  (∀ v' F' w',VR F' v v'->N2 F H nx w F' H' nx' w'->K (a.put o.dst v') w')->o.wp P a w K Q
def Enters (P : Program) (f : FuncId) : Prop := ∃ fn c, P.funcs[f]? = some fn /\ fn.body = some c /\ (fn.name == "runtime.NumGoroutine") = false
def CS(P:Program)(f:FuncId)(args:List Value)(H:Y0)(nx:Nat)(v:Value)(H':Y0)(nx':Nat):Prop:=
 Enters P f/\∀(F:FM) (E:List Value) (w:World),HR F H nx w->VL F args E ->
  Calls P f E.toArray w fun e w'=>∃ v' F',e = .returned v'/\VR F' v v'/\N2 F H nx w F' H' nx' w'
def E11{β:Type}(P:Program)(call:Z3 β):Prop:=
 ∀ f args H nx (z:β) k,call f args H nx z k=z\/∃ v H' nx',call f args H nx z k=k v H' nx'/\CS P f args H nx v H' nx'
theorem VR.undef(F:FM):VR F Go.undef Go.undef:=VR.tuple' .nil
theorem V25{K:Act->World->Prop}(h:(execOp a.eval o).run P w = .ok (.value v) w')(hk:K (a.put o.dst v) w'):o.wp P a w K Q:=by
 unfold Oper.wp;rw[h];exact hk
theorem J24{K:Act->World->Prop}(h:(execOp a.eval o).run P w = .ok .skip w')(hk:K (a.put o.dst Go.undef) w'):o.wp P a w K Q:=by
 unfold Oper.wp;rw[h];exact hk
theorem N57 {f:FuncId} (he:Enters P f) (args:Array Value) (w:World):(callFunc f args).run P w = .ok (.enter f args) w:=by
 obtain⟨fn,c,h1,h2,h3⟩:=he
 have E : ¬ fn.name = "runtime.NumGoroutine" := by simpa using h3
 simp[callFunc,program,Sem.run,h1,h2,E]
section
variable {β:Type} {P:Program} {d n nx:Nat} {o:Oper} {T:K0 Value} {H:Y0}
theorem Y54{c:Call}{f:Operand}{y:X}{ys:List X}(ho:o.op = .call c)(hc:c.callee = .value f)(hf:W13 n f=some y)(Z:U7 n c.args.toList=some ys){call:Z3 β}(J:E11 P call)(z:β)(k:Value->Y0->Nat->β):
  evE (.call y ys) call T H nx z k=z\/∃ v H' nx',evE (.call y ys) call T H nx z k=k v H' nx'/\EV P d n o T H nx v H' nx':=by
 show E41 y ys call T H nx z k=z\/∃ v H' nx',E41 y ys call T H nx z k=k v H' nx'/\_;unfold E41;rw[G2]
 split
 .rename_i g first cap hv
  rw[C22,V14];rcases J g (first++ys.map (ev T)++cap) H nx z k with h | ⟨v,H',nx',h,he,hcs⟩
  .exact .inl h
  .refine .inr ⟨v,H',nx',h,fun F a w K Q ht hr hk => ?_⟩
   have h1:=evX ht hf (by rw[ho];simp[eI,fL,hc]);rw[hv] at h1;have h2:=W48 ht Z (by rw[ho];intro q hq;simp[eI,fL,hc];exact .inr (by simpa using hq));generalize hq:a.eval f=q at h1
   cases h1 with
   | @func _ x x' y' y'' e1 e2 e3 e4=>
    have hx:VL F first x'.toList:=VL.ofArr e1 e2;have hy:VL F cap y''.toList:=VL.ofArr e3 e4;have E:=hcs F (x'.toList++c.args.toList.map a.eval++y''.toList) w hr ((hx.append h2).append hy);unfold Oper.wp;have U:(x'.toList++c.args.toList.map a.eval++y''.toList).toArray=x'++c.args.map a.eval++y'':=by
     apply fB.1;simp
    rw[U] at E;have O:(execOp a.eval o).run P w = .ok (.enter g (x'++c.args.map a.eval++y'')) w:=by
     simp only[execOp,ho,resolve,hc,hq,Deferred.ofValue,aS,bD,aM,invoke];exact N57 he _ w
    rw[O];simp only[Oper.upon];refine E.mono fun e w' ⟨v',F',e1,V,W⟩ => ?_
    subst e1;exact hk v' F' w' V W
 .exact .inl rfl
theorem W63{x v:Operand}{X1:X}{i:TypeInfo}(ho:o.op = .store t x v)(hx:W13 n x=some X1)(hv:W13 n v=some V1)(hi:P.info? t=some i)(call:Z3 β)(z:β)(k:Value->Y0->Nat->β):
  evE (.st X1 V1 i.size) call T H nx z k=z\/∃ u H' nx',evE (.st X1 V1 i.size) call T H nx z k=k u H' nx'/\EV P d n o T H nx u H' nx':=by
 show eSt X1 V1 i.size call T H nx z k=z\/∃ u H' nx',eSt X1 V1 i.size call T H nx z k=k u H' nx'/\_;unfold eSt;rw[G2,G2]
 split
 .rename_i a O
  obtain⟨b,o',s'⟩:=a
  cases hb:(bR (ev T V1).cells.toList.length i.size&&Z0 (ev T V1).cells.toList) with
  | false=>exact .inl rfl
  | true=>
   dsimp only[cond_true];rw[aG] at hb;rcases M20 (F:=fun _=>none) (H:=H) (nx:=nx) (b:=b) (o':=o') (vs:=(ev T V1).cells.toList) s' z (fun H=>k undef H nx) with h | ⟨H',h,hp⟩
   .exact .inl h
   .refine .inr ⟨undef,H',nx,h,fun F V w K Q ht hr hk => ?_⟩
    have h1:=evX ht hx;rw[O] at h1;obtain⟨rfl,tt,hF,he⟩:=h1.ptr_inv;have h2:=(evX ht hv).cells (G28 hb.2);obtain⟨w',J,U⟩:=hp F P w tt _ hr hF h2 (K14 h2 hb.2);have E:(V.eval v).cells.size=i.size:=by
     have a:=bT hb.1;have b:=h2.length;simp at a b;omega
    refine J24 (w':=w') ?_ (hk undef F w' (VR.undef F) U);simp only[execOp,ho,Instr.storeAt,he,Instr.sureAddr,aS,bD,aM,storeVar,E3 hi,E,ne_eq,not_true,if_false,J]
 .exact .inl rfl
theorem W25{kd:TypeDesc}{k:Value}:∀ {es:List MapEntry} {j i:Nat} {v:Value},dP kd k es j=some (some (i,v))->j<=i/\∃ e,es[i-j]? = some e/\Instr.sameNow kd k e.key=some true
 | [],j,i,v,h=>by simp[dP] at h
 | e :: es,j,i,v,h=>by
  simp only[dP] at h
  cases hs:Instr.sameNow kd k e.key with
  | none=>simp[hs] at h
  | some q=>
   cases q with
   | true=>
    simp[hs] at h;obtain⟨rfl,rfl⟩:=h;exact⟨aD _,e,by simp,hs⟩
   | false=>
    simp only[hs] at h;obtain⟨h1,e',h2,h3⟩:=W25 h;refine⟨by omega,e',?_,h3⟩;have:i-j=(i-(j+1))+1:=by omega
    rw[this];simpa using h2
theorem Z64{a b:Value}(h:Instr.sameNow kd a b=some true):Instr.sameBits 10000 b a=true:=by
 unfold Instr.sameNow at h
 split at h
 .split at h
  .rename_i e2;subst e2;simp at h;subst h;simp[Instr.sameBits]
  .cases h
 .simp only[aZ] at h
  rw[beq_toListBytes] at h;simp only[Instr.sameBits];rw[beq_toListBytes];simp at h;simp[h]
 .simp at h;subst h;simp[Instr.sameBits]
 .cases h
theorem K25{α:Type}:∀(l:List α) (i:Nat) (b:α),R26 l i b=l.set i b
 | [],i,b=>by cases i<;>rfl
 | a :: l,0,b=>rfl
 | a :: l,i+1,b=>by simp[R26,K25 l i b]
theorem EL.set{F:FM}{l l':List MapEntry}(h:EL F l l'){k v v':Value}(hk:M4 k=true)(hv:VR F v v'):∀ {i:Nat} {e e':MapEntry},l[i]? = some e->l'[i]? = some e'->EL F (l.set i ⟨k,v,e.born⟩) (l'.set i ⟨k,v',e'.born⟩)/\e.born=e'.born/\e.key=e'.key:=by
 induction h with
 | nil=>intro i e e' h;simp at h
 | @cons k0 u u' b m m' hk0 hu t ih=>
  intro i e e' h1 h2
  cases i with
  | zero=>
   simp at h1 h2;subst h1;subst h2;exact⟨.cons hk hv t,rfl,rfl⟩
  | succ i=>
   obtain⟨g1,g2⟩:=ih (by simpa using h1) (by simpa using h2);exact⟨.cons hk0 hu g1,g2⟩
theorem EL.snoc(h:EL F l l'){k v':Value}{b:Nat}(hk:M4 k=true)(hv:VR F v v'):EL F (l++[⟨k,v,b⟩]) (l'++[⟨k,v',b⟩]):=by
 induction h with
 | nil=>exact .cons hk hv .nil
 | cons E hu _ ih=>exact .cons E hu ih
theorem EL.get(h:EL F l l'){i:Nat}{e:MapEntry}(hi:l[i]? = some e):∃ e',l'[i]? = some e':=by
 have:=h.length;have hl:i<l.length:=by
  rcases aW i l.length with g | g
  .exact g
  .simp[aT g] at hi
 exact⟨l'[i],by simp[<- this,hl]⟩
theorem R15{es:Array MapEntry}(h:w.heap[r]? = some (.map es c))(o:Obj):(setObj r o).run P w = .ok () { w with heap:=w.heap.setIfInBounds r o }:=by
 simp[setObj,Sem.run,h]
theorem K31(hr:HR F H nx w){t:J7}{E:V3}{es:List MapEntry}{es':Array MapEntry}(hF:F r=some t)(hg:J0 H r=some E)(V:E.isRom=false)(O:t.base=0)(U:EL F es es'.toList):
  N2 F H nx w F (hs H r (some (.map es c))) nx { w with heap:=w.heap.setIfInBounds t.blk (.map es' c) }:=by
 have J:=(hr.hb.get hF hg).lt;refine N2.update hr (hr.hb.lt hF) hg V rfl hF rfl rfl rfl (by simp) (fun k hk => ?_) ⟨O,es',?_,U⟩
 .simp[Array.getElem?_setIfInBounds_ne (eT hk)]
 .simp[J]
theorem V41{m key v:Operand}{M1 K1:X}{kt et:TypeId}{a5:Op}(ho:o.op=a5)(a6:a5 = .mapUpdate t m key v\/a5 = .insert t m key v)(hm:W13 n m=some M1)(hk:W13 n key=some K1)(hv:W13 n v=some V1)
  (hu:P.underlying t=some (.map kt et))(Z:P.underlying kt=some kd)(call:Z3 β)(z:β)(k:Value->Y0->Nat->β):
  evE (.upd kd M1 K1 V1) call T H nx z k=z\/∃ u H' nx',evE (.upd kd M1 K1 V1) call T H nx z k=k u H' nx'/\EV P d n o T H nx u H' nx':=by
 have om:m ∈ o.op.operands/\key ∈ o.op.operands/\v ∈ o.op.operands:=by
  rcases a6 with rfl | rfl<;>rw[ho]<;>simp[eI]
 show U54 kd M1 K1 V1 call T H nx z k=z\/∃ u H' nx',U54 kd M1 K1 V1 call T H nx z k=k u H' nx'/\_;unfold U54;rw[G2,G2,G2]
 split
 .rename_i r ad
  rw[Y4]
  cases hg:J0 H r with
  | none=>exact .inl rfl
  | some blk=>
   dsimp only[aN];unfold G52
   split
   .rename_i es clock
    cases W:Q9 kd (ev T K1) with
    | false=>exact .inl rfl
    | true=>
     dsimp only[cond_true];have a0:∀(F:FM) (a:Act) (w:World),OR n o F T a->HR F H nx w->∃ tt es',F r=some tt/\a.eval m = .map (some tt.blk)/\tt.base=0/\w.heap[tt.blk]? = some (.map es' clock)/\EL F es es'.toList/\a.eval key=ev T K1/\VR F (ev T V1) (a.eval v):=by
      intro F a w ht hr;have h1:=evX ht hm om.1;rw[ad] at h1;generalize a.eval m=q at h1
      cases h1 with
      | @map _ tt hF=>
       obtain⟨V,es',hw,J⟩:=hr.hb.get hF hg;exact⟨tt,es',hF,rfl,V,hw,J,C11 (evX ht hk om.2.1) (W20 W),evX ht hv om.2.2⟩
     split
     .rename_i i u a7
      split
      .rename_i e a3
       rw[V14,G4];refine .inr ⟨undef,_,nx,rfl,fun F a w K Q ht hr U => ?_⟩;obtain⟨tt,es',hF,he,V,hw,J,a4,a1⟩:=a0 F a w ht hr;rw[Q8] at a3;obtain⟨e',E⟩:=J.get a3;obtain⟨g1,g2,g3⟩:=J.set (W20 W) a1 a3 E;obtain⟨u',O,_⟩:=(E17 (kd:=kd) (k:=ev T K1) J 0).2.2 _ _ a7;obtain⟨_,e2,q1,q2⟩:=W25 O;have hq:e2=e':=by simp at q1;rw[<- cL] at q1;rw[E] at q1;exact(fA q1).symm
       subst hq;have aa:(es'.modify i fun q=>{ q with key:=ev T K1,val:=a.eval v }).toList=es'.toList.set i ⟨ev T K1,a.eval v,e2.born⟩:=by
        apply dH;intro j;simp only[cL,Array.getElem?_modify,cQ]
        by_cases a8:i=j
        .subst a8
         have ab:i<es'.size:=by
          rcases aW i es'.size with g | g
          .exact g
          .simp[g] at E
         rw[cL] at E;have hb:=(Array.getElem?_eq_some_iff.1 E).2;simp[ab,hb]
        .simp[a8]
       have a2:=K31 (c:=clock) hr hF hg rfl V (es:=R26 es i ⟨ev T K1,ev T V1,e.born⟩) (es':=es'.modify i fun q=>{ q with key:=ev T K1,val:=a.eval v }) (by rw[K25,aa];exact g1);refine J24 ?_ (U undef F _ (VR.undef F) a2);have ac:=Z64 q2;have a9:(((es'[i]?).map (·.key)).getD (ev T K1))=e2.key:=by
        rw[cL] at E;simp[E]
       rcases a6 with rfl | rfl<;>simp only[execOp,ho,Instr.mapUpdate,aS,run_underlying hu,aM,he,M7 hw,a4,Y11 Z W _ 9999,Instr.findKey,run_underlying Z,O,bD,a9,Instr.keyThatStays,ac,if_true,R15 hw]
      .exact .inl rfl
     .rename_i a7
      rw[V14,G1,G4];refine .inr ⟨undef,_,nx,rfl,fun F a w K Q ht hr U => ?_⟩;obtain⟨tt,es',hF,he,V,hw,J,a4,a1⟩:=a0 F a w ht hr;have O:=(E17 (kd:=kd) (k:=ev T K1) J 0).2.1 a7;have a2:=K31 (c:=clock+1) hr hF hg rfl V (es:=es++[⟨ev T K1,ev T V1,clock⟩]) (es':=es'.push ⟨ev T K1,a.eval v,clock⟩) (by simpa using J.snoc (W20 W) a1);refine J24 ?_ (U undef F _ (VR.undef F) a2);rcases a6 with rfl | rfl<;>simp only[execOp,ho,Instr.mapUpdate,aS,run_underlying hu,aM,he,M7 hw,a4,Y11 Z W _ 9999,Instr.findKey,run_underlying Z,O,bD,R15 hw]
     .exact .inl rfl
   .exact .inl rfl
 .exact .inl rfl
end
end
section
variable {P:Program} {ar:Array Value} {base:Option Addr} {c' m sLen:Nat} {i:TypeInfo} {new:List Value} {ud:TypeDesc} {w:World} {x':Value}
theorem W29(F:FM):∀(l:List UInt8),VL F (l.map fun b=>cD .u8 b.toNat) (l.map fun b=>cD .u8 b.toNat)
 | [] => .nil
 | b :: l => .cons (.int _ _) (W29 F l)
theorem R21{β:Type}{H:Y0}{nx size:Nat}{x:Value}(z:β)(k:List Value->β):
  Z5 H size m x z k=z\/∃ l,Z5 H size m x z k=k l/\∀(F:FM) (P:Program) (x':Value) (w:World),VR F x x'->HB F H nx w->∃ l',(∀ w2:World,w2.heap=w.heap->(eC size m x').run P w2 = .ok l'.toArray w2)/\VL F l l':=by
 unfold Z5
 split
 .rename_i a len cap
  unfold B19;obtain⟨b,o,s⟩:=a
  cases s with
  | some q=>exact .inl rfl
  | none=>
   dsimp only;rw[Y4]
   cases hg:J0 H b with
   | none=>exact .inl rfl
   | some blk=>
    have E:∀ c,blk.row=some c->((match G5 (m*size) (c.drop o) with
      | some l=>spine l k
      | none=>z)=z\/∃ l,(match G5 (m*size) (c.drop o) with
      | some l=>spine l k
      | none=>z)=k l/\∀(F:FM) (P:Program) (x':Value) (w:World),VR F (.slice (some ⟨b,o,none⟩) len cap) x'->HB F H nx w->∃ l',(∀ w2:World,w2.heap=w.heap->(eC size m x').run P w2 = .ok l'.toArray w2)/\VL F l l'):=by
     intro c J
     split
     .rename_i l hl
      rw[V14];refine .inr ⟨l,rfl,fun F P x' w hx hb => ?_⟩;obtain⟨_,t,c',hF,rfl,_⟩:=hx.slice_inv;obtain⟨l',O,Q,_⟩:=N36 (P:=P) (hb.get hF hg) J hl;exact⟨l',fun w2 U=>by simp[eC,O w2 U],Q⟩
     .exact .inl rfl
    cases blk with
    | map es c=>exact .inl rfl
    | rom c=>exact E c rfl
    | cells c sl=>exact E c rfl
 .refine .inr ⟨[],rfl,fun F P x' w hx _=>⟨[],fun w2 _ => ?_,.nil⟩⟩
  have:=hx.sliceN_inv;subst this;simp[eC]
 .rename_i s
  rw[C20];refine .inr ⟨_,rfl,fun F P x' w hx _=>⟨_,fun w2 _ => ?_,W29 F _⟩⟩
  cases hx
  simp[eC];apply fB.1;simp[List.extract_eq_take_drop]
 .exact .inl rfl
theorem Y16{F:FM}{x:Value}(h:Y45 x=some m)(hx:VR F x x')(w:World):(gH x').run P w = .ok m w:=by
 unfold Y45 at h
 split at h
 .cases h;cases hx<;>simp[gH]
 .cases h;cases hx;simp[gH]
 .cases h
theorem R55(E c:Nat)(h:c<E):Builtin.nextslicecap E c<=2*E+1000:=by
 unfold Builtin.nextslicecap
 split
 .omega
 .split
  .omega
  .have U44:∀ r q,q<=2*E+1000->(q<E->q+(q+768)/4<=2*E+1000)->Builtin.growBy E r q<=2*E+1000:=by
    intro r
    induction r with
    | zero=>intro q hq _;exact hq
    | succ r ih=>
     intro q hq hg;simp only[Builtin.growBy]
     split
     .exact hq
     .exact ih _ (hg (by omega)) (fun h=>by omega)
   exact U44 4 c (by omega) (by omega)
theorem E49(m:Nat)(w:World):(askRoom m).run P w = .ok () w:=by
 unfold askRoom
 split
 .rfl
 .rfl
theorem G37(z:Array Value)(m:Nat):(fV z m).size=m*z.size:=by simp[fV]
section
variable {β:Type} {P:Program} {d n nx:Nat} {o:Oper} {T:K0 Value} {H:Y0}
theorem Z17{t u e:TypeId}{Q:Array TypeId}(h0:Q[0]? = some t)(h1:Q[1]? = some u)(hu:P.underlying t=some (.slice e))(W:P.underlying u=some ud)(Z:∀ k,ud ≠ .int k)(hi:P.info? e=some i)(U:ar[0]? = some (.slice base sLen c'))(V:ar[1]? = some x')(E:(gH x').run P w = .ok m w)
  (J:(eC i.size m x').run P w = .ok new.toArray w)(O:sLen+m<=c')(ty:TypeId):
  (gE Q ty ar).run P w=match base with
   | none => .ok (.slice none (sLen+m) c') w
   | some a=>((storeCells (a.add (sLen*i.size)) new).run P w).andThen fun _ w' => .ok (.slice (some a) (sLen+m) c') w':=by
 cases base with
 | none=>
  cases ud<;>first | exact absurd rfl (Z _) | simp only[gE,h0,h1,U,V,aS,run_underlying hu,run_underlying W,aM,E3 hi,bD,E,dQ,if_false,O,Bool.not_false,if_true,J]
 | some a=>
  cases ud<;>first | exact absurd rfl (Z _) | simp only[gE,h0,h1,U,V,aS,run_underlying hu,run_underlying W,aM,E3 hi,bD,E,dQ,if_false,O,Bool.not_false,if_true,J]
theorem K37{t u e:TypeId}{zv:Value}{J:Array TypeId}(h0:J[0]? = some t)(h1:J[1]? = some u)(hu:P.underlying t=some (.slice e))(Z:P.underlying u=some ud)(a5:∀ k,ud ≠ .int k)(hi:P.info? e=some i)(a0:i.zero=some zv)(a2:ar[0]? = some (.slice base sLen c'))(a3:ar[1]? = some x'){w:World}(U:(gH x').run P w = .ok m w)
  (W:c'<sLen+m)(a6:(2*(sLen+m)+1000)*i.bytes<=281474976710656)(a7:sLen+m<=1000000000){Q:List Value}(O:∀ q,(eC i.size sLen (.slice base sLen c')).run P { w with drawn:=q } = .ok Q.toArray { w with drawn:=q })
  (V:∀ q,(eC i.size m x').run P { w with drawn:=q } = .ok new.toArray { w with drawn:=q })(ty:TypeId):
  ∃ E,(sLen+m<=E/\E<=9223372036854775807)/\(gE J ty ar).run P w =
   .ok (.slice (some ⟨w.heap.size,0,none⟩) (sLen+m) E) (({ w with drawn:=w.drawn+1 }:World).alloc (.cells (Q.toArray++new.toArray++fV zv.cells (E-(sLen+m))) e (0,0))):=by
 refine⟨(sLen+m)+w.tape w.drawn (.appendCap (sLen+m) c' e)%(2^63-(sLen+m)),⟨Nat.le_add_right _ _,by
  have:=eZ (w.tape w.drawn (.appendCap (sLen+m) c' e)) (show 0<2^63-(sLen+m) by omega);omega⟩,?_⟩
 have n1:¬ (sLen+m<=c'):=by omega
 have n2:¬ (((sLen+m:Nat):Int) > IntKind.i64.max):=by
  have:IntKind.i64.max=9223372036854775807:=by decide
  rw[this];omega
 have n3:¬ (Builtin.nextslicecap (sLen+m) c'*i.bytes > 2^48):=by
  have h:=dS i.bytes (R55 (sLen+m) c' W);have e:2^48=281474976710656:=by decide
  rw[e];omega
 have a1:(choose (.appendCap (sLen+m) c' e)).run P w = .ok ((sLen+m)+w.tape w.drawn (.appendCap (sLen+m) c' e)%(2^63-(sLen+m))) { w with drawn:=w.drawn+1 }:=by
  simp[choose,Sem.run,Question.forced,Question.cut]
 have a4:∀ w,(zeroValue e).run P w = .ok zv w:=fun w=>E19 hi a0 w
 cases ud<;>first | exact absurd rfl (a5 _) | (
  simp only[gE,h0,h1,a2,a3,aS,run_underlying hu,run_underlying Z,aM,E3 hi,bD,U,dQ,if_false,n1,K8 hi,n2,false_and,n3,a1,E49,O,Bool.not_false,if_true,V,a4,W12])
theorem X24{c:Call}{s x:Operand}{t u:TypeId}{tl:List TypeId}{xl:List Operand}(ho:o.op = .call c)(hc:c.callee = .builtin .append)(J:c.argTypes.toList=t :: u :: tl)(ha:c.args.toList=s :: x :: xl)(a:Act)(w:World):
  ∃ E:Array TypeId,∃ ar:Array Value,E[0]? = some t/\E[1]? = some u/\ar[0]? = some (a.eval s)/\ar[1]? = some (a.eval x) /\
   (execOp a.eval o).run P w=((gE E o.type ar).run P w).andThen fun v w => .ok (.value v) w:=by
 refine⟨c.argTypes,c.args.map a.eval,?_,?_,?_,?_,?_⟩
 .rw[<- cL,J];rfl
 .rw[<- cL,J];rfl
 .rw[fT,<- cL,ha];rfl
 .rw[fT,<- cL,ha];rfl
 .simp[execOp,ho,resolve,hc,invoke,builtin]
end
end
section
variable {F:FM} {H:Y0} {new new' old:List Value} {w:World}
theorem X58{nx:Nat}(hr:HR F H nx w){O:List Value}(Z:VL F old O)(W:VL F new new'){J size E:Nat}{zv:Value}{e:TypeId}(q:Nat)
  (Q:(old++new).length=J*size)(a1:0<size)(hz:zv.cells.size=size)(V:J<=E)(a0:E<=9223372036854775807):
  ∃ F',N2 F H nx w F' (hs H nx (some (.cells (old++new) size))) (nx+1) (({ w with drawn:=q }:World).alloc (.cells (O.toArray++new'.toArray++fV zv.cells (E-J)) e (0,0))) /\
   VR F' (.slice (some ⟨nx,0,none⟩) J J) (.slice (some ⟨w.heap.size,0,none⟩) J E):=by
 have U:F nx=none:=hr.fresh nx (aD _);have a3:(E-J)*size=E*size-J*size:=Nat.sub_mul _ _ _;have a2:J*size<=E*size:=dS _ V;refine⟨upd F nx ⟨w.heap.size,0,J*size,size,E*size⟩,?_,?_⟩
 .refine N2.name hr rfl rfl rfl rfl (by simp) (fun k hk=>Y14 _ _ k hk) ?_ (aD _)
  have hl:=(Z.append W).length;refine⟨_,e,E16 _ _,?_,Q.symm,rfl,by rw[Q];simp;omega,?_⟩
  .simp only[Array.size_append,G37,hz]
   simp at hl Q;simp;omega
  .have hd:((O.toArray++new'.toArray++fV zv.cells (E-J)).toList.drop 0).take (old++new).length=O++new':=by
    rw[List.drop_zero,Array.toList_append,Array.toList_append];simp only[];rw[hl];exact List.take_left
   show VL _ (old++new) ((List.drop 0 _).take _);rw[hd];exact(Z.append W).mono (M19 U _)
 .have:=VR.slice (F:=upd F nx ⟨w.heap.size,0,J*size,size,E*size⟩) (b:=nx) (o:=0) (n:=J) (c:=J) (c':=E) (Y6 F nx _) (.inr ⟨a1,V,by simp,by simp,a0⟩)
  exact this
theorem B46 {nx:Nat} (P:Program) (hr:HR F H nx w) {b o':Nat} {t:J7} {c:List Value} {size:Nat} (hg:J0 H b=some (.cells c size)) (hF:F b=some t)
  {sLen m cap':Nat} {new':List Value} (hold:G5 (sLen*size) (c.drop o')=some old) (hnew:VL F new new') (hone:∀ v ∈ new',v.oneCell'=true) (hlen:(old++new).length=(sLen+m)*size) (hsz:0<size)
  (hfit:sLen+m<=cap') (hroom:t.base+o'+cap'*size<=t.rsz) (hbd:cap'<=9223372036854775807):
  ∃ F' w',(storeCells ⟨t.blk,t.base+o'+sLen*size,none⟩ new').run P w = .ok () w'/\N2 F H nx w F' (hs (hs H b none) nx (some (.cells (old++new) size))) (nx+1) w' /\
   VR F' (.slice (some ⟨nx,0,none⟩) (sLen+m) (sLen+m)) (.slice (some ⟨t.blk,t.base+o',none⟩) (sLen+m) cap'):=by
 have hfresh:F nx=none:=hr.fresh nx (Nat.le_refl _)
 obtain⟨eo,el⟩:=E31 hold
 obtain⟨c',e,h1,h2,h3,h4,h5,h6⟩:=hr.hb.get hF hg
 have hnl:=hnew.length
 have hml:new.length=m*size:=by simp[el] at hlen;rw[Nat.add_mul] at hlen;omega
 have hmul:(sLen+m)*size<=cap'*size:=Nat.mul_le_mul_right _ hfit
 have hadd:(sLen+m)*size=sLen*size+m*size:=Nat.add_mul _ _ _
 have hcl:c'.toList.length=c'.size:=by simp
 have hrun:=run_storeCells_at P t.blk (t.base+o'+sLen*size) e new' 0 c' w h1 (by simp only[Nat.add_zero];omega) hone
 simp only[Nat.add_zero] at hrun
 refine⟨upd F nx ⟨t.blk,t.base+o',(sLen+m)*size,size,t.rsz⟩,_,hrun,?_,?_⟩
 .refine N2.rename hr hg rfl rfl hF rfl rfl rfl rfl (by simp) (fun k hk _=>setRow_other w _ k _ hk) ?_
  refine⟨_,e,setRow_heap w t.blk c' _ e (0,0) h1,?_,hlen.symm,rfl,?_,?_⟩
  .simp;omega
  .rw[hlen];dsimp only;omega
  .rw[hlen]
   have hs:=M39 c'.toList new' (t.base+o') (sLen*size) ((sLen+m)*size) (by omega) (by omega)
   show VL _ _ ((List.drop (t.base+o') (_:Array Value).toList).take _)
   rw[List.toList_toArray,hs]
   have hd0:((c'.toList.drop (t.base+o')).take ((sLen+m)*size)).drop (sLen*size+new'.length)=[]:=by
    apply List.drop_eq_nil_of_le;simp;omega
   rw[hd0,List.append_nil]
   have hvo:VL F old ((((c'.toList.drop t.base).take c.length).drop o').take (sLen*size)):=by rw[eo];exact (h6.drop o').take _
   have hocl:sLen*size<=c.length-o':=by
    have hh:=el
    rw[eo] at hh
    simp at hh
    omega
   have heq:(((c'.toList.drop t.base).take c.length).drop o').take (sLen*size)=((c'.toList.drop (t.base+o')).take ((sLen+m)*size)).take (sLen*size):=by
    apply List.ext_getElem?
    intro j
    simp only[List.getElem?_take,List.getElem?_drop]
    by_cases hj:j<sLen*size
    .have a1:o'+j<c.length:=by omega
     have a2:j<(sLen+m)*size:=by omega
     simp[hj,a1,a2,Nat.add_assoc]
    .simp[hj]
   rw[<- heq]
   exact (hvo.append hnew).mono (M19 hfresh _)
 .have:=VR.slice (F:=upd F nx ⟨t.blk,t.base+o',(sLen+m)*size,size,t.rsz⟩) (b:=nx) (o:=0) (n:=sLen+m) (c:=sLen+m) (c':=cap') (Y6 F nx _) (.inr ⟨hsz,hfit,by simp,by simpa using hroom,hbd⟩)
  exact this
end
theorem B49{H:Y0}{size m b o' len cap:Nat}{s:Option Nat}{z:Option (List Value)}{l:List Value}(h:Z5 H size m (.slice (some ⟨b,o',s⟩) len cap) none some=some l):
  s=none/\∃ blk c,J0 H b=some blk/\blk.row=some c/\G5 (m*size) (c.drop o')=some l:=by
 unfold Z5 B19 at h
 cases s with
 | some q=>simp at h
 | none=>
  dsimp only at h;rw[Y4] at h
  cases hg:J0 H b with
  | none=>simp[hg] at h
  | some blk=>
   rw[hg] at h
   cases blk with
   | map es c=>simp at h
   | cells c sl=>
    dsimp only[aN] at h
    split at h
    .rename_i l' hl
     rw[V14] at h
     cases h
     exact⟨rfl,_,c,rfl,rfl,hl⟩
    .cases h
   | rom c=>
    dsimp only[aN] at h
    split at h
    .rename_i l' hl
     rw[V14] at h
     cases h
     exact⟨rfl,_,c,rfl,rfl,hl⟩
    .cases h
theorem X26{β:Type}(H:Y0)(size m:Nat)(x:Value)(z:β)(k:List Value->β):Z5 H size m x z k=(Z5 H size m x none some).elim z k:=by
 unfold Z5
 split
 .unfold B19
  split
  .rw[Y4,Y4]
   cases J0 H _ with
   | none=>rfl
   | some blk=>
    cases blk with
    | map es c=>rfl
    | cells c sl=>
     dsimp only[aN]
     split
     .rw[V14,V14];rfl
     .rfl
    | rom c=>
     dsimp only[aN]
     split
     .rw[V14,V14];rfl
     .rfl
  .rfl
 .rfl
 .rw[C20,C20];rfl
 .rfl
section
variable {β:Type} {P:Program} {d n nx:Nat} {o:Oper} {T:K0 Value} {H:Y0}
theorem Z58{c:Call}{s x:Operand}{t u e:TypeId}{ud:TypeDesc}{tl:List TypeId}{xl:List Operand}{S1 X1:X}{i:TypeInfo}{z0:List Value}(ho:o.op = .call c)(hc:c.callee = .builtin .append)
  (ab:c.argTypes.toList=t :: u :: tl)(ha:c.args.toList=s :: x :: xl)(hs:W13 n s=some S1)(hx:W13 n x=some X1)(hu:P.underlying t=some (.slice e))(ag:P.underlying u=some ud)(ae:∀ k,ud ≠ .int k)
  (c3:M10 P e=some z0)(hi:P.info? e=some i)(az:0<i.size)(call:Z3 β)(z:β)(k:Value->Y0->Nat->β):
  evE (.app S1 X1 i.size i.bytes) call T H nx z k=z\/∃ v H' nx',evE (.app S1 X1 i.size i.bytes) call T H nx z k=k v H' nx'/\EV P d n o T H nx v H' nx':=by
 have a9:s ∈ o.op.operands:=by rw[ho];simp only[eI,fL,hc];exact fQ.2 (by simp[ha])
 have a2:x ∈ o.op.operands:=by rw[ho];simp only[eI,fL,hc];exact fQ.2 (by simp[ha])
 obtain⟨it,zv,b3,bz,c6,cg,bf,ax⟩:=X14 c3;rw[hi] at b3;cases b3;have c7:zv.cells.size=i.size:=by rw[c6] at ax;simpa using ax
 show(W4 T S1 fun vs=>W4 T X1 fun vx=>Z22 H nx i.size i.bytes vs vx z k)=z\/∃ v H' nx',(W4 T S1 fun vs=>W4 T X1 fun vx=>Z22 H nx i.size i.bytes vs vx z k)=k v H' nx'/\_;rw[G2,G2];unfold Z22
 split
 .rename_i base E O m a7 ah
  rw[G1]
  cases hb:(dD ((2*(E+m)+1000)*i.bytes) 281474976710656&&dD (E+m) 1000000000) with
  | false=>exact .inl rfl
  | true=>
   dsimp only[cond_true];simp only[aG,Nat.ble_eq] at hb;obtain⟨bw,bo⟩:=hb;have aj:=R21 (H:=H) (nx:=nx) (size:=i.size) (m:=m) (x:=ev T X1) (none:Option (List Value)) some;rw[X26]
   cases b4:Z5 H i.size m (ev T X1) none some with
   | none=>exact .inl rfl
   | some new=>
    have W:∀(F:FM) (P:Program) (x':Value) (w:World),VR F (ev T X1) x'->HB F H nx w->∃ l',(∀ w2:World,w2.heap=w.heap->(eC i.size m x').run P w2 = .ok l'.toArray w2)/\VL F new l':=by
     rcases aj with h | ⟨l,h,hp⟩
     .rw[b4] at h;cases h
     .rw[b4] at h;cases h;exact hp
    dsimp only[aN]
    cases b5:Z0 new with
    | false=>exact .inl rfl
    | true=>
     dsimp only[cond_true]
     cases a1:dD (E+m) O with
     | true=>
      dsimp only[cond_true];have a1:E+m<=O:=Nat.le_of_ble_eq_true a1;unfold C42
      split
      .cases cf:bR m 0 with
       | false=>exact .inl rfl
       | true=>
        refine .inr ⟨_,_,_,rfl,fun F a w K Q ht hr hk => ?_⟩;have h1:=evX ht hs a9;rw[a7] at h1;have he:=h1.sliceN_inv;obtain⟨a0,a4,Z⟩:=W F P (a.eval x) w (evX ht hx a2) hr.hb;obtain⟨ao,ar,q0,q1,q2,q3,a6⟩:=X24 (P:=P) ho hc ab ha a w;rw[he] at q2;have U:=Z17 q0 q1 hu ag ae hi q2 q3 (Y16 ah (evX ht hx a2) w) (a4 w rfl) a1 o.type;refine V25 (v := .slice none (E+m) O) (w':=w) ?_ (hk _ F w (.sliceN _ _) (N2.refl hr));rw[a6,U];rfl
      .rename_i b o'
       rw[G1];rcases M20 (F:=fun _=>none) (H:=H) (nx:=nx) (b:=b) (o':=o'+E*i.size) (vs:=new) none z (fun H'=>k (.slice (some ⟨b,o',none⟩) (E+m) O) H' nx) with h | ⟨H',h,hp⟩
       .exact .inl h
       .refine .inr ⟨_,H',nx,h,fun F a w K Q ht hr hk => ?_⟩
        have h1:=evX ht hs a9;rw[a7] at h1;obtain⟨_,tt,c',hF,he,a5⟩:=h1.slice_inv;have cd:O<=c':=by rcases a5 with h | ⟨_,h,_⟩<;>omega
        obtain⟨a0,a4,Z⟩:=W F P (a.eval x) w (evX ht hx a2) hr.hb;obtain⟨ao,ar,q0,q1,q2,q3,a6⟩:=X24 (P:=P) ho hc ab ha a w;rw[he] at q2;have U:=Z17 q0 q1 hu ag ae hi q2 q3 (Y16 ah (evX ht hx a2) w) (a4 w rfl) (by omega) o.type;obtain⟨w',al,a3⟩:=hp F P w tt a0 hr hF Z (K14 Z b5);refine V25 (v := .slice (some ⟨tt.blk,tt.base+o',none⟩) (E+m) c') (w':=w') ?_ (hk _ F w' (.slice hF a5) a3);rw[a6,U];dsimp only;rw[X11,eH,al]
        rfl
      .exact .inl rfl
     | false=>
      dsimp only[cond_false];have bc:¬ E+m<=O:=fun h=>by rw[Nat.ble_eq_true_of_le h] at a1;cases a1
      rw[X26];have av:=R21 (H:=H) (nx:=nx) (size:=i.size) (m:=E) (x:=ev T S1) (none:Option (List Value)) some
      cases ac:Z5 H i.size E (ev T S1) none some with
      | none=>exact .inl rfl
      | some ap=>
       have aq:∀(F:FM) (P:Program) (x':Value) (w:World),VR F (ev T S1) x'->HB F H nx w->∃ l',(∀ w2:World,w2.heap=w.heap->(eC i.size E x').run P w2 = .ok l'.toArray w2)/\VL F ap l':=by
        rcases av with h | ⟨l,h,hp⟩
        .rw[ac] at h;cases h
        .rw[ac] at h;cases h;exact hp
       dsimp only[aN];rw[V14]
       cases aa:bR (ap++new).length ((E+m)*i.size) with
       | false=>exact .inl rfl
       | true=>
        dsimp only[cond_true];have aa:=bT aa;have U44:∀(F:FM) (a:Act) (w:World) (K:Act->World->Prop) (Q:Exit->Act->World->Prop) (H2:Y0),OR n o F T a->HR F H nx w->N2 F H nx w F H2 nx w ->
          (∀ J c',a.eval s = .slice J E c'->∃ b8,a.eval s = .slice J E b8/\b8<E+m) ->
          (∀ v' F' w',VR F' (.slice (some ⟨nx,0,none⟩) (E+m) (E+m)) v'->N2 F H nx w F' (Go.Clo.hs H2 nx (some (.cells (ap++new) i.size))) (nx+1) w'->K (a.put o.dst v') w')->o.wp P a w K Q:=by
         intro F a w K Q H2 ht hr ai bx hk;have h0:=evX ht hs a9;have h1:=h0;rw[a7] at h1;have an:∃ J c',a.eval s = .slice J E c':=by
          generalize a.eval s=qq at h1
          cases h1<;>exact⟨_,_,rfl⟩
         obtain⟨J,c0,c9⟩:=an;obtain⟨c',he,bh⟩:=bx J c0 c9;obtain⟨aw,bu,bv⟩:=aq F P (a.eval s) w h0 hr.hb;obtain⟨a0,a4,Z⟩:=W F P (a.eval x) w (evX ht hx a2) hr.hb;have bk:∀ q,(eC i.size E (.slice J E c')).run P { w with drawn:=q } = .ok aw.toArray { w with drawn:=q }:=by
          intro q;rw[<- he];exact bu _ rfl
         have bt:∀ q,(eC i.size m (a.eval x)).run P { w with drawn:=q } = .ok a0.toArray { w with drawn:=q }:=fun q=>a4 _ rfl
         obtain⟨ao,ar,q0,q1,q2,q3,a6⟩:=X24 (P:=P) ho hc ab ha a w;rw[he] at q2;obtain⟨bd,⟨ay,c8⟩,U⟩:=K37 q0 q1 hu ag ae hi bz q2 q3 (Y16 ah (evX ht hx a2) w) bh bw bo bk bt o.type;obtain⟨F',a3,ak⟩:=X58 (e:=e) (zv:=zv) ai.hr bv Z (w.drawn+1) aa az c7 ay c8;exact V25 (by rw[a6,U];rfl) (hk _ F' _ ak (ai.trans a3))
        unfold D22
        split
        .unfold K11
         rw[G1,G1,G4];refine .inr ⟨_,_,_,rfl,fun F a w K Q ht hr hk=>U44 F a w K Q H ht hr (N2.refl hr) ?_ hk⟩;intro J c' he;have h1:=evX ht hs a9;rw[a7] at h1;have V:=h1.sliceN_inv;rw[V] at he;cases he;exact⟨_,V,by omega⟩
        .rename_i b o'
         rw[Y4]
         cases hg:J0 H b with
         | none=>exact .inl rfl
         | some blk=>
          dsimp only[aN]
          split
          .rename_i a8
           unfold K11;rw[G1,G1,G4];refine .inr ⟨_,_,_,rfl,fun F a w K Q ht hr hk=>U44 F a w K Q H ht hr (N2.refl hr) ?_ hk⟩;intro J c' he;have h1:=evX ht hs a9;rw[a7] at h1;obtain⟨_,tt,c2,hF,V,a5⟩:=h1.slice_inv;rw[V] at he;cases he
           .obtain⟨_,ad⟩:=J20 (hr.hb.get hF hg) a8 a5
            have:c'=O:=by
             rcases Nat.decEq c' O with h | h
             .have:=(ad h).1;cases this
             .exact h
            exact⟨_,V,by omega⟩
          .rename_i a8
           rw[G4];unfold K11;rw[G1,G1,G4];refine .inr ⟨_,_,_,rfl,fun F a w K Q ht hr hk => ?_⟩;have h1:=evX ht hs a9;rw[a7] at h1;obtain⟨_,tt,c2,hF,V,a5⟩:=h1.slice_inv
           by_cases c4:c2<E+m
           .refine U44 F a w K Q _ ht hr (N2.kill hr (hr.hb.lt hF)) ?_ hk
            intro J c' he;rw[V] at he;cases he;exact⟨_,V,c4⟩
           .cases blk with
            | map es q=>simp[N8] at a8
            | rom cc=>
             obtain⟨_,ad⟩:=J20 (hr.hb.get hF hg) a8 a5;simp[N8] at a8
            | cells cc sl=>
             obtain⟨_,ad⟩:=J20 (hr.hb.get hF hg) a8 a5;obtain⟨_,g2,g3,g4,g5,g6⟩:=ad (by omega);have an:sl=i.size:=by
              obtain⟨_,_,_,_,_,h4,_⟩:=hr.hb.get hF hg;omega
             subst an;rw[a7] at ac;obtain⟨_,ca,ce,ba,au,bg⟩:=B49 (z:=none) ac;rw[hg] at ba;cases ba;cases au;obtain⟨a0,a4,Z⟩:=W F P (a.eval x) w (evX ht hx a2) hr.hb;obtain⟨F',w',al,a3,ak⟩:=B46 P hr hg hF bg Z (K14 Z b5) aa az (by omega) g5 g6;obtain⟨ao,ar,q0,q1,q2,q3,a6⟩:=X24 (P:=P) ho hc ab ha a w;rw[V] at q2;have U:=Z17 q0 q1 hu ag ae hi q2 q3 (Y16 ah (evX ht hx a2) w) (a4 w rfl) (by omega) o.type;refine V25 (v := .slice (some ⟨tt.blk,tt.base+o',none⟩) (E+m) c2) (w':=w') ?_ (hk _ F' w' ak a3);rw[a6,U];dsimp only;rw[X11,al]
             rfl
          .exact .inl rfl
        .exact .inl rfl
 .exact .inl rfl
end
section
variable {X1:X} {c:Call} {d n:Nat} {e t:TypeId} {x:Operand} {β:Type}
section
variable {β:Type} {P:Program} {d n nx:Nat} {o:Oper} {T:K0 Value} {H:Y0}
theorem C52{s:Operand}{tl:List TypeId}{xl:List Operand}{S1:X}{i:TypeInfo}(ho:o.op = .call c)(hc:c.callee = .builtin .copy)
  (a9:c.argTypes.toList=t :: tl)(ha:c.args.toList=s :: x :: xl)(hs:W13 n s=some S1)(hx:W13 n x=some X1)(hu:P.underlying t=some (.slice e))(hi:P.info? e=some i)(call:Z3 β)(z:β)(k:Value->Y0->Nat->β):
  evE (.copy S1 X1 i.size) call T H nx z k=z\/∃ v H' nx',evE (.copy S1 X1 i.size) call T H nx z k=k v H' nx'/\EV P d n o T H nx v H' nx':=by
 have a6:s ∈ o.op.operands:=by rw[ho];simp only[eI,fL,hc];exact fQ.2 (by simp[ha])
 have O:x ∈ o.op.operands:=by rw[ho];simp only[eI,fL,hc];exact fQ.2 (by simp[ha])
 have a4:∀(a:Act) (w:World),(execOp a.eval o).run P w=((Builtin.copy_ c.argTypes o.type (c.args.map a.eval)).run P w).andThen fun v w => .ok (.value v) w:=by
  intro a w;simp[execOp,ho,resolve,hc,invoke,builtin]
 have q0:c.argTypes[0]? = some t:=by rw[<- cL,a9];rfl
 have q1:∀ a:Act,(c.args.map a.eval)[0]? = some (a.eval s):=fun a=>by rw[fT,<- cL,ha];rfl
 have q2:∀ a:Act,(c.args.map a.eval)[1]? = some (a.eval x):=fun a=>by rw[fT,<- cL,ha];rfl
 show B41 S1 X1 i.size call T H nx z k=z\/∃ v H' nx',B41 S1 X1 i.size call T H nx z k=k v H' nx'/\_;unfold B41;rw[G2,G2]
 split
 .rename_i base E cap m a3 a2
  rw[G1];have a8:=R21 (H:=H) (nx:=nx) (size:=i.size) (m:=Nat.min m E) (x:=ev T X1) (none:Option (List Value)) some;rw[X26]
  cases a1:Z5 H i.size (Nat.min m E) (ev T X1) none some with
  | none=>exact .inl rfl
  | some cs=>
   have W:∀(F:FM) (P:Program) (x':Value) (w:World),VR F (ev T X1) x'->HB F H nx w->∃ l',(∀ w2:World,w2.heap=w.heap->(eC i.size (Nat.min m E) x').run P w2 = .ok l'.toArray w2)/\VL F cs l':=by
    rcases a8 with h | ⟨l,h,hp⟩
    .rw[a1] at h;cases h
    .rw[a1] at h;cases h;exact hp
   dsimp only[aN]
   cases aa:Z0 cs with
   | false=>exact .inl rfl
   | true=>
    dsimp only[cond_true]
    split
    .refine .inr ⟨_,_,_,rfl,fun F a w K Q ht hr hk => ?_⟩
     have h1:=evX ht hs a6;rw[a3] at h1;have he:=h1.sliceN_inv;obtain⟨Z,V,U⟩:=W F P (a.eval x) w (evX ht hx O) hr.hb;refine V25 (v := .int .i64 (.ofNat (Nat.min m E))) (w':=w) ?_ (hk _ F w (.int _ _) (N2.refl hr));rw[a4];have J:=q1 a;rw[he] at J;simp only[Builtin.copy_,q0,J,q2 a,aS,run_underlying hu,aM,Y16 a2 (evX ht hx O) w,E3 hi,V w rfl,bD,goInt]
     rfl
    .rename_i a0
     obtain⟨b,o',s'⟩:=a0
     cases s' with
     | some s0=>exact .inl (by unfold U12;rfl)
     | none=>
     rcases M20 (F:=fun _=>none) (H:=H) (nx:=nx) (b:=b) (o':=o') (vs:=cs) none z (fun H=>k (.int .i64 (.ofNat (Nat.min m E))) H nx) with h | ⟨H',h,hp⟩
     .exact .inl h
     .refine .inr ⟨_,H',nx,h,fun F a w K Q ht hr hk => ?_⟩
      have h1:=evX ht hs a6;rw[a3] at h1;obtain⟨_,tt,c',hF,he,_⟩:=h1.slice_inv;obtain⟨Z,V,U⟩:=W F P (a.eval x) w (evX ht hx O) hr.hb;obtain⟨w',a7,a5⟩:=hp F P w tt Z hr hF U (K14 U aa);refine V25 (v := .int .i64 (.ofNat (Nat.min m E))) (w':=w') ?_ (hk _ F w' (.int _ _) a5);rw[a4];have J:=q1 a;rw[he] at J;simp only[Builtin.copy_,q0,J,q2 a,aS,run_underlying hu,aM,Y16 a2 (evX ht hx O) w,E3 hi,V w rfl,bD,goInt,a7]
      rfl
 .exact .inl rfl
theorem D55{kt et:TypeId}(ho:o.op = .call c)(hc:c.callee = .builtin .clear)
  (V:c.argTypes.toList=[t])(ha:c.args.toList=[x])(hx:W13 n x=some X1)(hu:P.underlying t=some (.map kt et))(call:Z3 β)(z:β)(k:Value->Y0->Nat->β):
  evE (.clrM X1) call T H nx z k=z\/∃ v H' nx',evE (.clrM X1) call T H nx z k=k v H' nx'/\EV P d n o T H nx v H' nx':=by
 have J:x ∈ o.op.operands:=by rw[ho];simp only[eI,fL,hc];exact fQ.2 (by simp[ha])
 have O:∀(a:Act) (w:World),(execOp a.eval o).run P w=((fX c.argTypes o.type (c.args.map a.eval)).run P w).andThen fun v w => .ok (.value v) w:=by
  intro a w;simp[execOp,ho,resolve,hc,invoke,builtin]
 have q0:c.argTypes[0]? = some t:=by rw[<- cL,V];rfl
 have q1:∀ a:Act,(c.args.map a.eval)[0]? = some (a.eval x):=fun a=>by rw[fT,<- cL,ha];rfl
 show Y42 X1 call T H nx z k=z\/∃ v H' nx',Y42 X1 call T H nx z k=k v H' nx'/\_;unfold Y42;rw[G2]
 split
 .rename_i hv
  refine .inr ⟨undef,H,nx,rfl,fun F a w K Q ht hr hk => ?_⟩;have h1:=evX ht hx J;rw[hv] at h1;have he:a.eval x = .map none:=by
   generalize a.eval x=q at h1
   cases h1;rfl
  refine V25 (v := .tuple #[]) (w':=w) ?_ (hk _ F w (VR.undef F) (N2.refl hr));rw[O];have E:=q1 a;rw[he] at E;simp only[fX,q0,E,aS,run_underlying hu,aM,bD]
 .rename_i r hv
  rw[Y4]
  cases hg:J0 H r with
  | none=>exact .inl rfl
  | some blk=>
   dsimp only[aN]
   split
   .rename_i es clock
    rw[G4];refine .inr ⟨undef,_,nx,rfl,fun F a w K Q ht hr hk => ?_⟩;have h1:=evX ht hx J;rw[hv] at h1;obtain⟨tt,hF,he⟩:∃ tt,F r=some tt/\a.eval x = .map (some tt.blk):=by
     generalize a.eval x=q at h1
     cases h1 with
     | map hF=>exact⟨_,hF,rfl⟩
    obtain⟨W,es',hw,Z⟩:=hr.hb.get hF hg;have U:=K31 (c:=clock) hr hF hg rfl W (es:=[]) (es' := #[]) .nil;refine V25 (v := .tuple #[]) ?_ (hk _ F _ (VR.undef F) U);rw[O];have E:=q1 a;rw[he] at E;simp only[fX,q0,E,aS,run_underlying hu,aM,bD,M7 hw,R15 hw]
   .exact .inl rfl
 .exact .inl rfl
theorem M53{zero:List Value}(ho:o.op = .call c)(hc:c.callee = .builtin .clear)
  (a2:c.argTypes.toList=[t])(ha:c.args.toList=[x])(hx:W13 n x=some X1)(hu:P.underlying t=some (.slice e))(hz:M10 P e=some zero)(call:Z3 β)(z:β)(k:Value->Y0->Nat->β):
  evE (.clrS X1 zero) call T H nx z k=z\/∃ v H' nx',evE (.clrS X1 zero) call T H nx z k=k v H' nx'/\EV P d n o T H nx v H' nx':=by
 have J:x ∈ o.op.operands:=by rw[ho];simp only[eI,fL,hc];exact fQ.2 (by simp[ha])
 have O:∀(a:Act) (w:World),(execOp a.eval o).run P w=((fX c.argTypes o.type (c.args.map a.eval)).run P w).andThen fun v w => .ok (.value v) w:=by
  intro a w;simp[execOp,ho,resolve,hc,invoke,builtin]
 have q0:c.argTypes[0]? = some t:=by rw[<- cL,a2];rfl
 have q1:∀ a:Act,(c.args.map a.eval)[0]? = some (a.eval x):=fun a=>by rw[fT,<- cL,ha];rfl
 obtain⟨it,zv,a4,a0,rfl,Z,a6,a7⟩:=X14 hz;show W42 X1 zv.cells.toList call T H nx z k=z\/∃ v H' nx',W42 X1 zv.cells.toList call T H nx z k=k v H' nx'/\_;unfold W42;rw[G2]
 split
 .rename_i m cp hv
  refine .inr ⟨undef,H,nx,rfl,fun F a w K Q ht hr hk => ?_⟩;have h1:=evX ht hx J;rw[hv] at h1;have he:=h1.sliceN_inv;refine V25 (v := .tuple #[]) (w':=w) ?_ (hk _ F w (VR.undef F) (N2.refl hr));rw[O];have E:=q1 a;rw[he] at E;simp only[fX,q0,E,aS,run_underlying hu,aM,bD]
 .rename_i b o' m cp hv
  cases hm:bR m 0 with
  | true=>
   have W:m=0:=bT hm;subst W;refine .inr ⟨undef,H,nx,rfl,fun F a w K Q ht hr hk => ?_⟩;have h1:=evX ht hx J;rw[hv] at h1;obtain⟨_,tt,c',hF,he,_⟩:=h1.slice_inv;refine V25 (v := .tuple #[]) (w':=w) ?_ (hk _ F w (VR.undef F) (N2.refl hr));rw[O];have E:=q1 a;rw[he] at E;simp only[fX,q0,E,aS,run_underlying hu,aM,bD]
  | false=>
   have W:m≠0:=fun e=>by subst e;simp at hm
   simp only[cond_false]
   cases a3:Z0 (Q19 zv.cells.toList m) with
   | false=>exact .inl rfl
   | true=>
    simp only[cond_true];rcases M20 (F:=fun _=>none) (H:=H) (nx:=nx) (b:=b) (o':=o') (vs:=Q19 zv.cells.toList m) none z (fun H=>k undef H nx) with h | ⟨H',h,hp⟩
    .exact .inl h
    .refine .inr ⟨_,H',nx,h,fun F a w K Q ht hr hk => ?_⟩
     have h1:=evX ht hx J;rw[hv] at h1;obtain⟨_,tt,c',hF,he,_⟩:=h1.slice_inv;have U:VL F (Q19 zv.cells.toList m) (Q19 zv.cells.toList m):=VL.repeat (X12 Z F) m;obtain⟨w',a1,V⟩:=hp F P w tt _ hr hF U (K14 U a3);refine V25 (v := .tuple #[]) (w':=w') ?_ (hk _ F w' (VR.undef F) V);rw[O];have E:=q1 a;rw[he] at E;have a5:(fV zv.cells m).toList=Q19 zv.cells.toList m:=B16 zv.cells m;obtain⟨m',rfl⟩:∃ m',m=m'+1:=⟨m-1,by omega⟩
     simp only[fX,q0,E,aS,run_underlying hu,aM,bD,E19 a4 a0,a5,a1]
 .exact .inl rfl
theorem C60 {i : IE} (hI : W18 P n o = some (.e i)) {call : Z3 β} (hcall : E11 P call) (z : β) (k : Value -> Y0 -> Nat -> β) :
    evE i call T H nx z k = z \/ ∃ v H' nx', evE i call T H nx z k = k v H' nx' /\ EV P d n o T H nx v H' nx' := by
  have h := (E20 hI).resolve_right (by simp)
  clear hI
  unfold G19 at h
  split at h
  case h_24 =>
    rename_i t x v ho
    split at h
    · rename_i h1 h2 h3; cases h; exact W63 ho h1 h2 h3 call z k
    · cases h
  case h_25 =>
    rename_i t m key v ho
    split at h
    · rename_i h1 h2 h3 h4
      cases hk : P.underlying _ with
      | none => rw [hk] at h; cases h
      | some kd => rw [hk] at h; cases h; exact V41 ho (.inl rfl) h1 h2 h3 h4 hk call z k
    · cases h
  case h_28 =>
    rename_i t m key v ho
    split at h
    · rename_i h1 h2 h3 h4
      cases hk : P.underlying _ with
      | none => rw [hk] at h; cases h
      | some kd => rw [hk] at h; cases h; exact V41 ho (.inr rfl) h1 h2 h3 h4 hk call z k
    · cases h
  case h_26 =>
    rename_i c ho
    split at h
    case h_1 =>
      rename_i f hc
      split at h
      · rename_i h1 h2; cases h; exact Y54 ho hc h1 h2 hcall z k
      · cases h
    case h_2 =>
      rename_i hc
      split at h
      · rename_i t u tl s x xl h1 h2
        split at h
        · rename_i g1 g2 g3 g4
          split at h
          · rename_i z0 inf g5 g6
            split at h
            · cases h
            · rename_i hud
              cases hb : Nat.blt 0 inf.size with
              | false => rw [hb] at h; cases h
              | true => rw [hb] at h; cases h; exact Z58 ho hc h1 h2 g1 g2 g3 g4 (fun k' e => hud k' e) g5 g6 (by simpa using hb) call z k
          · cases h
        · cases h
      · cases h
    case h_3 =>
      rename_i hc
      split at h
      · rename_i t tl s x xl h1 h2
        split at h
        · rename_i g1 g2 g3
          cases hk : P.info? _ with
          | none => rw [hk] at h; cases h
          | some inf => rw [hk] at h; cases h; exact C52 ho hc h1 h2 g1 g2 g3 hk call z k
        · cases h
      · cases h
    all_goals first
      | (cases h; done)
      | (split at h <;> cases h; done)
      | (rename_i hc; split at h
         · rename_i t x h1 h2
           split at h
           · rename_i g1 g2; cases h; exact D55 ho hc h1 h2 g1 g2 call z k
           · rename_i g1 g2
             cases hz : M10 P _ with
             | none => rw [hz] at h; cases h
             | some zero => rw [hz] at h; cases h; exact M53 ho hc h1 h2 g1 g2 hz call z k
           · cases h
         · cases h
         done)
      | (repeat' (first | (cases h; done) | split at h))
      | skip
    all_goals first
      | (rw [Bool.cond_eq_ite] at h; split at h <;> cases h; done)
      | (rw [Option.map_eq_some_iff] at h; obtain ⟨_, _, h⟩ := h; cases h; done)
  all_goals first
    | (cases h; done)
    | (split at h <;> cases h; done)
    | (repeat' (first | (cases h; done) | split at h))
    | skip
  all_goals first
    | (rw [Bool.cond_eq_ite] at h; split at h <;> cases h; done)
    | (rw [Option.map_eq_some_iff] at h; obtain ⟨_, _, h⟩ := h; cases h; done)
end
theorem TR.put{d:Nat}{F:FM}{T:K0 Value}{n:Nat}{a:Act}(ht:TR d F T n a.tmps){t:Nat}(J:t<n){v v':Value}(hv:VR F v v'):TR d F (ts d T t v) n (a.put (some t) v').tmps:=by
 have E:∀ j,j<n->j<2^d:=fun j hj=>aO hj ht.le
 refine⟨U16 d T t v ht.wf,by simp[Act.put,ht.size],ht.le,fun j hj => ?_⟩;rw[K21 d T t j v ht.wf (E t J) (E j hj)]
 by_cases e:j=t
 .subst e
  simp[Act.put,ht.size,hj];exact hv
 .have:=ht.get j hj
  simp only[e,if_false];have e2:(a.put (some t) v').tmps.getD j undef=a.tmps.getD j undef:=by
   simp[Act.put,Array.getElem?_setIfInBounds_ne (eT e)]
  rw[e2];exact this
def U8(n:Nat)(W:List Nat)(T T':K0 Value):Prop:=∀ j,j<n->j ∉ W->(tg T' j).getD undef=(tg T j).getD undef
theorem U8.refl(n:Nat)(W:List Nat)(T:K0 Value):U8 n W T T:=fun _ _ _=>rfl
theorem U8.trans{n:Nat}{W W':List Nat}{T T1 T2:K0 Value}(h:U8 n W T T1)(h':U8 n W' T1 T2):U8 n (W++W') T T2:=fun j hj hn=>by
 rw[dN] at hn;exact(h' j hj (fun h=>hn (.inr h))).trans (h j hj (fun h=>hn (.inl h)))
theorem U8.mono{W W':List Nat}{T T1:K0 Value}(h:U8 n W T T1)(hs:∀ j ∈ W,j ∈ W'):U8 n W' T T1:=fun j hj hn=>h j hj (fun hh=>hn (hs j hh))
theorem Z66{t:Nat}{T:K0 Value}(hn:n<=2^d)(ht:t<n)(hw:WF d T)(v:Value):U8 n [t] T (ts d T t v):=fun j hj E=>by
 rw[K21 d T t j v hw (by omega) (by omega),if_neg (by simpa using E)]
theorem R14{dst:Option Nat}{v:Value}{T:K0 Value}(k:K0 Value->β):
  ∃ T',E4 d dst v T k=k T'/\(WF d T->WF d T'/\∀ n,n<=2^d->(∀ t,dst=some t->t<n)->U8 n dst.toList T T')/\∀(F:FM) (n:Nat) (a:Act) (v':Value),(∀ t,dst=some t->t<n)->TR d F T n a.tmps->VR F v v'->TR d F T' n (a.put dst v').tmps:=by
 cases dst with
 | none=>exact⟨T,rfl,fun h=>⟨h,fun n _ _=>U8.refl _ _ _⟩,fun F n a v' _ ht _=>ht⟩
 | some t=>
  refine⟨ts d T t v,Z15 d T t v k,fun h=>⟨U16 d T t v h,fun n hn E=>Z66 hn (E t rfl) h v⟩,fun F n a v' E ht hv=>ht.put (E t rfl) hv⟩
def GR(g:Option (Nat × Bool))(F:FM)(T:K0 Value)(a:Act):Prop:=∀ t E,g=some (t,E)->t<a.tmps.size/\VR F ((tg T t).getD undef) (a.tmps.getD t undef)
theorem B28{ops:List Oper}{o:Oper}{g:Option (Nat × Bool)}(hg:W16 n ops o.guard=some g)(T:K0 Value)(z Q no:β):
  V8 g T z Q no=z\/(V8 g T z Q no=Q/\∀(F:FM) (a:Act),GR g F T a->fE o (yielded ops.toArray a.tmps)=true) \/
  (V8 g T z Q no=no/\∀(F:FM) (a:Act),GR g F T a->fE o (yielded ops.toArray a.tmps)=false):=by
 cases O:o.guard with
 | none=>
  rw[O] at hg;simp[W16] at hg;subst hg;exact .inr (.inl ⟨rfl,fun F a _=>by simp[fE,O]⟩)
 | some jw=>
  obtain⟨j,E⟩:=jw;rw[O] at hg;simp only[W16] at hg
  cases hj:nth ops j with
  | none=>simp[hj] at hg
  | some oj=>
   cases hd:oj.dst with
   | none=>simp[hj,hd] at hg
   | some t=>
    simp only[hj,hd] at hg
    cases hb:dE t n with
    | false=>rw[hb] at hg;cases hg
    | true=>
     rw[hb] at hg;cases hg;have hy:∀(F:FM) (a:Act),GR (some (t,E)) F T a->∃ v',VR F ((tg T t).getD undef) v'/\yielded ops.toArray a.tmps j=(match v' with | .bool b=>some b | _=>none):=by
      intro F a ht;obtain⟨U,J⟩:=ht t E rfl;refine⟨a.tmps.getD t undef,J,?_⟩;rw[Q8] at hj;simp only[yielded,List.getElem?_toArray,hj,Option.bind_some,hd,Array.getElem?_eq_getElem U];have:a.tmps.getD t undef=a.tmps[t]:=by simp[U]
      rw[this]
      cases a.tmps[t]<;>rfl
     unfold V8;dsimp only;rw[J11]
     cases hv:tg T t with
     | none=>
      refine .inr (.inr ⟨rfl,fun F a ht => ?_⟩);obtain⟨v',J,he⟩:=hy F a ht;rw[hv] at J
      cases J
      simp[fE,O,he]
     | some v=>
      dsimp only[aN]
      split
      .rename_i b
       rw[E14];have key:∀(F:FM) (a:Act),GR (some (t,E)) F T a->fE o (yielded ops.toArray a.tmps)=cond b E (!E):=by
        intro F a ht;obtain⟨v',J,he⟩:=hy F a ht;rw[hv] at J;have:=VR.bool_inv J;subst this;simp only[fE,O,he]
        cases b<;>cases E<;>rfl
       cases hc:cond b E (!E) with
       | true=>exact .inr (.inl ⟨rfl,fun F a ht=>by rw[key F a ht,hc]⟩)
       | false=>exact .inr (.inr ⟨rfl,fun F a ht=>by rw[key F a ht,hc]⟩)
      .exact .inl rfl
      .rename_i W V
       refine .inr (.inr ⟨rfl,fun F a ht => ?_⟩);obtain⟨v',J,he⟩:=hy F a ht;rw[hv] at J;simp only[Option.getD_some] at J;have:∀ b,v' ≠ .bool b:=by
        intro b hb;subst hb
        cases J
        .exact V _ rfl
        .exact W b rfl
       simp only[fE,O,he]
       cases v'<;>first | rfl | exact absurd rfl (this _)
end
section
variable {n:Nat} {o:Oper} {ops:List Oper} {s:S}
theorem D8(a:Act)(dst:Option Tmp)(v:Value):(a.put dst v).defers=a.defers:=by cases dst<;>rfl
theorem E63{t:Option Tmp}{r:Option Nat}(h:E42 n t=some r):r=t/\∀ q,t=some q->q<n:=by
 cases t with
 | none=>simp[E42] at h;exact⟨h.symm,fun q hq=>by cases hq⟩
 | some t=>
  simp only[E42] at h
  cases hb:dE t n with
  | false=>rw[hb] at h;cases h
  | true=>rw[hb] at h;cases h;exact⟨rfl,fun q hq=>by cases hq;simpa using hb⟩
theorem M16{P:Program}(h:K16 P n ops o=some s):W16 n ops o.guard=some s.guard/\s.dst=o.dst/\(∀ q,o.dst=some q->q<n)/\W18 P n o=some s.i:=by
 unfold K16 at h
 split at h
 .rename_i g d i h1 h2 h3
  cases h
  obtain⟨e1,e2⟩:=E63 h2;exact⟨h1,e1,e2,h3⟩
 .cases h
theorem TR.gr{d:Nat}{F:FM}{T:K0 Value}{a:Act}(ht:TR d F T n a.tmps){g:Option (Nat × Bool)}(hg:W16 n ops o.guard=some g):GR g F T a:=by
 intro t O e;subst e;have E:t<n:=by
  cases J:o.guard with
  | none=>rw[J] at hg;simp[W16] at hg
  | some jw=>
   obtain⟨j,w⟩:=jw;rw[J] at hg;simp only[W16] at hg
   split at hg
   .split at hg
    .rename_i t' _
     cases hb:dE t' n with
     | false=>rw[hb] at hg;cases hg
     | true=>rw[hb] at hg;cases hg;simpa using hb
    .cases hg
   .cases hg
 exact⟨by rw[ht.size];exact E,ht.get t E⟩
def E69(P:Program)(d n:Nat)(ops:List Oper)(o:Oper)(T:K0 Value)(H:Y0)(nx:Nat)(T':K0 Value)(H':Y0)(nx':Nat):Prop:=
 ∀(F:FM) (a:Act) (w:World) (K:Act->World->Prop) (Q:Exit->Act->World->Prop),TR d F T n a.tmps->HR F H nx w ->
  (∀ F' a' w',TR d F' T' n a'.tmps->N2 F H nx w F' H' nx' w'->a'.defers=a.defers->K a' w') ->
  if fE o (yielded ops.toArray a.tmps) then o.wp P a w K Q\/(o.asks P a w/\LetsOut Q) else K (a.put o.dst undef) w
section
variable {β:Type} {P:Program} {d n:Nat} {ops:List Oper}
theorem R53(hs:K16 P n ops o=some s)(hn:n<=2^d){call:Z3 β}(W:E11 P call)(T:K0 Value)(H:Y0)(nx:Nat)(z:β)(k:K0 Value->Y0->Nat->β):
  U18 P d call s T H nx z k=z\/∃ T' H' nx',U18 P d call s T H nx z k=k T' H' nx'/\(WF d T->WF d T'/\U8 n s.dst.toList T T')/\E69 P d n ops o T H nx T' H' nx':=by
 obtain⟨hg,hd,J,hi⟩:=M16 hs;obtain⟨g,dst,i⟩:=s;dsimp only at hg hd hi;subst hd;show V8 g T z (V30 i P d o.dst call T H nx z k) (E4 d o.dst undef T fun T=>k T H nx)=z\/∃ T' H' nx',V8 g T z (V30 i P d o.dst call T H nx z k) (E4 d o.dst undef T fun T=>k T H nx)=k T' H' nx'/\_;rcases B28 hg T z (V30 i P d o.dst call T H nx z k) (E4 d o.dst undef T fun T=>k T H nx) with e | ⟨e,hw⟩ | ⟨e,hw⟩
 .exact .inl e
 .rw[e]
  cases i with
  | p i=>
   show C54 i P d o.dst call T H nx z k=z\/∃ T' H' nx',C54 i P d o.dst call T H nx z k=k T' H' nx'/\_;unfold C54;rcases K61 (P:=P) (d:=d) (T:=T) hi z (fun v=>E4 d o.dst v T fun T=>k T H nx) with h | ⟨v,h,hp⟩
   .exact .inl h
   .obtain⟨T',O,E,hT⟩:=R14 (d:=d) (dst:=o.dst) (v:=v) (T:=T) (fun T=>k T H nx)
    refine .inr ⟨T',H,nx,by rw[h,O],fun h=>⟨(E h).1,(E h).2 n hn J⟩,fun F a w K Q ht hr hk => ?_⟩;rw[if_pos (hw F a (ht.gr hg))];obtain⟨v',U,hv⟩:=hp F a w (ht.or o);exact .inl (V25 U (hk F _ w (hT F n a v' J ht hv) (N2.refl hr) (D8 a _ _)))
  | r i=>
   show K56 i P d o.dst call T H nx z k=z\/∃ T' H' nx',K56 i P d o.dst call T H nx z k=k T' H' nx'/\_;unfold K56;rcases U34 (P:=P) (d:=d) (T:=T) (H:=H) (nx:=nx) hi z (fun v=>E4 d o.dst v T fun T=>k T H nx) with h | ⟨v,h,hp⟩
   .exact .inl h
   .obtain⟨T',O,E,hT⟩:=R14 (d:=d) (dst:=o.dst) (v:=v) (T:=T) (fun T=>k T H nx)
    refine .inr ⟨T',H,nx,by rw[h,O],fun h=>⟨(E h).1,(E h).2 n hn J⟩,fun F a w K Q ht hr hk => ?_⟩;rw[if_pos (hw F a (ht.gr hg))];obtain⟨v',U,hv⟩:=hp F a w (ht.or o) hr.hb;exact .inl (V25 U (hk F _ w (hT F n a v' J ht hv) (N2.refl hr) (D8 a _ _)))
  | a i=>
   show Z42 i P d o.dst call T H nx z k=z\/∃ T' H' nx',Z42 i P d o.dst call T H nx z k=k T' H' nx'/\_;unfold Z42
   .rcases W57 (P:=P) (d:=d) (T:=T) hi z (J36 d o.dst T H nx k) with h | ⟨b,y,h,hp⟩
    .exact .inl h
    .unfold J36 at h
     rw[G4,G1,E7] at h;obtain⟨T',O,E,hT⟩:=R14 (d:=d) (dst:=o.dst) (v:=y.val nx) (T:=T) (fun T=>k T (Go.Clo.hs H nx (some b)) (nx+1));rw[O] at h;refine .inr ⟨T',_,nx+1,h,fun h=>⟨(E h).1,(E h).2 n hn J⟩,fun F a w K Q ht hr hk => ?_⟩;rw[if_pos (hw F a (ht.gr hg))];obtain⟨a0,U,Z⟩:=hp F a w (ht.or o);obtain⟨t,e1,e2,V⟩:=N2.new hr Z;have hv:VR (upd F nx t) (y.val nx) (y.real w.heap.size):=by rw[<- e1];exact Q0.vr (Y6 F nx t) e2 y
     exact .inl (V25 U (hk _ _ _ (hT _ n a _ J (ht.mono (V.fle hr)) hv) V (D8 a _ _)))
  | e i=>
   show N53 i P d o.dst call T H nx z k=z\/∃ T' H' nx',N53 i P d o.dst call T H nx z k=k T' H' nx'/\_;unfold N53;rcases C60 (P:=P) (d:=d) (T:=T) (H:=H) (nx:=nx) hi W z (fun v H nx=>E4 d o.dst v T fun T=>k T H nx) with h | ⟨v,H',nx',h,hp⟩
   .exact .inl h
   .obtain⟨T',O,E,hT⟩:=R14 (d:=d) (dst:=o.dst) (v:=v) (T:=T) (fun T=>k T H' nx')
    refine .inr ⟨T',H',nx',by rw[h,O],fun h=>⟨(E h).1,(E h).2 n hn J⟩,fun F a w K Q ht hr hk => ?_⟩;rw[if_pos (hw F a (ht.gr hg))];refine .inl (hp F a w K Q (ht.or o) hr fun v' F' w' hv V => ?_);exact hk F' _ w' (hT F' n a v' J (ht.mono (V.fle hr)) hv) V (D8 a _ _)
 .rw[e]
  obtain⟨T',O,E,hT⟩:=R14 (d:=d) (dst:=o.dst) (v:=undef) (T:=T) (fun T=>k T H nx);refine .inr ⟨T',H,nx,O,fun h=>⟨(E h).1,(E h).2 n hn J⟩,fun F a w K Q ht hr hk => ?_⟩;rw[if_neg (by simp[hw F a (ht.gr hg)])];exact hk F _ w (hT F n a undef J ht (VR.undef F)) (N2.refl hr) (D8 a _ _)
def Q10:List S->List Nat
 | []=>[]
 | s :: l=>s.dst.toList++Q10 l
theorem D37(hn:n<=2^d){call:Z3 β}(E:E11 P call)(z:β)(k:K0 Value->Y0->Nat->β):∀(suf:List Oper) (l:List S) (i:Nat),R3 P n ops suf=some l->(∀ j,j<suf.length->suf[j]? = ops[i+j]?)->∀(T:K0 Value) (H:Y0) (nx:Nat),
  C9 P d call z k l T H nx=z\/∃ T' H' nx',C9 P d call z k l T H nx=k T' H' nx'/\(WF d T->WF d T'/\U8 n (Q10 l) T T') /\
   ∀(F:FM) (a:Act) (w:World) (Q:Exit->Act->World->Prop) (rest:List Nat),TR d F T n a.tmps->HR F H nx w ->
    (∀ F' a' w',TR d F' T' n a'.tmps->N2 F H nx w F' H' nx' w'->a'.defers=a.defers->wpOps P ops.toArray Q rest a' w')->wpOps P ops.toArray Q (List.range' i suf.length++rest) a w
 | [],l,i,h,_,T,H,nx=>by
  simp[R3] at h;subst h;exact .inr ⟨T,H,nx,rfl,fun h=>⟨h,U8.refl _ _ _⟩,fun F a w Q rest ht hr hk=>by simpa using hk F a w ht (N2.refl hr) rfl⟩
 | o :: suf,l,i,h,hsuf,T,H,nx=>by
  simp only[R3] at h
  cases hs:K16 P n ops o with
  | none=>simp[hs] at h
  | some s=>cases hl:R3 P n ops suf with
   | none=>simp[hs,hl] at h
   | some l'=>
    simp[hs,hl] at h;subst h;show U18 P d call s T H nx z (C9 P d call z k l')=z\/∃ T' H' nx',U18 P d call s T H nx z (C9 P d call z k l')=k T' H' nx'/\_;rcases R53 (d:=d) hs hn E T H nx z (C9 P d call z k l') with h1 | ⟨T1,H1,nx1,h1,hw1,hok⟩
    .exact .inl h1
    .rw[h1]
     rcases D37 hn E z k suf l' (i+1) hl (fun j hj=>by have:=hsuf (j+1) (by simp;omega);simpa [eH,Nat.add_comm 1 j] using this) T1 H1 nx1 with h2 | ⟨T2,H2,nx2,h2,hw2,hp⟩
     .exact .inl h2
     .refine .inr ⟨T2,H2,nx2,h2,fun h=>⟨(hw2 (hw1 h).1).1,(hw1 h).2.trans (hw2 (hw1 h).1).2⟩,fun F a w Q rest ht hr hk => ?_⟩
      simp only[cV,List.range'_succ,dL];rw[wpOps_cons];unfold wpOp;have ho:ops.toArray[i]? = some o:=by have:=hsuf 0 (by simp);simpa using this.symm
      simp only[ho];refine hok F a w _ Q ht hr fun F' a' w' W U Z => ?_
      exact hp F' a' w' Q rest W U.hr fun F2 a2 w2 V J O=>hk F2 a2 w2 V (U.trans J) (O.trans Z)
theorem W58(hn:n<=2^d){call:Z3 β}(E:E11 P call)(z:β)(k:K0 Value->Y0->Nat->β)(suf:List Oper)(l:List S)(i:Nat)(h:R3 P n ops suf=some l)(J:∀ j,suf[j]? = ops[i+j]?)(T:K0 Value)(H:Y0)(nx:Nat):
  C9 P d call z k l T H nx=z\/∃ T' H' nx',C9 P d call z k l T H nx=k T' H' nx'/\(WF d T->WF d T'/\U8 n (Q10 l) T T') /\
   ∀(F:FM) (a:Act) (w:World) (Q:Exit->Act->World->Prop),TR d F T n a.tmps->HR F H nx w ->
    (∀ F' a' w',TR d F' T' n a'.tmps->N2 F H nx w F' H' nx' w'->a'.defers=a.defers->Q .normal a' w')->wpOps P ops.toArray Q (List.range' i suf.length) a w:=by
 rcases D37 hn E z k suf l i h (fun j _=>J j) T H nx with h1 | ⟨T',H',nx',h1,h2,h3⟩
 .exact .inl h1
 .exact .inr ⟨T',H',nx',h1,h2,fun F a w Q ht hr hk=>by simpa using h3 F a w Q [] ht hr hk⟩
end
end
section
variable {i:Nat} {listed:Array Bool} {ops:List Oper}
theorem V40{β:Type}:∀(ops:List Oper) (acc:List Nat) (f:List Nat->β),∃ ml,D26 acc ops f=f (acc++ml)/\ml.length=ops.length /\
  ∀ i o,ops[i]? = some o->ml[i]? = some (Q1 (acc++ml.take i) o.after.toList 0)
 | [],acc,f=>⟨[],by simp[D26],rfl,fun i o h=>by simp at h⟩
 | o :: ops,acc,f=>by
  obtain⟨ml,h1,h2,h3⟩:=V40 ops (acc++[Q1 acc o.after.toList 0]) f;refine⟨Q1 acc o.after.toList 0 :: ml,by simp[D26,G1,h1],by simp[h2],fun i o' hi => ?_⟩
  cases i with
  | zero=>simp at hi;subst hi;simp
  | succ i=>simpa using h3 i o' (by simpa using hi)
theorem Z55(ops:List Oper):(U1 ops).length=ops.length/\∀ i o,ops[i]? = some o->(U1 ops)[i]? = some (Q1 ((U1 ops).take i) o.after.toList 0):=by
 obtain⟨ml,h1,h2,h3⟩:=V40 ops [] id;have:U1 ops=ml:=by unfold U1;rw[h1];simp
 rw[this];exact⟨h2,fun i o hi=>by simpa using h3 i o hi⟩
theorem E26:∀(es:List Edge)(acc:List Nat)(m j:Nat),(Q1 acc es m).testBit j=true->m.testBit j=true\/∃ e ∈ es,fH .any e=true/\(e.on=j\/∃ x,acc[e.on]? = some x/\x.testBit j=true)
 | [],acc,m,j,h => .inl h
 | e :: es,acc,m,j,h=>by
  simp only[Q1] at h
  cases hb:fH .any e with
  | false=>
   rw[hb] at h;rcases E26 es acc m j h with h | ⟨e',he',hx⟩
   .exact .inl h
   .exact .inr ⟨e',by simp[he'],hx⟩
  | true=>
   rw[hb] at h;rcases E26 es acc _ j h with h | ⟨e',he',hx⟩
   .simp only[aV,cO] at h
    rcases h with (h | h) | h
    .exact .inl h
    .rw[aR] at h
     exact .inr ⟨e,by simp,hb,.inl (by simpa using h)⟩
    .refine .inr ⟨e,by simp,hb,.inr ?_⟩
     rw[Q8] at h
     cases hx:acc[e.on]? with
     | none=>rw[hx] at h;simp at h
     | some x=>rw[hx] at h;exact⟨x,rfl,h⟩
   .exact .inr ⟨e',by simp[he'],hx⟩
theorem G46{j:Nat}(h:D2 (U1 ops) i j=true):
  ∃ o e,ops[i]? = some o/\e ∈ o.after/\fH .any e=true/\(e.on=j\/(e.on<i/\D2 (U1 ops) e.on j=true)):=by
 obtain⟨h1,h2⟩:=Z55 ops;unfold D2 at h;rw[Q8] at h
 cases hm:(U1 ops)[i]? with
 | none=>rw[hm] at h;cases h
 | some m=>
  rw[hm] at h;dsimp only at h;have hi:i<ops.length:=by
   rcases aW i ops.length with g | g
   .exact g
   .simp[h1,g] at hm
  have ho:ops[i]? = some ops[i]:=by simp[hi]
  have:=h2 i _ ho;rw[hm] at this
  cases this
  rcases E26 _ _ _ _ h with h | ⟨e,he,hb,hx⟩
  .simp at h
  .refine⟨ops[i],e,ho,by simpa using he,hb,?_⟩
   rcases hx with hx | ⟨x,hx,hxb⟩
   .exact .inl hx
   .have E:e.on<i:=by
     rcases aW e.on i with g | g
     .exact g
     .simp[aX,Nat.not_lt.2 g] at hx
    refine .inr ⟨E,?_⟩;simp[E] at hx;unfold D2;rw[Q8,hx];exact hxb
structure R12 (ops:List Oper) (i:Nat) (o:Oper):Prop where
 one:∀ j oj d,ops[j]? = some oj->oj.dst=some d->i≠j->o.dst≠some d/\(d ∈ J17 ops o->D2 (U1 ops) i j=true\/D2 (U1 ops) j i=true)
 self:∀ d,o.dst=some d->d ∉ J17 ops o
 edge:∀ e ∈ o.after,fH .any e=true->e.on<i
theorem D28{ops:List Oper}:∀(suf:List Oper) (i0:Nat),E13 (U1 ops) ops suf i0=true->∀ k o,suf[k]? = some o->R12 ops (i0+k) o
 | [],i0,_,k,o,hk=>by simp at hk
 | o :: suf,i0,h,k,o',hk=>by
  simp only[E13,aG] at h;obtain⟨⟨⟨⟨h1,h2⟩,h3⟩,h4⟩,h5⟩:=h
  cases k with
  | succ k=>
   have:=D28 suf (i0+1) h5 k o' (by simpa using hk);rwa [show i0+1+k=i0+(k+1) by omega] at this
  | zero=>
   simp at hk;subst hk;refine⟨fun j oj d hj hd E => ?_,fun d hd => ?_,fun e he hb => ?_⟩
   .rw[bW] at h1
    have:=h1 (oj,j) (by
     rw[List.mem_iff_getElem?];exact⟨j,by simp[List.getElem?_zipIdx,hj]⟩)
    simp only[hd,cO,aG] at this;rcases this with this | ⟨g1,g2⟩
    .exact absurd (bT this) E
    .refine⟨fun e => ?_,fun hm => ?_⟩
     .rw[e] at g1;simp at g1
     .rcases g2 with (g2 | g2) | g2
      .simp[hm] at g2
      .exact .inl g2
      .exact .inr g2
   .rw[hd] at h3
    simpa using h3
   .rw[bW] at h4
    have:=h4 e (by simpa using he);simp[hb] at this;simpa using this
theorem V36(J:∀ i o,ops[i]? = some o->R12 ops i o):∀(i j:Nat),D2 (U1 ops) i j=true->j<i:=by
 intro i
 induction i using Nat.strongRecOn with
 | _ i ih=>
  intro j h;obtain⟨o,e,ho,he,hb,hx⟩:=G46 h;have E:=(J i o ho).edge e he hb;rcases hx with rfl | ⟨_,hx⟩
  .exact E
  .have:=ih e.on E j hx
   omega
def J61(ops:List Oper)(D:Nat->Bool):Prop:=∀ i o,ops[i]? = some o->D i=true->∀ e ∈ o.after,fH .any e=true->D e.on=true
theorem Y33(O:∀ i o,ops[i]? = some o->R12 ops i o){D:Nat->Bool}(hc:J61 ops D):∀(i j:Nat),(∀ o,ops[i]? = some o->∀ e ∈ o.after,fH .any e=true->D e.on=true)->D2 (U1 ops) i j=true->D j=true:=by
 intro i
 induction i using Nat.strongRecOn with
 | _ i ih=>
  intro j hd h;obtain⟨o,e,ho,he,hb,hx⟩:=G46 h;have Q:=(O i o ho).edge e he hb;have hl:=hd o ho e he hb;rcases hx with rfl | ⟨_,hx⟩
  .exact hl
  .exact ih e.on Q j (fun o' J e' E U=>hc e.on o' J hl e' E U) hx
theorem K35{ops:Array Oper}(h:i ∈ Region.ready .any ops listed):i<ops.size/\listed.getD i true=false/\∀ o,ops[i]? = some o->∀ e ∈ o.after,fH .any e=true->listed.getD e.on false=true:=by
 simp only[Region.ready,dA,cW,aG,cJ] at h;obtain⟨h1,h2,h3⟩:=h;refine⟨h1,h2,fun o ho e he hb => ?_⟩;rw[ho] at h3;simp only[Option.map_some,Option.getD_some,Array.all_eq_true_iff_forall_mem] at h3;have:=h3 e he;simpa [hb] using this
theorem N54{ops:Array Oper}(hs:listed.size=ops.size)(J:∀ i o,ops[i]? = some o->∀ e ∈ o.after,fH .any e=true->e.on<i)(h:Region.ready .any ops listed=[]):∀ i,i<ops.size->listed.getD i false=true:=by
 intro i
 induction i using Nat.strongRecOn with
 | _ i ih=>
  intro hi
  cases hl:listed.getD i false with
  | true=>rfl
  | false=>
   exfalso;have E:i ∈ Region.ready .any ops listed:=by
    simp only[Region.ready,dA,cW,aG,cJ];refine⟨hi,?_,?_⟩
    .have Q:i<listed.size:=by omega
     simp[Q] at hl ⊢;exact hl
    .have ho:ops[i]? = some ops[i]:=by simp[hi]
     rw[ho];simp only[Option.map_some,Option.getD_some,Array.all_eq_true_iff_forall_mem];intro e he
     cases hb:fH .any e with
     | false=>rfl
     | true=>
      have O:=J i _ ho e he hb;have:=ih e.on O (by omega);rw[this];rfl
   rw[h] at E
   cases E
end
section
variable {F:FM} {nx:Nat} {w:World}
theorem HR.sub{H H':Y0}(hr:HR F H nx w)(hs:∀ i b,J0 H' i=some b->J0 H i=some b):HR F H' nx w:=
 ⟨fun i b hi hg=>hr.blk i b hi (hs i b hg),fun i j bi bj ti tj hi hj gi gj=>hr.inj i j bi bj ti tj hi hj (hs i bi gi) (hs j bj gj),hr.fresh,fun i hi=>by
  cases hg:J0 H' i with
  | none=>rfl
  | some b=>exact absurd (hs i b hg) (by rw[hr.top i hi];simp),hr.gl.step (fun _ _ _=>rfl) (fun b ⟨i,k,t,hi,hg,E,hF,e⟩ => .inl ⟨i,k,t,hi,hs i k hg,E,hF,e⟩)⟩
theorem N2.beside{X J:Y0}{F':FM}{a2:Y0}{nx':Nat}{w':World}(hr:HR F X nx w)(Q:∀ i b,i<nx->J0 J i=some b->J0 X i=some b)
  (E:N2 F J nx w F' a2 nx' w'){X':Y0}
  (hX:∀ i,J0 X' i=if i<nx/\J0 J i=none/\(J0 X i).isSome=true then J0 X i else J0 a2 i):
  N2 F X nx w F' X' nx' w':=by
 have a1:∀ b,Own F J nx b->Own F X nx b:=by
  rintro b ⟨i,k,t,hi,hg,a0,hF,e⟩;exact⟨i,k,t,hi,Q i k hi hg,a0,hF,e⟩
 have W:∀ i b,i<nx->J0 J i=none->J0 X i=some b->∃ t,F i=some t/\F' i=some t/\t.blk<w.heap.size/\¬ Own F J nx t.blk/\BR F' t b w':=by
  intro i b hi hn hg;obtain⟨t,hF,hb⟩:=hr.blk i b hi hg;have O:¬ Own F J nx t.blk:=by
   rintro⟨j,k,u,hj,a4,a0,ad,e⟩;rcases hr.inj j i k b u t hj hi (Q j k hj a4) hg ad hF e with this | this
   .subst this
    rw[hn] at a4;cases a4
   .rw[a0] at this;cases this.1
  have Z:F' i=some t:=by rw[E.ext i hi];exact hF
  refine⟨t,hF,Z,hb.lt,O,hb.mono (fun q u hq => ?_) (E.frame _ hb.lt O)⟩;rcases aW q nx with g | g
  .rw[E.ext q g];exact hq
  .rw[hr.fresh q g] at hq;cases hq
 have a3:∀ b,Own F' X' nx' b->Own F X nx b\/w.heap.size<=b:=by
  rintro b ⟨i,k,t,hi,hg,a0,hF,rfl⟩;rw[hX i] at hg
  split at hg
  .rename_i hc
   obtain⟨h1,h2,_⟩:=hc;obtain⟨t',ab,Z,_⟩:=W i k h1 h2 hg;rw[Z] at hF;cases hF;exact .inl ⟨i,k,t,h1,hg,a0,ab,rfl⟩
  .exact(E.own _ ⟨i,k,t,hi,hg,a0,hF,rfl⟩).imp (a1 _) id
 refine⟨E.le,E.ext,E.os,E.tape,E.output,E.size,fun b hb O=>E.frame b hb (fun h=>O (a1 b h)),a3,?_,?_,?_⟩
 .intro i hi hn
  have a9:J0 J i=none:=by
   cases hg:J0 J i with
   | none=>rfl
   | some b=>rw[Q i b hi hg] at hn;cases hn
  rw[hX i,if_neg (by simp[hn])];exact E.keep i hi a9
 .intro i b hg ae
  rw[hX i] at hg
  split at hg
  .rename_i hc;exact⟨hc.1,hg⟩
  .obtain⟨h1,h2⟩:=E.rom i b hg ae
   exact⟨h1,Q i b h1 h2⟩
 .refine⟨?_,?_,E.hr.fresh,fun i hi=>by rw[hX i,if_neg (by have:=E.le;omega)];exact E.hr.top i hi,hr.gl.step (fun b hb O=>E.frame b hb (fun h=>O (a1 b h))) a3⟩
  .intro i b hi hg
   rw[hX i] at hg
   split at hg
   .rename_i hc
    obtain⟨t,_,Z,_,_,hb⟩:=W i b hc.1 hc.2.1 hg;exact⟨t,Z,hb⟩
   .exact E.hr.blk i b hi hg
  ·
   have a7:∀ i j bi bj ti tj,i<nx->j<nx'->J0 J i=none->J0 X i=some bi->J0 a2 j=some bj->F' i=some ti->F' j=some tj->ti.blk=tj.blk->¬ (j<nx/\J0 J j=none/\(J0 X j).isSome=true)->bi.isRom=true/\bj.isRom=true:=by
    intro i j bi bj ti tj hi hj hn gi gj fi fj e U;obtain⟨t,hF,Z,ag,O,_⟩:=W i bi hi hn gi;rw[Z] at fi;cases fi;have a6:bj.isRom=true:=by
     cases aa:bj.isRom with
     | true=>rfl
     | false=>
      exfalso;rcases E.own tj.blk ⟨j,bj,tj,hj,gj,aa,fj,rfl⟩ with h | h
      .rw[<- e] at h;exact O h
      .omega
    refine⟨?_,a6⟩
    cases a8:bi.isRom with
    | true=>rfl
    | false=>
     exfalso;obtain⟨h1,h2⟩:=E.rom j bj gj a6;have a5:F j=some tj:=by rw[<- E.ext j h1];exact fj
     rcases hr.inj i j bi bj _ tj hi h1 gi (Q j bj h1 h2) hF a5 e with h | h
     .subst h;rw[hn] at h2;cases h2
     .rw[a8] at h;cases h.1
   intro i j bi bj ti tj hi hj gi gj fi fj e;rw[hX i] at gi;rw[hX j] at gj
   split at gi<;>split at gj
   .rename_i V U
    have ac:F i=some ti:=by rw[<- E.ext i V.1];exact fi
    have a5:F j=some tj:=by rw[<- E.ext j U.1];exact fj
    exact hr.inj i j bi bj ti tj V.1 U.1 gi gj ac a5 e
   .rename_i V U
    exact .inr (a7 i j bi bj ti tj V.1 hj V.2.1 gi gj fi fj e U)
   .rename_i V U
    exact .inr (a7 j i bj bi tj ti U.1 hi U.2.1 gj gi fj fi e.symm V).symm
   .exact E.hr.inj i j bi bj ti tj hi hj gi gj fi fj e
theorem N2.addAt{F0:FM}{H0:Y0}{N:Nat}{w0:World}{X:Y0}(J:N2 F0 H0 N w0 F X nx w){q:Nat}(hq:q<nx)(hN:N<=q)(hF:F q=none){b:V3}{Q:Obj}(hn:W55 F b Q):
  ∃ t,t.blk=w.heap.size/\t.base=0/\N2 F0 H0 N w0 (upd F q t) (hs X q (some b)) nx (w.alloc Q):=by
 have hr:=J.hr;have O:∀ i,J0 (hs X q (some b)) i=if i=q then some b else J0 X i:=fun i=>N7 X q i _
 have a4:b.isRom=false:=by cases b<;>first | rfl | exact hn.elim
 have V:∀ t:J7,t.blk=w.heap.size->BR (upd F q t) t b (w.alloc Q)->N2 F0 H0 N w0 (upd F q t) (hs X q (some b)) nx (w.alloc Q):=by
  intro t ht hb;have a5:=M19 hF t;refine⟨J.le,fun i hi=>by rw[M5 F t (by omega)];exact J.ext i hi,J.os,J.tape,J.output,bK J.size (by simp),?_,?_,?_,?_,?_⟩
  .intro k hk a3
   rw[Y14 w Q k (aO hk J.size)];exact J.frame k hk a3
  .rintro k ⟨i,kb,u,hi,hg,a1,E,rfl⟩
   rw[O i] at hg
   by_cases e:i=q
   .subst e;rw[Y6] at E;cases E;exact .inr (by rw[ht];exact J.size)
   .rw[if_neg e] at hg;rw[M5 F t e] at E
    exact J.own _ ⟨i,kb,u,hi,hg,a1,E,rfl⟩
  .intro i hi a0
   rw[O i,if_neg (by omega)];exact J.keep i hi a0
  .intro i bi hg W
   rw[O i] at hg
   by_cases e:i=q
   .subst e;rw[if_pos rfl] at hg;cases hg;rw[a4] at W;cases W
   .rw[if_neg e] at hg;exact J.rom i bi hg W
  .refine⟨?_,?_,?_,fun i hi=>by rw[O,if_neg (by omega)];exact hr.top i hi,hr.gl.step (fun k hk _=>Y14 w Q k hk) (by
    rintro k ⟨i,kb,u,hi,hg,a1,E,rfl⟩;rw[O i] at hg
    by_cases e:i=q
    .subst e;rw[Y6] at E;cases E;exact .inr (by omega)
    .rw[if_neg e] at hg;rw[M5 F t e] at E
     exact .inl ⟨i,kb,u,hi,hg,a1,E,rfl⟩)⟩
   .intro i kb hi hg
    rw[O i] at hg
    by_cases e:i=q
    .subst e;rw[if_pos rfl] at hg;cases hg;exact⟨t,Y6 _ _ _,hb⟩
    .rw[if_neg e] at hg
     obtain⟨u,E,U⟩:=hr.blk i kb hi hg;exact⟨u,by rw[M5 F t e];exact E,U.mono a5 (Y14 w Q _ U.lt)⟩
   .intro i j bi bj ti tj hi hj gi gj fi fj e
    rw[O i] at gi;rw[O j] at gj
    by_cases ei:i=q<;>by_cases ej:j=q
    .exact .inl (by rw[ei,ej])
    .exfalso
     subst ei;rw[Y6] at fi;cases fi;rw[if_neg ej] at gj;rw[M5 F t ej] at fj;obtain⟨u,a2,a6⟩:=hr.blk j bj hj gj;rw[fj] at a2;cases a2;have:=a6.lt;omega
    .exfalso
     subst ej;rw[Y6] at fj;cases fj;rw[if_neg ei] at gi;rw[M5 F t ei] at fi;obtain⟨u,E,U⟩:=hr.blk i bi hi gi;rw[fi] at E;cases E;have:=U.lt;omega
    .rw[if_neg ei] at gi;rw[if_neg ej] at gj;rw[M5 F t ei] at fi;rw[M5 F t ej] at fj
     exact hr.inj i j bi bj ti tj hi hj gi gj fi fj e
   .intro i hi
    rw[M5 F t (by omega)];exact hr.fresh i hi
 cases b with
 | cells c sl=>
  obtain⟨rfl,c',e,rfl,Z⟩:=hn;refine⟨⟨w.heap.size,0,c.length,0,c'.size⟩,rfl,rfl,V _ rfl ?_⟩;refine⟨c',e,E16 w _,rfl,rfl,rfl,by have:=Z.length;simp at this;simp[this],?_⟩;have hl:=Z.length;simp only[List.drop_zero];rw[gJ (by omega)];exact Z.mono (M19 hF _)
 | map es k=>
  obtain⟨rfl,rfl⟩:=hn;exact⟨⟨w.heap.size,0,0,0,0⟩,rfl,rfl,V _ rfl ⟨rfl,#[],E16 w _,.nil⟩⟩
 | rom c=>exact hn.elim
def J5(N:Nat)(p:Nat->Bool)(q:Nat):List (Nat × V3)->Option V3
 | []=>none
 | (j,b) :: l=>if N+j=q/\p j=true then some b else J5 N p q l
def X8(N:Nat)(p:Nat->Bool)(H:Y0):List (Nat × V3)->Y0
 | []=>H
 | (j,b) :: l=>X8 N p (cond (p j) (hs H (N+j) (some b)) H) l
def X17(L:Nat):List (Nat × V3)->Prop
 | []=>True
 | (j,_) :: l=>j<L/\(∀ q ∈ l,q.1≠j)/\X17 L l
theorem Y38{N:Nat}{p:Nat->Bool}{j:Nat}:∀ {l:List (Nat × V3)},(∀ q ∈ l,q.1≠j)->J5 N p (N+j) l=none
 | [],_=>rfl
 | (j',b) :: l,h=>by
  have h1:j'≠j:=h (j',b) (by simp);simp only[J5];rw[if_neg (by rintro⟨e,_⟩;exact h1 (by omega))];exact Y38 fun q hq=>h q (by simp[hq])
theorem Y10{N L:Nat}{p:Nat->Bool}:∀ {l:List (Nat × V3)} {H:Y0},X17 L l->∀ q,J0 (X8 N p H l) q=(J5 N p q l).or (J0 H q)
 | [],H,_,q=>by simp[X8,J5]
 | (j,b) :: l,H,hk,q=>by
  obtain⟨h1,h2,h3⟩:=hk;simp only[X8,J5]
  cases hp:p j with
  | false=>
   rw[Y10 h3 q];simp
  | true=>
   rw[Y10 h3 q];simp only[cond_true];rw[N7]
   by_cases e:q=N+j
   .subst e
    rw[Y38 h2];simp
   .have e':¬ (N+j=q):=fun h=>e h.symm
    simp[e,e']
theorem W11{N:Nat}{p:Nat->Bool}{q:Nat}{b:V3}:∀ {l:List (Nat × V3)},J5 N p q l=some b->∃ j,(j,b) ∈ l/\N+j=q/\p j=true
 | [],h=>by simp[J5] at h
 | (j,b') :: l,h=>by
  simp only[J5] at h
  split at h
  .rename_i hc;cases h;exact⟨j,by simp,hc.1,hc.2⟩
  .obtain⟨j',h1,h2⟩:=W11 h
   exact⟨j',by simp[h1],h2⟩
theorem N15{N L:Nat}{p:Nat->Bool}{j:Nat}{b:V3}:∀ {l:List (Nat × V3)},X17 L l->(j,b) ∈ l->p j=true->J5 N p (N+j) l=some b
 | (j',b') :: l,hk,hm,hp=>by
  obtain⟨_,h2,h3⟩:=hk;simp only[J5];rcases aU.1 hm with e | hm
  .cases e;simp[hp]
  .have:j≠j':=h2 (j,b) hm
   rw[if_neg (by rintro⟨e,_⟩;omega)];exact N15 h3 hm hp
theorem Q18{β:Type}{ms:List Nat}{N i:Nat}{es:List Nat}(f:Y0->β):∀(as:List (Nat × V3)) (H:Y0),U13 ms N es i H f as=f (X8 N (fun j=>D2 ms i j && !Y3 ms es j) H as)
 | [],H=>rfl
 | (j,b) :: as,H=>by
  simp only[U13,X8];rcases Bool.eq_false_or_eq_true (D2 ms i j && !Y3 ms es j) with h | h
  .rw[h];simp only[cond_true];rw[G4,Q18 f as]
  .rw[h];simp only[cond_false];rw[Q18 f as H]
theorem N23{β:Type}{ms:List Nat}{N:Nat}{es:List Nat}(f:Y0->β):∀(as:List (Nat × V3)) (H:Y0),Z13 ms N es H f as=f (X8 N (fun j => !Y3 ms es j) H as)
 | [],H=>rfl
 | (j,b) :: as,H=>by
  simp only[Z13,X8];rcases Bool.eq_false_or_eq_true (Y3 ms es j) with h | h
  .rw[h];simp only[cond_true,Bool.not_true,cond_false];rw[N23 f as H]
  .rw[h];simp only[cond_false,Bool.not_false,cond_true];rw[G4,N23 f as]
end
end Go.Clo
