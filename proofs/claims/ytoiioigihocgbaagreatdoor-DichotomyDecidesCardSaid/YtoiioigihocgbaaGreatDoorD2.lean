/-
  The closed executor: the rest of the operations that only compute.
  The closed executor: the operations that only compute,all of them.
  The closed executor: slicing;the operations that only compute,joined;the operations that read.
  The closed executor: the operations that read.
  The closed executor: the operations that read,joined;the operations that make a block.
  The closed executor: the operations that make a block.
-/
import Derived.Test.YtoiioigihocgbaaGreatDoorD1
import Derived.Laws.StructEq
import Derived.Laws.BytesArg
set_option maxHeartbeats 8000000
set_option maxRecDepth 100000
set_option linter.all false
open Array renaming mem_def->fQ,range->gG,toList_inj->fB
open Bool renaming and_eq_true->aG,false_eq_true->dQ,not_eq_true'->cJ
open Go.Builtin renaming len_->gI
open Go.Call renaming operands->fL
open Go.Instr renaming findNow->dP,sliceBounds->fP
open Go.Op renaming equalIn->fW,operands->eI
open Go.Result renaming andThen_ok->aM
open Go.Sem renaming run_bind->aS,run_pure->bD
open Go.Value renaming int->cD
open List renaming all_eq_true->bW,cons_append->dL,ext_getElem?->dH,foldl_cons->dF,getElem?_eq_none->aT,getElem?_map->cP,getElem?_take->aX,mem_map->gN,nil_append->eR,range->aY
open List.cons renaming injEq->fM
open Nat renaming add_assoc->eH,add_mul->dM,add_zero->eM,beq->bR,ble->dD,blt->dE,eq_of_beq_eq_true->bT,eq_zero_or_pos->cI,le_refl->aD,le_trans->bK,lt_or_ge->aW,mod_eq_of_lt->bV,mod_lt->eZ,mul_comm->cG,mul_le_mul->eL
open Option renaming elim_some->aN,isSome_none->gO,map_eq_some_iff->bU
open Option.some renaming injEq->aZ
namespace Go.Clo
section
variable {F:FM} {P:Program} {b c f n o:Nat} {fd:Field} {fs:Array Field} {s sh:Option Nat} {t:TypeId} {v:Value} {x:Operand} {y:X}
theorem X11(b o n:Nat):(⟨b,o,none⟩:Addr).add n=⟨b,o+n,none⟩:=by
 unfold Addr.add;split
 .rename_i h;subst h;rfl
 .rfl
theorem VR.ptr_inv(h:VR F (.pointer (some ⟨b,o,s⟩)) v):s=none/\∃ t,F b=some t/\v = .pointer (some ⟨t.blk,t.base+o,none⟩):=by
 cases h with
 | ptr h=>exact⟨rfl,_,h,rfl⟩
theorem VR.slice_inv(h:VR F (.slice (some ⟨b,o,none⟩) n c) v):
  (none:Option Nat)=none/\∃ t c',F b=some t/\v = .slice (some ⟨t.blk,t.base+o,none⟩) n c'/\(c'=c\/(0<t.esz/\c<=c'/\o+c*t.esz=t.sz/\t.base+o+c'*t.esz<=t.rsz/\c'<=9223372036854775807)):=by
 cases h with
 | slice h hc=>exact⟨rfl,_,_,h,rfl,hc⟩
theorem VR.slice_invP(h:VR F (.slice (some ⟨b,o,s⟩) n c) v)(hn:0<n):
  s=none/\∃ t c',F b=some t/\v = .slice (some ⟨t.blk,t.base+o,none⟩) n c'/\(c'=c\/(0<t.esz/\c<=c'/\o+c*t.esz=t.sz/\t.base+o+c'*t.esz<=t.rsz/\c'<=9223372036854775807)):=by
 cases h with
 | slice h hc=>exact⟨rfl,_,_,h,rfl,hc⟩
 | sliceW s a=>exact absurd hn (Nat.lt_irrefl 0)
theorem VR.sliceN_inv(h:VR F (.slice none n c) v):v = .slice none n c:=by cases h;rfl
theorem VR.agg_inv{x:Array Value}(h:VR F (.agg x) v):∃ x',v = .agg x'/\VL F x.toList x'.toList:=by
 cases h with
 | agg h1 h2=>exact⟨_,rfl,VL.ofArr h1 h2⟩
theorem VR.tuple_inv{x:Array Value}(h:VR F (.tuple x) v):∃ x',v = .tuple x'/\VL F x.toList x'.toList:=by
 cases h with
 | tuple h1 h2=>exact⟨_,rfl,VL.ofArr h1 h2⟩
theorem W48{n:Nat}{o:Oper}{F:FM}{T:K0 Value}{a:Act}(ht:OR n o F T a):∀ {l:List Operand} {ys:List X},U7 n l=some ys->(∀ x ∈ l,x ∈ o.op.operands)->VL F (ys.map (ev T)) (l.map a.eval)
 | [],ys,h,_=>by simp[U7] at h;subst h;exact .nil
 | x :: l,ys,h,hm=>by
  simp only[U7] at h
  cases hx:W13 n x with
  | none=>simp[hx] at h
  | some y=>cases hl:U7 n l with
   | none=>simp[hx,hl] at h
   | some E=>
    simp[hx,hl] at h;subst h;exact .cons (evX ht hx (hm x (by simp))) (W48 ht hl fun q hq=>hm q (by simp[hq]))
inductive PL (F:FM):List (Nat × Value)->List (Nat × Value)->Prop
 | nil:PL F [] []
 | cons {i:Nat} {v v':Value} {l l':List (Nat × Value)} (h:VR F v v') (t:PL F l l'):PL F ((i,v) :: l) ((i,v') :: l')
theorem G62{n:Nat}{o:Oper}{F:FM}{T:K0 Value}{a:Act}(ht:OR n o F T a):∀ {l:List (Nat × Operand)} {ys:List (Nat × X)},R16 n l=some ys->(∀ p ∈ l,p.2 ∈ o.op.operands) ->
  PL F (ys.map fun p=>(p.1,ev T p.2)) (l.map fun p=>(p.1,a.eval p.2))
 | [],ys,h,_=>by simp[R16] at h;subst h;exact .nil
 | (i,x) :: l,ys,h,hm=>by
  simp only[R16] at h
  cases hx:W13 n x with
  | none=>simp[hx] at h
  | some y=>cases hl:R16 n l with
   | none=>simp[hx,hl] at h
   | some E=>
    simp[hx,hl] at h;subst h;exact .cons (evX ht hx (hm (i,x) (by simp))) (G62 ht hl fun q hq=>hm q (by simp[hq]))
theorem evO{o:Oper}{T:K0 Value}{a:Act}(ht:OR n o F T a){x:Option Operand}{y:Option X}(h:B71 n x=some y)(hm:∀ q,x=some q->q ∈ o.op.operands):
  (x=none/\y=none)\/∃ x1 y1,x=some x1/\y=some y1/\VR F (ev T y1) (a.eval x1):=by
 cases x with
 | none=>simp[B71] at h;exact .inl ⟨rfl,h.symm⟩
 | some x1=>
  simp only[B71] at h
  cases hx:W13 n x1 with
  | none=>simp[hx] at h
  | some y1=>simp[hx] at h;exact .inr ⟨x1,y1,rfl,h.symm,evX ht hx (hm x1 rfl)⟩
theorem Y47(off:Nat):∀(vs:List Value) (k:Nat) (cells:Array Value),off+k+vs.length<=cells.size ->
  ((vs.zipIdx k).foldl (fun cs (c,j)=>cs.setIfInBounds (off+j) c) cells).toList=cells.toList.take (off+k)++vs++cells.toList.drop (off+k+vs.length)
 | [],k,cells,_=>by simp
 | v :: vs,k,cells,h=>by
  simp only[List.zipIdx_cons,dF];rw[Y47 off vs (k+1) _ (by simp at h ⊢;omega)];have e:=list_seg_step cells.toList (off+k) v vs (by simp at h ⊢;omega);simpa [Array.toList_setIfInBounds,eH] using e
theorem B24{pl pl':Nat->Option (Nat × Nat)}(U:∀ i p,pl i=some p->pl' i=some p){ps E:List (Nat × Value)}(hp:PL F ps E):
  ∀ {cells:List Value} {cells':Array Value} {r:List Value},VL F cells cells'.toList->V16 pl cells ps=some r->∃ r',Instr.fill pl' cells' E=some r'/\VL F r r'.toList:=by
 induction hp with
 | nil=>intro cells cells' r hc h;simp[V16] at h;subst h;exact⟨cells',rfl,hc⟩
 | @cons i v v' l l' hv _ ih=>
  intro cells cells' r hc h;rw[V16] at h
  cases hi:pl i with
  | none=>rw[hi] at h;cases h
  | some p=>
   obtain⟨off,size⟩:=p;rw[hi] at h;dsimp only at h
   cases hb:(bR v.cells.toList.length size&&dD (off+size) cells.length&&B22 v) with
   | false=>rw[hb] at h;cases h
   | true=>
    rw[hb] at h;simp only[cond_true] at h;simp only[aG,Nat.ble_eq] at hb;obtain⟨⟨h1,h2⟩,O⟩:=hb;have h1:=bT h1;have Q:=hc.length;have J:=(hv.cells O).length;have e:(v'.cells.zipIdx.foldl (fun cs (c,j)=>cs.setIfInBounds (off+j) c) cells').toList=cells'.toList.take off++v'.cells.toList++cells'.toList.drop (off+size):=by
     have:=Y47 off v'.cells.toList 0 cells' (by simp at Q J h1;simp;omega);simp only[eM] at this;rw[show off+size=off+v'.cells.toList.length by omega,<- this];rw[<- Array.foldl_toList];simp
    obtain⟨r',hr,hl⟩:=ih (cells':=v'.cells.zipIdx.foldl (fun cs (c,j)=>cs.setIfInBounds (off+j) c) cells') (by rw[e];exact((hc.take off).append (hv.cells O)).append (hc.drop _)) h;refine⟨r',?_,hl⟩;simp only[Instr.fill,U i _ hi];have e1:¬ (v'.cells.size≠size || off+v'.cells.size > cells'.size)=true:=by simp at Q J h1;simp;omega
    rw[if_neg e1];exact hr
theorem B34{P:Program}:∀ {fs:List Field} {pl:List (Nat × Nat)},R13 P fs=some pl->fs.mapM (fun f=>(P.info? f.type).map fun i=>(f.offset,i.size))=some pl
 | [],pl,h=>by simp[R13] at h;subst h;rfl
 | f :: fs,pl,h=>by
  simp only[R13] at h
  cases hi:P.info? f.type with
  | none=>simp[hi] at h
  | some i=>cases hl:R13 P fs with
   | none=>simp[hi,hl] at h
   | some l=>
    simp[hi,hl] at h;subst h;simp[List.mapM_cons,hi,B34 hl]
theorem X14{z:List Value}(h:M10 P t=some z):∃ i v,P.info? t=some i/\i.zero=some v/\z=v.cells.toList/\X7 v=true/\Z0 z=true/\z.length=i.size:=by
 unfold M10 at h
 cases hi:P.info? t with
 | none=>simp[hi] at h
 | some i=>
  cases hz:i.zero with
  | none=>simp[hi,hz] at h
  | some v=>
   rw[hi] at h;dsimp only at h;rw[hz] at h;dsimp only at h
   cases hb:(X7 v&&Z0 v.cells.toList&&bR v.cells.toList.length i.size) with
   | false=>rw[hb] at h;cases h
   | true=>
    rw[hb] at h;simp only[cond_true,aZ] at h;subst h;simp only[aG] at hb;exact⟨i,v,rfl,hz,rfl,hb.1.1,hb.1.2,bT hb.2⟩
theorem Q32(h:E8 P t=some sh):∃ dd i,P.underlying t=some dd/\P.info? t=some i/\sh=cond (G8 dd) (some i.size) none:=by
 unfold E8 at h
 cases hd:P.underlying t with
 | none=>simp[hd] at h
 | some dd=>cases hi:P.info? t with
  | none=>simp[hd,hi] at h
  | some i=>simp[hd,hi] at h;exact⟨dd,i,rfl,rfl,h.symm⟩
theorem M14{dd:TypeDesc}(h:P.underlying t=some dd)(w:World):(isAgg t).run P w = .ok (G8 dd) w:=by
 cases dd<;>simp[isAgg,run_underlying h,G8]
theorem J39{sh:Option Nat}(h:E8 P t=some sh)(cs:List Value)(off:Nat){β:Type}(z:β)(k:Value->β):
  E21 cs off sh z k=z\/∃ v,E21 cs off sh z k=k v/\∀(F:FM) (E:Array Value) (w:World),VL F cs E.toList->∃ v',(part t E off).run P w = .ok v' w/\VR F v v':=by
 obtain⟨dd,i,hu,hi,rfl⟩:=Q32 h;unfold E21
 cases hd:G8 dd with
 | true=>
  simp only[cond_true];rw[V14];refine .inr ⟨_,rfl,fun F E w hc=>⟨.agg (E.extract off (off+i.size)),?_,?_⟩⟩
  .simp[part,M14 hu,hd,E3 hi]
  .have e:(E.extract off (off+i.size))=⟨(E.toList.drop off).take i.size⟩:=by
    apply fB.1;simp[List.extract_eq_take_drop]
   rw[e];exact VR.agg' ((hc.drop off).take _)
 | false=>
  simp only[cond_false];rw[Z12]
  cases hv:cs[off]? with
  | none=>exact .inl rfl
  | some v=>
   refine .inr ⟨v,rfl,fun F E w hc => ?_⟩;obtain⟨v',J,hr⟩:=hc.some hv;refine⟨v',?_,hr⟩;have:E[off]? = some v':=by simpa using J
   simp[part,M14 hu,hd,this]
section
variable {β:Type} {P:Program} {d n:Nat} {o:Oper} {T:K0 Value}
theorem K57 {s : TypeId} {i : TypeInfo} (ho : o.op = .fieldAddr s x f) (hx : W13 n x = some y) (hs : P.underlying s = some (.struct fs)) (hf : fs[f]? = some fd)
    (hi : P.info? fd.type = some i) (hz : i.size ≠ 0) (z : β) (k : Value -> β) :
    X4 P (.fld y fd.offset) T z k = z \/ ∃ v, X4 P (.fld y fd.offset) T z k = k v /\ PV P d n o T v := by
  show X53 y fd.offset T z k = z \/ ∃ v, X53 y fd.offset T z k = k v /\ _
  unfold X53
  rw [G2]
  split
  · rename_i a hv
    obtain ⟨b, o', s'⟩ := a
    unfold U19
    rw [G1]
    refine .inr ⟨_, rfl, fun F act w ht => ?_⟩
    have h1 := evX ht hx
    rw [hv] at h1
    obtain ⟨rfl, t, hF, he⟩ := h1.ptr_inv
    refine ⟨.pointer (some ⟨t.blk, t.base + (o' + fd.offset), none⟩), ?_, .ptr hF⟩
    simp [execOp, ho, he, Instr.fieldAt, run_underlying hs, hf, Instr.sureAddr, fieldPlace, E3 hi, hz, X11, Nat.add_assoc]
  · exact .inl rfl
theorem M52 (ho : o.op = .nilCheck x) (hx : W13 n x = some y) (z : β) (k : Value -> β) :
    X4 P (.nilc y) T z k = z \/ ∃ v, X4 P (.nilc y) T z k = k v /\ PV P d n o T v := by
  show U42 y T z k = z \/ ∃ v, U42 y T z k = k v /\ _
  unfold U42
  rw [G2]
  split
  · rename_i a hv
    obtain ⟨b, o', s'⟩ := a
    refine .inr ⟨_, rfl, fun F act w ht => ?_⟩
    have h1 := evX ht hx
    rw [hv] at h1
    have h2 := h1
    obtain ⟨rfl, t, hF, he⟩ := h1.ptr_inv
    rw [he] at h2
    exact ⟨_, by simp [execOp, ho, he], h2⟩
  · exact .inl rfl
theorem B59 {i : Nat} (ho : o.op = .extract x i) (hx : W13 n x = some y) (z : β) (k : Value -> β) :
    X4 P (.ext y i) T z k = z \/ ∃ v, X4 P (.ext y i) T z k = k v /\ PV P d n o T v := by
  show E54 y i T z k = z \/ ∃ v, E54 y i T z k = k v /\ _
  unfold E54
  rw [G2]
  split
  · rename_i vs hv
    rw [Z12]
    cases hi : vs.toList[i]? with
    | none => exact .inl rfl
    | some v =>
      refine .inr ⟨v, rfl, fun F act w ht => ?_⟩
      have h1 := evX ht hx
      rw [hv] at h1
      obtain ⟨x', he, hl⟩ := h1.tuple_inv
      obtain ⟨v', hv', hr⟩ := hl.some hi
      have : x'[i]? = some v' := by simpa using hv'
      exact ⟨v', by simp [execOp, ho, he, Instr.extract, this], hr⟩
  · exact .inl rfl
theorem V54 (ho : o.op = .field t x f) (hx : W13 n x = some y) (hs : P.underlying t = some (.struct fs)) (hf : fs[f]? = some fd)
    (hsh : E8 P fd.type = some sh) (z : β) (k : Value -> β) :
    X4 P (.part y fd.offset sh) T z k = z \/ ∃ v, X4 P (.part y fd.offset sh) T z k = k v /\ PV P d n o T v := by
  show C41 y fd.offset sh T z k = z \/ ∃ v, C41 y fd.offset sh T z k = k v /\ _
  unfold C41
  rw [G2]
  split
  · rename_i cs hv
    rcases J39 (P := P) hsh cs.toList fd.offset z k with h | ⟨v, h, hp⟩
    · exact .inl h
    · refine .inr ⟨v, h, fun F act w ht => ?_⟩
      have h1 := evX ht hx
      rw [hv] at h1
      obtain ⟨x', he, hl⟩ := h1.agg_inv
      obtain ⟨v', hv', hr⟩ := hp F x' w hl
      exact ⟨v', by simp [execOp, ho, he, Instr.field, run_underlying hs, hf, asAgg, hv'], hr⟩
  · exact .inl rfl
end
end
section
variable {F:FM} {I1 X1 Y1:X} {P:Program} {b neg:Bool} {dd:TypeDesc} {e t yt:TypeId} {i:TypeInfo} {ix x y:Operand} {len:Nat} {xs:List X}
theorem Z33{t:Option TypeDesc}{vx vy x' y':Value}(h:C8 t vx vy=some b)(hx:VR F vx x')(hy:VR F vy y'):C8 t x' y'=some b:=by
 unfold C8 at h
 split at h
 .rename_i a b';cases a<;>cases b'<;>simp at h<;>cases hx<;>cases hy<;>simp[C8,h]
 .rename_i a l1 c1 b' l2 c2;cases a<;>cases b'<;>simp at h<;>cases hx<;>cases hy<;>simp[C8,h]
 .rename_i a b';cases a<;>cases b'<;>simp at h<;>cases hx<;>cases hy<;>simp[C8,h]
 .cases hx;cases hy;simpa [C8] using h
 .cases hx;cases hy;simpa [C8] using h
 .cases hx;cases hy;simpa [C8] using h
 .cases h
theorem G41{x y:Value}(h:C8 (P.underlying t) x y=some b)(d:Nat)(w:World):(fW (d+1) t x y).run P w = .ok b w:=by
 unfold C8 at h
 split at h
 .rename_i a b' hu;cases a<;>cases b'<;>simp at h<;>subst h<;>simp[fW,run_underlying hu]
 .rename_i a l1 c1 b' l2 c2 hu;cases a<;>cases b'<;>simp at h<;>subst h<;>simp[fW,run_underlying hu]
 .rename_i a b' hu;cases a<;>cases b'<;>simp at h<;>subst h<;>simp[fW,run_underlying hu]
 .rename_i hu;simp at h;subst h;simp[fW,run_underlying hu]
 .rename_i hu;simp at h;subst h;simp[fW,run_underlying hu]
 .rename_i hu;simp at h;subst h;simp[fW,run_underlying hu]
 .cases h
theorem Y29{t':TypeId}{x y:Value}(h:C8 (P.underlying t) x y=some b)(op:BinOp)(xo yo:Operand)(w:World):(eqGuard op t' xo yo x y).run P w = .ok () w:=by
 unfold C8 at h
 split at h<;>first | (cases h;done) | (cases op<;>simp[eqGuard])
theorem W39{x y:Value}{b:Bool}(h:C8 (P.underlying t) x y=some b)(neg:Bool)(w:World):
  (binOp (if neg then .neq else .eql) t x y).run P w = .ok (.bool (cond neg (!b) b)) w:=by
 have hq:=G41 h 9999 w;have e:binOp (if neg then .neq else .eql) t x y=(do let r <- fW (9999+1) t x y;pure (.bool (cond neg (!r) r)):Sem Value):=by
  unfold C8 at h
  split at h<;>first | (cases h;done) | (cases neg<;>rfl)
 rw[e];cases neg<;>simp only[aS,hq,aM,cond_true,cond_false]<;>rfl
section
variable {β:Type} {P:Program} {d n:Nat} {o:Oper} {T:K0 Value}
theorem W43(ho:o.op = .binOp (if neg then .neq else .eql) t x y yt)(hx:W13 n x=some X1)(hy:W13 n y=some Y1)(z:β)(k:Value->β):
  X4 P (.eq neg (P.underlying t) X1 Y1 o) T z k=z\/∃ v,X4 P (.eq neg (P.underlying t) X1 Y1 o) T z k=k v/\PV P d n o T v:=by
 have E:∀(z:β) (k:Value->β),K20 P T [X1,Y1] o z k=z\/∃ v,K20 P T [X1,Y1] o z k=k v/\PV P d n o T v:=
  Z30 (by simp[ho]) (by simp only[ho,eI];intro q hq;simp at hq;rcases hq with rfl | rfl;exact⟨X1,by simp,hx⟩;exact⟨Y1,by simp,hy⟩)
 show M55 P T neg (P.underlying t) X1 Y1 o z k=z\/∃ v,M55 P T neg (P.underlying t) X1 Y1 o z k=k v/\_;unfold M55;rw[G2,G2]
 split
 .rename_i vx vy k1 a k2 b e1 e2
  cases hk:eqK k1 k2 with
  | false=>exact .inl rfl
  | true=>
   have hk:=J33 hk;subst hk;dsimp only[cond_true];rw[B21];refine .inr ⟨_,rfl,fun F J w ht => ?_⟩;have h1:=evX ht hx;have h2:=evX ht hy;rw[e1] at h1;rw[e2] at h2;have h1:=h1.int_inv;have h2:=h2.int_inv;refine⟨_,?_,.bool _⟩
   cases neg
   .simp[execOp,ho,h1,h2,eqGuard,binOp,Op.intCmp,Q26]
   .simp[execOp,ho,h1,h2,eqGuard,binOp,Op.intCmp,Q26];rfl
 .cases hs:(G27 (ev T X1) || G27 (ev T Y1)) with
  | false=>exact E z k
  | true=>
   dsimp only[cond_true]
   split
   .rename_i b hb
    rw[B21];refine .inr ⟨_,rfl,fun F J w ht=>⟨_,?_,.bool _⟩⟩;have hr:=Z33 hb (evX ht hx) (evX ht hy);have h1:=Y29 (t':=t) hr (if neg then .neq else .eql) x y w;have h2:=W39 hr neg w;simp only[execOp,ho,aS,h1,h2,aM]
    rfl
   .exact .inl rfl
theorem VR.string_inv{s:ByteArray}{v:Value}(h:VR F (.string s) v):v = .string s:=by cases h;rfl
theorem G13{f:VF}(h:∀ v,f.ev (xs.map (ev T))=some v->PV P d n o T v)(z:β)(k:Value->β):
  X4 P (.vf f xs) T z k=z\/∃ v,X4 P (.vf f xs) T z k=k v/\PV P d n o T v:=by
 show vfK f xs T z k=z\/∃ v,vfK f xs T z k=k v/\_;unfold vfK;rw[C22,J8]
 cases hv:f.ev (xs.map (ev T)) with
 | none=>exact .inl rfl
 | some v=>exact .inr ⟨v,rfl,h v hv⟩
theorem M60(ho:o.op = .binOp (if neg then .neq else .eql) t x y yt)(hx:W13 n x=some X1)(hy:W13 n y=some Y1)(hu:P.underlying t=some .bool)(z:β)(k:Value->β):
  X4 P (.vf (.eqb neg) [X1,Y1]) T z k=z\/∃ v,X4 P (.vf (.eqb neg) [X1,Y1]) T z k=k v/\PV P d n o T v:=by
 refine G13 (fun v hv => ?_) z k;simp only[List.map_cons,List.map_nil] at hv;unfold VF.ev at hv
 split at hv<;>first | (rename_i h0 _;cases h0;done) | skip
 .rename_i E a b h0 h1
  cases h0
  simp only[fM,and_true] at h1
  cases hv
  intro F J w ht;have e1:=evX ht hx;have e2:=evX ht hy;rw[h1.1] at e1;rw[h1.2] at e2;have e1:=e1.bool_inv;have e2:=e2.bool_inv;refine⟨_,?_,.bool _⟩;have hq:=run_equalIn_bool' (P:=P) w 9999 t a b hu
  cases neg
  .simp only[execOp,ho,e1,e2,eqGuard,binOp,Op.equal,Op.maxDepth,aS,dQ,if_false]
   simp[hq]
  .simp only[execOp,ho,e1,e2,eqGuard,binOp,Op.equal,Op.maxDepth,aS,if_true]
   simp[hq]
 .cases hv
theorem B20{td:TypeDesc}(ho:o.op = .binOp (if neg then .neq else .eql) t x y yt)(hx:W13 n x=some X1)(hy:W13 n y=some Y1)(hu:P.underlying t=some td)(z:β)(k:Value->β):
  X4 P (.vf (.eqn neg td) [X1,Y1]) T z k=z\/∃ v,X4 P (.vf (.eqn neg td) [X1,Y1]) T z k=k v/\PV P d n o T v:=by
 refine G13 (fun v hv => ?_) z k;simp only[List.map_cons,List.map_nil,VF.ev,bU] at hv;obtain⟨b,hb,rfl⟩:=hv;intro F E w ht;refine⟨_,?_,.bool _⟩;rw[<- hu] at hb;have hr:=Z33 hb (evX ht hx) (evX ht hy);have h1:=Y29 (t':=t) hr (if neg then .neq else .eql) x y w;have h2:=W39 hr neg w;simp only[execOp,ho,aS,h1,h2,aM]
 rfl
theorem X52{J:Nat}{a b a' b':Value}{q:Bool}(ht:W36 (P.underlying t)=some J)(hc:V34 J a b=some q)(ha:VR F a a')(hb:VR F b b')(w:World):
  (isAgg t).run P w = .ok false w/\(fW (9998+1) t a' b').run P w = .ok q w:=by
 unfold V34 at hc
 cases hu:P.underlying t with
 | none=>rw[hu] at ht;cases ht
 | some td=>
  rw[hu] at ht;have E:∀ td,P.underlying t=some td->G8 td=false->(isAgg t).run P w = .ok false w:=fun td h1 h2=>by rw[M14 h1,h2]
  split at hc
  .rename_i k1 m1 k2 m2
   cases hk:eqK k1 k2 with
   | false=>rw[hk] at hc;cases hc
   | true=>
    rw[hk] at hc;have:=J33 hk;subst this;simp at hc;subst hc;have e1:=ha.int_inv;have e2:=hb.int_inv;subst e1;subst e2
    cases td<;>simp[W36] at ht
    exact⟨E _ hu rfl,run_equalIn_int w 9998 t _ _ _ _ hu⟩
  .simp at hc;subst hc
   have e1:=ha.bool_inv;have e2:=hb.bool_inv;subst e1;subst e2
   cases td<;>simp[W36] at ht
   exact⟨E _ hu rfl,run_equalIn_bool' w 9998 t _ _ hu⟩
  .simp at hc;subst hc
   have e1:=ha.string_inv;have e2:=hb.string_inv;subst e1;subst e2
   cases td<;>simp[W36] at ht
   exact⟨E _ hu rfl,run_equalIn_string w 9998 t _ _ hu⟩
  .cases hc
theorem V29 {F : FM} {xs ys : List Value} {V O : Array Value} (hx : VL F xs V.toList) (hy : VL F ys O.toList) (w : World) : ∀ {fs : List Field} {offs : List (Nat × Nat)} {r : Bool}, (∀ f ∈ fs, f.name ≠ "_") -> D27 P fs = some offs -> G18 xs ys offs = some r -> (Op.eqFields (9998 + 1) V O fs).run P w = .ok r w
 | [],offs,r,_,h,he=>by simp[D27] at h;subst h;simp[G18] at he;subst he;rfl
 | f :: fs,offs,r,hn,h,he=>by
  simp only[D27] at h
  cases hf:W36 (P.underlying f.type) with
  | none=>simp[hf] at h
  | some W=>
   cases Q:D27 P fs with
   | none=>simp[hf,Q] at h
   | some os=>
    simp[hf,Q] at h;subst h;simp only[G18,Q8] at he
    cases E:xs[f.offset]? with
    | none=>simp[E] at he
    | some a=>cases J:ys[f.offset]? with
     | none=>simp[E,J] at he
     | some b=>
      simp only[E,J] at he
      cases hc:V34 W a b with
      | none=>simp[hc] at he
      | some q=>cases U:G18 xs ys os with
       | none=>simp[hc,U] at he
       | some q'=>
        simp[hc,U] at he;subst he;have ih:=V29 hx hy w (fs:=fs) (fun g hg=>hn g (by simp[hg])) Q U;obtain⟨a',a0,a3⟩:=hx.some E;obtain⟨b',Z,a2⟩:=hy.some J
        have a1 : f.name ≠ "_" := hn f (by simp)
        obtain⟨k1,k2⟩:=X52 (P:=P) hf hc a3 a2 w;have g1:V[f.offset]? = some a':=by simpa using a0
        have g2:O[f.offset]? = some b':=by simpa using Z
        unfold Op.eqFields;rw[if_pos a1];simp only[part,aS,k1,aM,dQ,if_false,g1,g2,bD,k2]
        cases q with
        | false=>simp
        | true=>simp[ih]
theorem Q57 {fs:Array Field} {offs:List (Nat × Nat)} (ho:o.op = .binOp (if neg then .neq else .eql) t x y yt) (hx:W13 n x=some X1) (hy:W13 n y=some Y1) (hu:P.underlying t=some (.struct fs)) (E:V43 P t fs.toList=some offs) (z:β) (k:Value->β):
  X4 P (.vf (.eqs neg offs) [X1,Y1]) T z k=z\/∃ v,X4 P (.vf (.eqs neg offs) [X1,Y1]) T z k=k v/\PV P d n o T v:=by
 refine G13 (fun v hv => ?_) z k;simp only[List.map_cons,List.map_nil] at hv;unfold V43 at E
 cases hb : (!P.stoodInHeld t && !P.eqGuardType P.depth t && fs.toList.all fun f => f.name != "_") with
 | false=>rw[hb] at E;cases E
 | true=>
  rw[hb] at E;simp only[cond_true] at E;simp only[aG,cJ,bW,bne_iff_ne] at hb;unfold VF.ev at hv
  split at hv<;>first | (rename_i h0 _;cases h0;done) | skip
  .rename_i V O a b h0 h1
   cases h0
   simp only[fM,and_true] at h1;rw[bU] at hv;obtain⟨r,hr,rfl⟩:=hv;intro F W w ht;have e1:=evX ht hx;have e2:=evX ht hy;rw[h1.1] at e1;rw[h1.2] at e2;obtain⟨a',ea,Q⟩:=e1.agg_inv;obtain⟨b',eb,U⟩:=e2.agg_inv;refine⟨_,?_,.bool _⟩;have J:P.fieldsOf t=fs:=by simp[Program.fieldsOf,hu]
   have hq:(fW (9999+1) t (.agg a') (.agg b')).run P w = .ok r w:=by
    rw[run_equalIn_struct w 9999 t a' b' (by rw[J];exact hu) hb.1.1,J];exact V29 Q U w hb.2 E hr
   have hg:=run_eqGuard_agg (P:=P) w (if neg then .neq else .eql) t x y a' b' hb.1.2;simp only[execOp,ho,ea,eb,aS,hg,aM]
   cases neg
   .have:=run_eql_struct (P:=P) w t a' b'
    simp only[dQ,if_false] at this ⊢;rw[this,hq];rfl
   .have:=run_neq_struct (P:=P) w t a' b'
    simp only[if_true] at this ⊢;rw[this,hq];rfl
  .cases hv
theorem K55(ho:o.op = .indexAddr t x ix)(hx:W13 n x=some X1)(E:W13 n ix=some I1)(J:P.underlying t=some (.slice e))(hi:P.info? e=some i)
  (z:β)(k:Value->β):X4 P (.idx X1 I1 none i.size) T z k=z\/∃ v,X4 P (.idx X1 I1 none i.size) T z k=k v/\PV P d n o T v:=by
 show R30 X1 I1 none i.size T z k=z\/∃ v,R30 X1 I1 none i.size T z k=k v/\_;unfold R30;rw[G2]
 split
 .rename_i kk m hv
  rw[G2];unfold N41
  split
  .rename_i a len c e1 e2
   obtain⟨b,o',s'⟩:=a
   cases hb:dE m len with
   | false=>exact .inl rfl
   | true=>
    dsimp only[cond_true];unfold U19;rw[G1];refine .inr ⟨_,rfl,fun F Q w ht => ?_⟩;have h1:=evX ht hx;have h2:=evX ht E;rw[e2] at h1;rw[hv] at h2;have hm:m<len:=by simpa using hb
    obtain⟨rfl,tt,c',hF,he,_⟩:=h1.slice_invP (by omega);have h2:=h2.int_inv;refine⟨.pointer (some ⟨tt.blk,tt.base+(o'+m*i.size),none⟩),?_,.ptr hF⟩;have O:(0:Int)<=Int.ofNat m/\Int.ofNat m<(len:Int):=⟨Int.natCast_nonneg m,by simpa using hm⟩
    simp only[execOp,ho,he,h2,Instr.indexAt,asIntOf,aS,bD,aM,run_underlying J];simp[hm,E3 hi,X11,eH]
  .rename_i e1 _;cases e1
  .exact .inl rfl
 .exact .inl rfl
theorem G53(ho:o.op = .indexAddr t x ix)(hx:W13 n x=some X1)(E:W13 n ix=some I1)(J:P.underlying t=some (.array len e))(hi:P.info? e=some i)
  (z:β)(k:Value->β):X4 P (.idx X1 I1 (some len) i.size) T z k=z\/∃ v,X4 P (.idx X1 I1 (some len) i.size) T z k=k v/\PV P d n o T v:=by
 show R30 X1 I1 (some len) i.size T z k=z\/∃ v,R30 X1 I1 (some len) i.size T z k=k v/\_;unfold R30;rw[G2]
 split
 .rename_i kk m hv
  rw[G2];unfold N41
  split
  .rename_i e1 _;cases e1
  .rename_i O a e1 e2
   cases e1
   obtain⟨b,o',s'⟩:=a
   cases hb:dE m len with
   | false=>exact .inl rfl
   | true=>
    dsimp only[cond_true];unfold U19;rw[G1];refine .inr ⟨_,rfl,fun F Q w ht => ?_⟩;have h1:=evX ht hx;have h2:=evX ht E;rw[e2] at h1;rw[hv] at h2;obtain⟨rfl,tt,hF,he⟩:=h1.ptr_inv;have h2:=h2.int_inv;have hm:m<len:=by simpa using hb
    refine⟨.pointer (some ⟨tt.blk,tt.base+(o'+m*i.size),none⟩),?_,.ptr hF⟩;simp only[execOp,ho,he,h2,Instr.indexAt,asIntOf,Instr.sureAddr,aS,bD,aM,run_underlying J];simp[hm,E3 hi,X11,eH]
  .exact .inl rfl
 .exact .inl rfl
theorem E55(ho:o.op = .index t x ix)(hx:W13 n x=some X1)(E:W13 n ix=some I1)(hu:P.underlying t=some .string)(z:β)(k:Value->β):
  X4 P (.vf .sidx [X1,I1]) T z k=z\/∃ v,X4 P (.vf .sidx [X1,I1]) T z k=k v/\PV P d n o T v:=by
 refine G13 (fun v hv => ?_) z k;simp only[List.map_cons,List.map_nil] at hv;unfold VF.ev at hv
 split at hv<;>first | (rename_i h0 _;cases h0;done) | skip
 .rename_i s kd m h0 h1
  simp only[fM,and_true] at h1;unfold J52 at hv;rw[bU] at hv;obtain⟨b,hb,rfl⟩:=hv;intro F J w ht;have e1:=evX ht hx;have e2:=evX ht E;rw[h1.1] at e1;rw[h1.2] at e2;have e1:=e1.string_inv;have e2:=e2.int_inv;refine⟨_,?_,.int _ _⟩;simp only[execOp,ho,e1,e2,Instr.index,asIntOf,aS,bD,aM,run_underlying hu,hb]
 .cases hv
theorem K59{E:TypeId}{kk:Nat}(ho:o.op = .sliceToArrayPointer E x)(hx:W13 n x=some X1)(hu:P.underlying E=some (.array kk e))(z:β)(k:Value->β):
  X4 P (.vf (.s2a kk) [X1]) T z k=z\/∃ v,X4 P (.vf (.s2a kk) [X1]) T z k=k v/\PV P d n o T v:=by
 refine G13 (fun v hv => ?_) z k;simp only[List.map_cons,List.map_nil] at hv;unfold VF.ev at hv
 split at hv<;>first | (rename_i h0 _;cases h0;done) | skip
 .rename_i O b o' len cap h0 h1
  cases h0
  simp only[fM,and_true] at h1
  cases hb:dD kk len with
  | false=>rw[hb] at hv;cases hv
  | true=>
   rw[hb] at hv
   cases hv
   have J:=Nat.le_of_ble_eq_true hb;intro F Q w ht;have e1:=evX ht hx;rw[h1] at e1;obtain⟨_,tt,c',hF,he,_⟩:=e1.slice_inv;refine⟨_,?_,.ptr hF⟩;simp only[execOp,ho,he,aS,bD,aM,Instr.arrayAt,run_underlying hu];simp[Nat.not_lt.2 J]
 .cases hv
theorem M59{mx:Bool}{F:FM}(w:World):∀ {l l':List Value} {x v:Value},VL F l l'->mmV mx x l=some v->(l'.foldlM (if mx then Builtin.max2 else Builtin.min2) x).run P w = .ok v w/\X7 v=true
 | [],l',x,v,hl,h=>by
  cases hl
  cases x<;>simp[mmV] at h
  subst h;exact⟨rfl,rfl⟩
 | y :: l,l',x,v,hl,h=>by
  cases hl with
  | cons hy hl=>
   unfold mmV at h
   split at h
   .rename_i h0;cases h0
   .rename_i h0
    simp only[fM] at h0;obtain⟨rfl,rfl⟩:=h0;have e:=hy.int_inv;subst e;have ih:=M59 w hl h;refine⟨?_,ih.2⟩;rw[List.foldlM_cons]
    cases mx
    .simp only[dQ,if_false,Builtin.min2,aS,bD,aM] at ih ⊢
     exact ih.1
    .simp only[if_true,Builtin.max2,aS,bD,aM] at ih ⊢
     exact ih.1
   .cases h
theorem Q24{mx:Bool}{c:Call}(ho:o.op = .call c)(hc:c.callee = .builtin (if mx then .max else .min))(Q:U7 n c.args.toList=some xs)(z:β)(k:Value->β):
  X4 P (.vf (.mm mx) xs) T z k=z\/∃ v,X4 P (.vf (.mm mx) xs) T z k=k v/\PV P d n o T v:=by
 refine G13 (fun v hv => ?_) z k;intro F J w ht;have hl:=W48 ht Q (by rw[ho];intro q hq;simp only[eI,fL,hc];exact fQ.2 (by simpa using hq));generalize V:xs.map (ev T)=ys at hv hl;generalize U:c.args.toList.map J.eval=zs at hl
 cases hl with
 | nil=>simp[VF.ev] at hv
 | @cons x x' l l' hx hl=>
  have E:mmV mx x l=some v:=hv;have O:x'=x:=by
   unfold mmV at E
   split at E
   .exact hx.int_inv
   .exact hx.int_inv
   .cases E
  obtain⟨h1,h2⟩:=M59 (P:=P) w hl E;refine⟨v,?_,C6 F v h2⟩;have hm:(c.args.map J.eval).toList=x :: l':=by rw[<- O];simpa using U
  cases mx
  .simp only[dQ,if_false] at h1 hc
   simp only[execOp,ho,resolve,hc,invoke,builtin,Builtin.min_,aS,bD,aM,hm,h1]
  .simp only[if_true] at h1 hc
   simp only[execOp,ho,resolve,hc,invoke,builtin,Builtin.max_,aS,bD,aM,hm,h1]
theorem Z52(ho:o.op = .index t x ix)(hx:W13 n x=some X1)(J:W13 n ix=some I1)(Q:P.underlying t=some (.array len e))(hi:P.info? e=some i)
  (hd:P.underlying e=some dd)(z:β)(k:Value->β):
  X4 P (.aidx X1 I1 len i.size (G8 dd)) T z k=z\/∃ v,X4 P (.aidx X1 I1 len i.size (G8 dd)) T z k=k v/\PV P d n o T v:=by
 show D41 X1 I1 len i.size (G8 dd) T z k=z\/∃ v,D41 X1 I1 len i.size (G8 dd) T z k=k v/\_;unfold D41;rw[G2]
 split
 .rename_i kk m hv
  rw[G2]
  split
  .rename_i cs e2
   cases hb:dE m len with
   | false=>exact .inl rfl
   | true=>
    dsimp only[cond_true];have O:E8 P e=some (cond (G8 dd) (some i.size) none):=by simp[E8,hd,hi]
    rcases J39 O cs.toList (m*i.size) z k with h | ⟨v,h,hp⟩
    .exact .inl h
    .refine .inr ⟨v,h,fun F U w ht => ?_⟩
     have h1:=evX ht hx;have h2:=evX ht J;rw[e2] at h1;rw[hv] at h2;obtain⟨x',he,hl⟩:=h1.agg_inv;have h2:=h2.int_inv;obtain⟨v',E,hr⟩:=hp F x' w hl;have hm:m<len:=by simpa using hb
     refine⟨v',?_,hr⟩;simp only[execOp,ho,he,h2,Instr.index,asIntOf,aS,bD,aM,run_underlying Q];simp[hm,E3 hi,E]
  .exact .inl rfl
 .exact .inl rfl
theorem X27(a:Act)(parts:Array (Nat × Operand)):(parts.map fun(i,x)=>(i,a.eval x)).toList=parts.toList.map fun p=>(p.1,a.eval p.2):=by
 simp
theorem C28{parts:Array (Nat × Operand)}{ps:List (Nat × X)}{zero:List Value}{pl:List (Nat × Nat)}(ho:o.op = .build t parts)(a0:R16 n parts.toList=some ps)(hz:M10 P t=some zero)
  (J:(∃ E,P.underlying t=some (.struct E)/\R13 P E.toList=some pl)\/(∃ kk e i,P.underlying t=some (.array kk e)/\P.info? e=some i/\pl=Y27 kk i.size))
  (z:β)(k:Value->β):X4 P (.build zero pl ps) T z k=z\/∃ v,X4 P (.build zero pl ps) T z k=k v/\PV P d n o T v:=by
 show W35 zero pl ps T z k=z\/∃ v,W35 zero pl ps T z k=k v/\_;unfold W35;rw[J45]
 split
 .rename_i cs hf
  rw[V14];refine .inr ⟨_,rfl,fun F U w ht => ?_⟩;obtain⟨it,v,V,Q,Z,O,_,_⟩:=X14 hz;subst Z;have hp:=G62 ht a0 (by rw[ho];intro p hp;simp only[eI];exact fQ.2 (by simp;exact⟨p.1,by simpa using hp⟩));rcases J with ⟨E,hu,J⟩ | ⟨kk,e,i,hu,hi,J⟩
  .obtain⟨r',hr,hl⟩:=B24 (pl:=nth pl) (pl':=(pl.toArray[·]?)) (fun i p h=>by rw[Q8] at h;simpa using h) hp (X12 O F) hf
   refine⟨.agg r',?_,?_⟩
   .have hb:P.built t (parts.map fun(i,x)=>(i,U.eval x)).toList=some r':=by
     rw[X27];simp only[Program.built,V,hu,Q,B34 J];exact hr
    simp only[execOp,ho,aS,run_build w t _ r' hb,aM];rfl
   .have:r'=⟨r'.toList⟩:=rfl
    rw[this];exact VR.agg' hl
  .obtain⟨r',hr,hl⟩:=B24 (pl:=nth pl) (pl':=fun k=>some (k*i.size,i.size)) (fun j p h=>by
    rw[Q8,J] at h;unfold Y27 at h;rw[cP] at h
    cases hj:(aY kk)[j]? with
    | none=>rw[hj] at h;cases h
    | some q=>
     rw[hj] at h;have:q=j:=by
      have W:j<kk:=by
       rcases aW j kk with g | g
       .exact g
       .simp[g] at hj
      simp[W] at hj;exact hj.symm
     subst this;simpa using h) hp (X12 O F) hf
   refine⟨.agg r',?_,?_⟩
   .have hb:P.built t (parts.map fun(i,x)=>(i,U.eval x)).toList=some r':=by
     rw[X27];simp only[Program.built,V,hu,Q,hi];exact hr
    simp only[execOp,ho,aS,run_build w t _ r' hb,aM];rfl
   .have:r'=⟨r'.toList⟩:=rfl
    rw[this];exact VR.agg' hl
 .exact .inl rfl
theorem D59{fn:Fn}{first E:Array Operand}{f c:List X}(ho:o.op = .makeFunc fn first E)(hf:U7 n first.toList=some f)(hc:U7 n E.toList=some c)
  (z:β)(k:Value->β):X4 P (.mkf fn f c) T z k=z\/∃ v,X4 P (.mkf fn f c) T z k=k v/\PV P d n o T v:=by
 show(U17 T f fun f=>U17 T c fun c=>k (.func fn ⟨f⟩ ⟨c⟩))=z\/∃ v,(U17 T f fun f=>U17 T c fun c=>k (.func fn ⟨f⟩ ⟨c⟩))=k v/\_;rw[C22,C22];refine .inr ⟨_,rfl,fun F J w ht=>⟨.func fn (first.map J.eval) (E.map J.eval),?_,?_⟩⟩
 .simp[execOp,ho,Instr.makeFunc]
 .have h1:=W48 ht hf (by rw[ho];intro q hq;simp[eI];exact .inl (by simpa using hq))
  have h2:=W48 ht hc (by rw[ho];intro q hq;simp[eI];exact .inr (by simpa using hq));exact .func fn (by simpa using h1.length) (fun i v v' a b=>h1.get i v v' (by simpa using a) (by simpa using b)) (by simpa using h2.length) (fun i v v' a b=>h2.get i v v' (by simpa using a) (by simpa using b))
theorem G59{y:X}(ho:o.op = .makeInterface t x)(hx:W13 n x=some y)(hu:P.underlying t=some dd)(hn:∀ ms,dd ≠ .interface ms)
  (z:β)(k:Value->β):X4 P (.mki t y) T z k=z\/∃ v,X4 P (.mki t y) T z k=k v/\PV P d n o T v:=by
 show(W4 T y fun v=>k (.iface t v))=z\/∃ v,(W4 T y fun v=>k (.iface t v))=k v/\_;rw[G2];refine .inr ⟨_,rfl,fun F E w ht=>⟨.iface t (E.eval x),?_,.iface t (evX ht hx)⟩⟩
 cases dd<;>simp[execOp,ho,Instr.makeInterface,run_underlying hu]
 exact absurd rfl (hn _)
end
end
section
variable {F:FM} {H1 L1:Option X} {P:Program} {X1:X} {cap len m:Nat} {hi hi' lo lo' mx:Option Value} {i:IP} {t:TypeId} {v:Value} {x:Operand}
def OV(F:FM)(x x':Option Value):Prop:=(x=none/\x'=none)\/∃ v v',x=some v/\x'=some v'/\VR F v v'
theorem OV.of{n:Nat}{o:Oper}{T:K0 Value}{a:Act}(ht:OR n o F T a){x:Option Operand}{y:Option X}(h:B71 n x=some y)(hm:∀ q,x=some q->q ∈ o.op.operands:=by rw[(‹o.op=_› : o.op=_)];intro q hq;subst hq;simp[Op.operands]):OV F (y.map (ev T)) (x.map a.eval):=by
 rcases evO ht h hm with ⟨rfl,rfl⟩ | ⟨x1,y1,rfl,rfl,hv⟩
 .exact .inl ⟨rfl,rfl⟩
 .exact .inr ⟨_,_,rfl,rfl,hv⟩
theorem M11{v':Value}{top E:Nat}(h:Y13 (some v) top=some m)(hv:VR F v v')(ht:top<=E)(G6:BoundsCode)(w:World):
  (Instr.sliceBound v' E G6).run P w = .ok m w/\m<=top:=by
 simp only[Y13] at h
 split at h
 .rename_i kk nn
  split at h
  .rename_i q
   cases hb:dD q top with
   | false=>rw[hb] at h;cases h
   | true=>
    rw[hb] at h;simp only[cond_true,aZ] at h;subst h;have hq:q<=top:=Nat.le_of_ble_eq_true hb;rw[hv.int_inv];refine⟨?_,hq⟩;have:q<=E:=bK hq ht;simp[Instr.sliceBound,asIntOf,this]
  .cases h
 .cases h
theorem Z18{mx':Option Value}(O:OV F lo lo')(Z:OV F hi hi')(a2:OV F mx mx'){cap' h l:Nat}(J:cap<=cap')
  (em:Y13 mx cap=some m)
  (eh:hiA hi mx len m=some h)
  (el:loA lo h=some l)(a0:Bool)(w:World):
  (fP a0 len cap' lo' hi' mx').run P w = .ok (l,h,if mx.isNone then cap' else m) w/\(mx=none->m=cap)/\(mx≠none->m<=cap):=by
 rcases a2 with ⟨rfl,rfl⟩ | ⟨vm,a3,rfl,rfl,U⟩
 .simp only[Y13,aZ] at em
  subst em;rcases Z with ⟨rfl,rfl⟩ | ⟨vh,a1,rfl,rfl,Q⟩
  .simp only[hiA,aZ] at eh
   subst eh;rcases O with ⟨rfl,rfl⟩ | ⟨vl,V,rfl,rfl,E⟩
   .simp only[loA,aZ] at el
    subst el;simp[fP]
   .have:=(M11 (P:=P) el E (aD _) .sliceB w).1
    simp[fP,this]
  .have h1:=fun c=>(M11 (P:=P) eh Q J c w).1
   rcases O with ⟨rfl,rfl⟩ | ⟨vl,V,rfl,rfl,E⟩
   .simp only[loA,aZ] at el
    subst el;simp[fP,h1]
   .have h2:=(M11 (P:=P) el E (aD _) .sliceB w).1
    simp[fP,h1,h2]
 .have h0:=fun c=>(M11 (P:=P) em U J c w).1
  have W:=(M11 (P:=P) em U J .index w).2;rcases Z with ⟨rfl,rfl⟩ | ⟨vh,a1,rfl,rfl,Q⟩
  .simp[hiA] at eh
  .have h1:=fun c=>(M11 (P:=P) eh Q (aD _) c w).1
   rcases O with ⟨rfl,rfl⟩ | ⟨vl,V,rfl,rfl,E⟩
   .simp only[loA,aZ] at el
    subst el;simp[fP,h0,h1,W]
   .have h2:=(M11 (P:=P) el E (aD _) .slice3C w).1
    simp[fP,h0,h1,h2,W]
theorem B23{a:Option Addr}{size:Nat}{E:Bool}{r:Value}(h:B26 a len cap size lo hi mx E=some r):
  ∃ m hh l,Y13 mx cap=some m/\hiA hi mx len m=some hh /\
   loA lo hh=some l /\
   (match a with
    | none=>r = .slice none (hh-l) (m-l)
    | some a=>l<=m/\¬ (E=true/\mx=none/\m=l/\l≠0)/\r = .slice (some (if m=l then a else { block:=a.block,off:=a.off+l*size,spot:=a.spot })) (hh-l) (m-l)):=by
 unfold B26 at h
 split at h
 .cases h
 .rename_i m em
  split at h
  .cases h
  .rename_i hh eh
   split at h
   .cases h
   .rename_i l el
    refine⟨m,hh,l,em,eh,el,?_⟩
    split at h
    .simp only[aZ] at h;exact h.symm
    .rename_i a
     cases hb:((E&&mx.isNone&&bR m l && !(bR l 0)) || !(dD l m)) with
     | true=>rw[hb] at h;cases h
     | false=>
      rw[hb] at h;simp only[cond_false,aZ] at h;subst h;rw[Bool.or_eq_false_iff] at hb;obtain⟨hb,O⟩:=hb;refine⟨by simpa using O,?_,?_⟩
      .rintro⟨rfl,rfl,rfl,h0⟩
       simp[h0] at hb
      .by_cases J:m=l
       .subst J;simp
       .have:bR m l=false:=by
         cases hq:bR m l with
         | false=>rfl
         | true=>exact absurd (bT hq) J
        simp[this,J]
section
variable {β:Type} {P:Program} {d n:Nat} {o:Oper} {T:K0 Value}
theorem B60{lo hi mx:Option Operand}{M1:Option X}{kk:Nat}{e:TypeId}{i:TypeInfo}(ho:o.op = .slice t x lo hi mx)(hx:W13 n x=some X1)
  (O:B71 n lo=some L1)(U:B71 n hi=some H1)(Q:B71 n mx=some M1)(hu:P.underlying t=some (.array kk e))(hi':P.info? e=some i)(z:β)(k:Value->β):
  X4 P (.slA X1 kk i.size L1 H1 M1) T z k=z\/∃ v,X4 P (.slA X1 kk i.size L1 H1 M1) T z k=k v/\PV P d n o T v:=by
 show U52 X1 kk i.size L1 H1 M1 T z k=z\/∃ v,U52 X1 kk i.size L1 H1 M1 T z k=k v/\_;unfold U52;rw[G2,C15,C15,C15]
 split
 .rename_i a hv
  split
  .rename_i r hr
   rw[E7];refine .inr ⟨r,rfl,fun F V w ht => ?_⟩;obtain⟨b,o',s'⟩:=a;have h1:=evX ht hx;rw[hv] at h1;obtain⟨rfl,tt,hF,he⟩:=h1.ptr_inv;obtain⟨m,hh,l,em,eh,el,_,_,hr⟩:=B23 hr;obtain⟨E,c1,c2⟩:=Z18 (P:=P) (OV.of ht O) (OV.of ht U) (OV.of ht Q) (aD kk) em eh el false w;have hm:(if (M1.map (ev T)).isNone then kk else m)=m:=by
    cases hM:M1.map (ev T) with
    | none=>simp[c1 hM]
    | some _=>simp
   rw[hm] at E;subst hr;refine⟨.slice (some (if m=l then ⟨tt.blk,tt.base+o',none⟩ else ⟨tt.blk,tt.base+(o'+l*i.size),none⟩)) (hh-l) (m-l),?_,?_⟩
   .simp only[execOp,ho,Instr.sliceAt,aS,run_underlying hu,aM,he,Instr.sureAddr,bD,E,E3 hi',X11,eH]
   .by_cases J:m=l
    .simp only[J,if_true];exact .slice hF (.inl rfl)
    .simp only[J,if_false];exact .slice hF (.inl rfl)
  .exact .inl rfl
 .exact .inl rfl
theorem C67{s:ByteArray}(J:OV F lo lo')(E:OV F hi hi')(h:G31 s lo hi=some v)(hu:P.underlying t=some .string)(w:World):
  (Instr.slice t (.string s) lo' hi' none).run P w = .ok v w/\X7 v=true:=by
 unfold G31 at h
 split at h
 .cases h
 .rename_i hh eh
  split at h
  .cases h
  .rename_i l el
   cases h
   refine⟨?_,rfl⟩;have hb:=Z18 (P:=P) J E (mx:=none) (mx':=none) (.inl ⟨rfl,rfl⟩) (len:=s.size) (cap:=s.size) (cap':=s.size) (m:=s.size) (h:=hh) (l:=l) (aD _) rfl (by
    cases hi with
    | none=>simpa [hiA] using eh
    | some q=>simpa [hiA] using eh) (by
    cases lo with
    | none=>simpa [loA] using el
    | some q=>simpa [loA] using el) false w
   simp only[Instr.slice,aS,run_underlying hu,aM,gO,dQ,if_false,bD,hb.1]
theorem N59{lo hi:Option Operand}{X1:X}(ho:o.op = .slice t x lo hi none)(hx:W13 n x=some X1)(Q:B71 n lo=some L1)(U:B71 n hi=some H1)(hu:P.underlying t=some .string)(z:β)(k:Value->β):
  X4 P (.vf (.ssl L1.isSome H1.isSome) (X1 :: (L1.toList++H1.toList))) T z k=z\/∃ v,X4 P (.vf (.ssl L1.isSome H1.isSome) (X1 :: (L1.toList++H1.toList))) T z k=k v/\PV P d n o T v:=by
 refine G13 (fun v hv => ?_) z k;have J:∃ s,ev T X1 = .string s/\G31 s (L1.map (ev T)) (H1.map (ev T))=some v:=by
  cases L1<;>cases H1<;>simp only[gO,Option.isSome_some,Option.toList_none,Option.toList_some,eR,dL,List.append_nil,List.map_cons,List.map_nil] at hv <;>
   (unfold VF.ev at hv;split at hv<;>first | (rename_i h0 _;cases h0;done) | (rename_i h0 h1;cases h0;simp only[fM,and_true] at h1;first | exact⟨_,h1,hv⟩ | (obtain⟨e1,e2⟩:=h1;subst e2;exact⟨_,e1,hv⟩) | (obtain⟨e1,e2,e3⟩:=h1;subst e2;subst e3;exact⟨_,e1,hv⟩)) | cases hv)
 obtain⟨s,hs,hv⟩:=J;intro F V w ht;have e1:=evX ht hx;rw[hs] at e1;have e1:=e1.string_inv;obtain⟨E,O⟩:=C67 (P:=P) (OV.of ht Q) (OV.of ht U) hv hu w;refine⟨v,?_,C6 F v O⟩;simp only[execOp,ho,Instr.sliceAt,e1,Option.map_none,aS,run_underlying hu,aM,E,bD]
theorem N67 (h : G19 P n o = some (.p i)) (z : β) (k : Value -> β) :
    X4 P i T z k = z \/ ∃ v, X4 P i T z k = k v /\ PV P d n o T v := by
  unfold G19 at h
  split at h
  · rename_i x ho
    cases hx : W13 n x with
    | none => simp [hx] at h
    | some y => simp [hx] at h; subst h; exact C43 (.inl ho) hx z k
  · rename_i x ho
    cases hx : W13 n x with
    | none => simp [hx] at h
    | some y => simp [hx] at h; subst h; exact C43 (.inr ho) hx z k
  · rename_i c a b ho
    split at h
    · rename_i h1 h2 h3; cases h; exact U55 ho h1 h2 h3 z k
    · cases h
  · rename_i op t x y yt ho
    split at h
    · rename_i h1 h2
      split at h
      · cases h; exact J26 ho h1 h2 z k
      · rename_i neg he
        have ho' : o.op = .binOp (if neg then .neq else .eql) t x y yt := by
          cases op <;> simp [N69] at he <;> subst he <;> simpa using ho
        split at h
        · cases h; exact J26 ho h1 h2 z k
        · cases h; exact J26 ho h1 h2 z k
        · rename_i hu; cases h; exact M60 ho' h1 h2 hu z k
        · rename_i hu; cases h; exact B20 ho' h1 h2 hu z k
        · rename_i hu; cases h; exact B20 ho' h1 h2 hu z k
        · rename_i hu; cases h; exact B20 ho' h1 h2 hu z k
        · rename_i hu; cases h; exact B20 ho' h1 h2 hu z k
        · rename_i fs hu
          split at h
          · rename_i offs hof; cases h; exact Q57 ho' h1 h2 hu hof z k
          · cases h; exact W43 ho' h1 h2 z k
        · cases h; exact W43 ho' h1 h2 z k
    · cases h
  · rename_i u t x ho
    split at h
    · rename_i h1
      cases h
      exact C63 ho h1 z k
    · cases h
  · rename_i s x f ho
    split at h
    · rename_i fs h1 h2
      split at h
      · rename_i fd hf
        split at h
        · rename_i inf hi
          cases hz : Nat.beq inf.size 0 with
          | true => rw [hz] at h; cases h
          | false =>
            rw [hz] at h; cases h
            rw [Q8] at hf
            exact K57 ho h1 h2 (by simpa using hf) hi (fun e => by rw [e] at hz; cases hz) z k
        · cases h
      · cases h
    · cases h
  · rename_i t x ix ho
    split at h
    · rename_i h1 h2 h3
      split at h
      · rename_i hi; cases h; exact K55 ho h1 h2 h3 hi z k
      · cases h
    · rename_i h1 h2 h3
      split at h
      · rename_i hi; cases h; exact G53 ho h1 h2 h3 hi z k
      · cases h
    · cases h
  · rename_i x ho
    cases hx : W13 n x with
    | none => simp [hx] at h
    | some y => simp [hx] at h; subst h; exact M52 ho hx z k
  · rename_i x j ho
    cases hx : W13 n x with
    | none => simp [hx] at h
    | some y => simp [hx] at h; subst h; exact B59 ho hx z k
  · rename_i t x f ho
    split at h
    · rename_i fs h1 h2
      split at h
      · rename_i fd hf
        cases hs : E8 P fd.type with
        | none => simp [hs] at h
        | some sh =>
          simp [hs] at h; subst h
          rw [Q8] at hf
          exact V54 ho h1 h2 (by simpa using hf) hs z k
      · cases h
    · cases h
  · rename_i t x ix ho
    split at h
    · rename_i h1 h2 h3
      split at h
      · rename_i hi hd; cases h; exact Z52 ho h1 h2 h3 hi hd z k
      · cases h
    · rename_i h1 h2 h3
      cases h
      exact E55 ho h1 h2 h3 z k
    · cases h
  · rename_i t parts ho
    split at h
    · rename_i fields zz ps h1 h2 h3
      cases hp : R13 P fields.toList with
      | none => simp [hp] at h
      | some pl => simp [hp] at h; subst h; exact C28 ho h3 h2 (.inl ⟨fields, h1, hp⟩) z k
    · rename_i kk e zz ps h1 h2 h3
      split at h
      · rename_i hi; cases h; exact C28 ho h3 h2 (.inr ⟨_, _, _, h1, hi, rfl⟩) z k
      · cases h
    · cases h
  · rename_i t x lo hi mx ho
    split at h
    · rename_i h1 h2 h3 h4 h5
      split at h <;> cases h
    · rename_i h1 h2 h3 h4 h5
      split at h
      · rename_i hinf; cases h; exact B60 ho h1 h2 h3 h4 h5 hinf z k
      · cases h
    · rename_i x1 lo1 hi1 h1 h2 h3 h4 h5
      cases h
      have hmx : mx = none := by
        cases mx with
        | none => rfl
        | some q => simp only [B71] at h4; cases hq : W13 n q <;> simp [hq] at h4
      subst hmx
      exact N59 ho h1 h2 h3 h5 z k
    · cases h
  · rename_i fn first captured ho
    split at h
    · rename_i h1 h2; cases h; exact D59 ho h1 h2 z k
    · cases h
  · rename_i t x ho
    split at h
    · cases h
    · rename_i h1 h2 h3
      cases h
      exact G59 ho h2 h3 (fun ms e => h1 ms e) z k
    · cases h
  all_goals first
    | (rename_i arr x ho
       split at h
       · rename_i h1 h2
         cases h
         exact K59 ho h1 h2 z k
       · cases h)
    | (rename_i c ho
       split at h
       · split at h <;> cases h
       · split at h
         · split at h
           · split at h
             · split at h
               · cases h
               · cases hq : Nat.blt 0 _ <;> rw [hq] at h <;> cases h
             · cases h
           · cases h
         · cases h
       · split at h
         · split at h
           · cases hq : P.info? _ <;> rw [hq] at h <;> cases h
           · cases h
         · cases h
       · split at h
         · split at h <;> cases h
         · cases h
       · cases hq : U7 n c.args.toList with
         | none => rw [hq] at h; cases h
         | some xs =>
           rw [hq] at h; cases h
           rename_i hcal
           first | exact Q24 (mx := false) ho hcal hq z k | exact Q24 (mx := true) ho hcal hq z k
       · cases hq : U7 n c.args.toList with
         | none => rw [hq] at h; cases h
         | some xs =>
           rw [hq] at h; cases h
           rename_i hcal
           first | exact Q24 (mx := false) ho hcal hq z k | exact Q24 (mx := true) ho hcal hq z k
       · split at h
         · split at h
           · cases h
           · cases hq : M10 P _ <;> rw [hq] at h <;> cases h
           · cases h
         · cases h
       · cases h)
    | (cases h; done)
    | (split at h <;> cases h; done)
    | (repeat' (first | (cases h; done) | split at h))
    | skip
  all_goals first
    | (rw [Bool.cond_eq_ite] at h; split at h <;> cases h; done)
    | (rw [Option.map_eq_some_iff] at h; obtain ⟨_, _, h⟩ := h; cases h; done)
theorem K61(h:W18 P n o=some (.p i))(z:β)(k:Value->β):
  X4 P i T z k=z\/∃ v,X4 P i T z k=k v/\PV P d n o T v:=by
 rcases E20 h with h | h
 .exact N67 h z k
 .cases h;exact .inl (by simp only[X4,vfK,U17];rfl)
end
end
section
variable {F:FM} {H:Y0} {P:Program} {b:V3} {c:List Value} {dst src t:TypeId} {i nx:Nat} {kd:TypeDesc} {sh:Option Nat} {v:Value} {w:World} {x:Operand} {y:X}
structure HB (F:FM) (H:Y0) (nx:Nat) (w:World):Prop where
 blk:∀ i b,i<nx->J0 H i=some b->∃ t,F i=some t/\BR F t b w
 fresh:∀ i,nx<=i->F i=none
theorem HR.hb(h:HR F H nx w):HB F H nx w:=⟨h.blk,h.fresh⟩
theorem HB.lt(h:HB F H nx w){t:J7}(hi:F i=some t):i<nx:=by
 rcases aW i nx with g | g
 .exact g
 .rw[h.fresh i g] at hi;cases hi
theorem HB.get(h:HB F H nx w){t:J7}(hi:F i=some t)(hb:J0 H i=some b):BR F t b w:=by
 obtain⟨t',E,hr⟩:=h.blk i b (h.lt hi) hb;rw[hi] at E;cases E;exact hr
def RV(P:Program)(d n nx:Nat)(o:Oper)(T:K0 Value)(H:Y0)(v:Value):Prop:=
 ∀(F:FM) (a:Act) (w:World),OR n o F T a->HB F H nx w->∃ v',(execOp a.eval o).run P w = .ok (.value v') w/\VR F v v'
theorem PV.rv{d n:Nat}{o:Oper}{T:K0 Value}(h:PV P d n o T v)(nx:Nat)(H:Y0):RV P d n nx o T H v:=fun F a w ht _=>h F a w ht
def V3.row:V3->Option (List Value)
 | .cells c _=>some c
 | .rom c=>some c
 | _=>none
theorem BR.row {F:FM} {t:J7} {b:V3} {c:List Value} {w:World} (h:BR F t b w) (hc:b.row=some c):
  ∃ c' e m,w.heap[t.blk]? = some (.cells c' e m)/\t.base+c.length<=c'.size/\VL F c ((c'.toList.drop t.base).take c.length):=by
 cases b with
 | cells c1 sl=>cases hc;obtain⟨c',e,h1,h2,h3,h4,h5,h6⟩:=h;exact⟨c',e,_,h1,by omega,h6⟩
 | rom c1=>cases hc;obtain⟨c',e,m,h1,h2,h3,h4,h5,h6⟩:=h;exact⟨c',e,m,h1,by omega,h6⟩
 | map es k=>cases hc
theorem B62 {t:J7} (h:BR F t b w) (hrow:b.row=some c) {j:Nat} (hv:c[j]? = some v):
  ∃ v',w.cell? ⟨t.blk,t.base+j,none⟩=some v'/\VR F v v':=by
 obtain⟨c',e,m,h1,h5,h6⟩:=h.row hrow
 obtain⟨v',hv',hr⟩:=h6.some hv
 refine⟨v',?_,hr⟩
 have hj:j<c.length:=by
  rcases Nat.lt_or_ge j c.length with g | g
  .exact g
  .simp[List.getElem?_eq_none g] at hv
 simp[hj] at hv'
 simp[World.cell?,h1,hv']
theorem E31{α:Type}:∀ {n:Nat} {l r:List α},G5 n l=some r->r=l.take n/\r.length=n
 | 0,l,r,h=>by simp[G5] at h;subst h;simp
 | n+1,[],r,h=>by simp[G5] at h
 | n+1,a :: l,r,h=>by
  simp only[G5] at h
  cases hq:G5 n l with
  | none=>simp[hq] at h
  | some r'=>
   simp[hq] at h;subst h;obtain⟨h1,h2⟩:=E31 hq;simp[<- h1,h2]
theorem N36 {t:J7} (h:BR F t b w) (hrow:b.row=some c) {o m:Nat} {l:List Value} (hl:G5 m (c.drop o)=some l):
  ∃ l',(∀ w2:World,w2.heap=w.heap->(loadCells ⟨t.blk,t.base+o,none⟩ m).run P w2 = .ok l'.toArray w2)/\VL F l l'/\l.length=m:=by
 obtain⟨e1,e2⟩:=E31 hl
 obtain⟨c',e,mk,h1,h5,h6⟩:=h.row hrow
 have hv:VL F l (((((c'.toList.drop t.base).take c.length).drop o).take m)):=by rw[e1];exact (h6.drop o).take m
 refine⟨_,fun w2 hw2 => ?_,hv,e2⟩
 have hlen:=hv.length
 have:=run_loadCells_list (P:=P) w2 ⟨t.blk,t.base+o,none⟩ ((((c'.toList.drop t.base).take c.length).drop o).take m) (fun j v hj=>by
  rw[X11]
  have hj2:j<m:=by
   rcases Nat.lt_or_ge j m with g | g
   .exact g
   .simp[List.getElem?_take,Nat.not_lt.2 g] at hj
  have hoc:o+j<c.length:=by
   rcases Nat.lt_or_ge (o+j) c.length with g | g
   .exact g
   .simp[List.getElem?_take,hj2,Nat.not_lt.2 g] at hj
  simp[hj2,hoc] at hj
  simp[World.cell?,hw2,h1,Nat.add_assoc,hj])
 rw[<- hlen,e2] at this
 exact this
theorem Y11(hu:P.underlying t=some kd)(hk:Q9 kd v=true)(e:Bool)(n:Nat)(w:World):(Instr.checkKey e (n+1) t v).run P w = .ok () w:=by
 cases kd<;>cases v<;>simp[Q9] at hk<;>simp[Instr.checkKey,run_underlying hu]
theorem W20(hk:Q9 kd v=true):M4 v=true:=by
 cases kd<;>cases v<;>simp[Q9] at hk<;>rfl
theorem E17{k:Value}{es es':List MapEntry}(h:EL F es es'):∀(j:Nat),
  (dP kd k es j=none->dP kd k es' j=none) /\
  (dP kd k es j=some none->dP kd k es' j=some none) /\
  (∀ i v,dP kd k es j=some (some (i,v))->∃ v',dP kd k es' j=some (some (i,v'))/\VR F v v'):=by
 induction h with
 | nil=>intro j;simp[dP]
 | @cons key v v' b l l' hk hv _ ih=>
  intro j;simp only[dP]
  cases hs:Instr.sameNow kd k key with
  | none=>simp
  | some q=>
   cases q with
   | true=>
    refine⟨by simp,by simp,?_⟩;intro i u h;simp at h;obtain⟨rfl,rfl⟩:=h;exact⟨v',by simp,hv⟩
   | false=>simpa using ih (j+1)
theorem EL.length{F:FM}{l l':List MapEntry}(h:EL F l l'):l.length=l'.length:=by
 induction h with
 | nil=>rfl
 | cons _ _ _ ih=>simp[ih]
theorem M7{r:Nat}{es:Array MapEntry}{c:Nat}(h:w.heap[r]? = some (.map es c)):(getObj r).run P w = .ok (.map es c) w:=by
 simp[getObj,Sem.run,h]
section
variable {β:Type} {P:Program} {d n nx:Nat} {o:Oper} {T:K0 Value} {H:Y0}
theorem M68 (hsh:E8 P t=some sh) {b off:Nat} {tt:J7} (hF:F b=some tt) (hb:HB F H nx w) {blk:V3} (hg:J0 H b=some blk):
  ∀ (v:Value),(∃ (k:Value->Option Value),(∀ u,k u=some u)/\ldB off sh none k blk=some v)->∃ v',(loadVar t ⟨tt.blk,tt.base+off,none⟩).run P w = .ok v' w/\VR F v v':=by
 intro v ⟨k,hk,h⟩
 obtain⟨dd,i,hu,hi,rfl⟩:=Q32 hsh
 have hbr:=hb.get hF hg
 have main:∀ c,blk.row=some c->ldC off (cond (G8 dd) (some i.size) none) none k c=some v->∃ v',(loadVar t ⟨tt.blk,tt.base+off,none⟩).run P w = .ok v' w/\VR F v v':=by
  intro c hrow h
  unfold ldC at h
  cases hd:G8 dd with
  | false=>
   simp only[hd,cond_false] at h
   rw[Z12] at h
   cases hv:c[off]? with
   | none=>rw[hv] at h;cases h
   | some u=>
    rw[hv] at h
    simp only[Option.elim_some,hk,Option.some.injEq] at h
    subst h
    obtain⟨v',hc,hr⟩:=B62 hbr hrow hv
    exact⟨v',by simp[loadVar,M14 hu,hd,hc],hr⟩
  | true=>
   simp only[hd,cond_true] at h
   split at h
   .rename_i l hl
    rw[V14,hk] at h
    simp only[Option.some.injEq] at h
    subst h
    obtain⟨l',hrun,hvl,hlen⟩:=N36 (P:=P) hbr hrow hl
    refine⟨.agg l'.toArray,?_,?_⟩
    .simp[loadVar,M14 hu,hd,E3 hi,hrun w rfl]
    .exact VR.agg' hvl
   .cases h
 cases blk with
 | map es c=>simp[ldB] at h
 | cells c sl=>exact main c rfl h
 | rom c=>exact main c rfl h
theorem Q39(off:Nat)(sh:Option Nat)(z:β)(k:Value->β)(c:List Value):
  ldC off sh z k c=z\/∃ v,ldC off sh z k c=k v/\ldC off sh none some c=some v:=by
 unfold ldC
 cases sh with
 | none=>
  dsimp only;rw[Z12,Z12]
  cases c[off]? with
  | none=>exact .inl rfl
  | some u=>exact .inr ⟨u,rfl,rfl⟩
 | some m=>
  dsimp only
  split
  .rw[V14,V14];exact .inr ⟨_,rfl,rfl⟩
  .exact .inl rfl
theorem E57(off:Nat)(sh:Option Nat)(z:β)(k:Value->β)(blk:V3):
  ldB off sh z k blk=z\/∃ v,ldB off sh z k blk=k v/\ldB off sh none some blk=some v:=by
 cases blk with
 | map es c=>exact .inl rfl
 | cells c sl=>exact Q39 off sh z k c
 | rom c=>exact Q39 off sh z k c
theorem M38(J:E8 P t=some sh)(y:X)(z:β)(k:Value->β):
  rLd y sh T H z k=z\/∃ v,rLd y sh T H z k=k v/\∀(F:FM) (x':Value) (w:World),VR F (ev T y) x'->HB F H nx w->∃ a v',x' = .pointer (some a)/\(loadVar t a).run P w = .ok v' w/\VR F v v':=by
 unfold rLd;rw[G2]
 split
 .rename_i b off hv
  rw[Y4]
  cases hg:J0 H b with
  | none=>exact .inl rfl
  | some blk=>
   dsimp only[aN];rcases E57 off sh z k blk with h | ⟨v,h,h'⟩
   .exact .inl h
   .refine .inr ⟨v,h,fun F x' w hx hb => ?_⟩
    rw[hv] at hx;obtain⟨_,tt,hF,rfl⟩:=hx.ptr_inv;obtain⟨v',hr,E⟩:=M68 (H:=H) (nx:=nx) J hF hb hg v ⟨some,fun _=>rfl,h'⟩;exact⟨_,v',rfl,hr,E⟩
 .exact .inl rfl
theorem N62(ho:o.op = .load t x)(hx:W13 n x=some y)(E:E8 P t=some sh)(z:β)(k:Value->β):
  M9 P (.ld y sh) T H z k=z\/∃ v,M9 P (.ld y sh) T H z k=k v/\RV P d n nx o T H v:=by
 rcases M38 (nx:=nx) (T:=T) (H:=H) E y z k with h | ⟨v,h,hp⟩
 .exact .inl h
 .refine .inr ⟨v,h,fun F a w ht hb => ?_⟩
  obtain⟨ad,v',he,hr,hv⟩:=hp F (a.eval x) w (evX ht hx) hb;exact⟨v',by simp[execOp,ho,he,Instr.loadAt,Instr.sureAddr,hr],hv⟩
theorem Q63{ix:Operand}{ok:Bool}{X1 I1:X}{key V:TypeId}{ie:TypeInfo}{zero:Value}(ho:o.op = .lookup t x ix ok)(hx:W13 n x=some X1)(W:W13 n ix=some I1)
  (hu:P.underlying t=some (.map key V))(hk:P.underlying key=some kd)(a0:P.info? V=some ie)(hz:ie.zero=some zero)(Z:X7 zero=true)(z:β)(k:Value->β):
  M9 P (.lk kd zero X1 I1 ok) T H z k=z\/∃ v,M9 P (.lk kd zero X1 I1 ok) T H z k=k v/\RV P d n nx o T H v:=by
 show rLk kd zero X1 I1 ok T H z k=z\/∃ v,rLk kd zero X1 I1 ok T H z k=k v/\_;unfold rLk;rw[G2,G2]
 cases Q:Q9 kd (ev T I1) with
 | false=>exact .inl rfl
 | true=>
  dsimp only[cond_true];have U:∀(es:List MapEntry),(∀(F:FM) (a:Act) (w:World),OR n o F T a->HB F H nx w->∃ es':Array MapEntry,EL F es es'.toList /\
     ((a.eval x = .map none/\es' = #[])\/∃ r c,a.eval x = .map (some r)/\w.heap[r]? = some (.map es' c))) ->
    ((match dP kd (ev T I1) es 0 with
     | some (some (_,v))=>cond ok (k (.tuple ⟨[v,.bool true]⟩)) (k v)
     | some none=>cond ok (k (.tuple ⟨[zero,.bool false]⟩)) (k zero)
     | none=>z)=z\/∃ v,(match dP kd (ev T I1) es 0 with
     | some (some (_,v))=>cond ok (k (.tuple ⟨[v,.bool true]⟩)) (k v)
     | some none=>cond ok (k (.tuple ⟨[zero,.bool false]⟩)) (k zero)
     | none=>z)=k v/\RV P d n nx o T H v):=by
   intro es a1
   split
   .rename_i j v hf
    refine .inr ⟨if ok then .tuple ⟨[v,.bool true]⟩ else v,by cases ok<;>rfl,fun F a w ht hb => ?_⟩;obtain⟨es',E,J⟩:=a1 F a w ht hb;have hi:=C11 (evX ht W) (W20 Q);obtain⟨v',O,hr⟩:=(E17 (kd:=kd) (k:=ev T I1) E 0).2.2 _ _ hf;refine⟨if ok then .tuple #[v',.bool true] else v',?_,?_⟩
    .rcases J with ⟨he,rfl⟩ | ⟨r,c,he,hw⟩
     .simp[dP] at O
     .simp only[execOp,ho,Instr.lookup,aS,run_underlying hu,aM,he,M7 hw,hi,Y11 hk Q _ 9999,Instr.findKey,run_underlying hk,O,bD]
    .cases ok
     .exact hr
     .exact VR.tuple' (.cons hr (.cons (.bool true) .nil))
   .rename_i hf
    refine .inr ⟨if ok then .tuple ⟨[zero,.bool false]⟩ else zero,by cases ok<;>rfl,fun F a w ht hb => ?_⟩;obtain⟨es',E,J⟩:=a1 F a w ht hb;have hi:=C11 (evX ht W) (W20 Q);have O:=(E17 (kd:=kd) (k:=ev T I1) E 0).2.1 hf;refine⟨if ok then .tuple #[zero,.bool false] else zero,?_,?_⟩
    .rcases J with ⟨he,rfl⟩ | ⟨r,c,he,hw⟩
     .simp only[execOp,ho,Instr.lookup,aS,run_underlying hu,aM,he,hi,Y11 hk Q _ 9999,Instr.findKey,run_underlying hk,O,bD,zeroValue,K8 a0,hz]
     .simp only[execOp,ho,Instr.lookup,aS,run_underlying hu,aM,he,M7 hw,hi,Y11 hk Q _ 9999,Instr.findKey,run_underlying hk,O,bD,zeroValue,K8 a0,hz]
    .cases ok
     .exact C6 F zero Z
     .exact VR.tuple' (.cons (C6 F zero Z) (.cons (.bool false) .nil))
   .exact .inl rfl
  split
  .rename_i hv
   refine U [] (fun F a w ht _=>⟨#[],.nil,.inl ⟨?_,rfl⟩⟩);have h1:=evX ht hx;rw[hv] at h1;generalize a.eval x=q at h1
   cases h1
   rfl
  .rename_i r hv
   rw[Y4]
   cases hg:J0 H r with
   | none=>exact .inl rfl
   | some blk=>
    dsimp only[aN]
    split
    .rename_i l c
     refine U l (fun F a w ht hb => ?_);have h1:=evX ht hx;rw[hv] at h1;generalize a.eval x=q at h1
     cases h1 with
     | map hF=>
      obtain⟨_,es',hw,E⟩:=hb.get hF hg;exact⟨es',E,.inr ⟨_,_,rfl,hw⟩⟩
    .exact .inl rfl
  .exact .inl rfl
theorem M48{kd:IntKind}{sd:TypeDesc}(ho:o.op = .convert src dst x)(hx:W13 n x=some y)
  (h1:P.underlying dst=some (.int kd))(h2:P.underlying src=some sd)(z:β)(k:Value->β):
  M9 P (.convI kd y) T H z k=z\/∃ v,M9 P (.convI kd y) T H z k=k v/\RV P d n nx o T H v:=by
 show X34 kd y T H z k=z\/∃ v,X34 kd y T H z k=k v/\_;unfold X34;rw[G2]
 split
 .rename_i k0 m hv
  have key:RV P d n nx o T H (.int kd (kd.wrap m)):=fun F a w ht _=>by
   have h3:=evX ht hx;rw[hv] at h3;have h3:=h3.int_inv;refine⟨.int kd (kd.wrap m),?_,.int _ _⟩
   cases sd<;>simp[execOp,ho,h3,convert,run_underlying h1,run_underlying h2,Conv.intToInt]
  cases hf:Q14 kd m with
  | false=>simp only[cond_false];rw[J21];exact .inr ⟨_,rfl,key⟩
  | true=>simp only[cond_true];have hw:=Z21 hf;rw[hw] at key;exact .inr ⟨_,rfl,key⟩
 .exact .inl rfl
theorem J32(ho:o.op = .convert src dst x)(hx:W13 n x=some y)(z:β)(k:Value->β):
  M9 P (.conv y o) T H z k=z\/∃ v,M9 P (.conv y o) T H z k=k v/\RV P d n nx o T H v:=by
 rcases Z30 (P:=P) (d:=d) (n:=n) (T:=T) (xs:=[y]) (o:=o) (by simp[ho]) (by simp only[ho,eI];intro q hq;simp at hq;subst hq;exact⟨y,by simp,hx⟩) z k with h | ⟨v,h,hp⟩
 .exact .inl h
 .exact .inr ⟨v,h,hp.rv nx H⟩
theorem W30:∀{l:List Value}{bs:List UInt8},R22 l=some bs->l=(bs.map fun b=>(b.toNat:Int)).map (cD .u8)
 | [],bs,h=>by cases h;rfl
 | v :: r,bs,h=>by
  unfold R22 at h
  split at h
  .rename_i h0;cases h0
  .rename_i n r' h0
   cases h0
   cases hb:dE n 256 with
   | false=>rw[hb] at h;cases h
   | true=>
    rw[hb] at h;simp only[cond_true] at h
    split at h
    .rename_i l hl
     cases h
     rw[W30 hl];have hn:n<256:=by simpa using hb
     have e:((UInt8.ofNat n).toNat:Int)=Int.ofNat n:=by
      rw[UInt8.toNat_ofNat'];have:n%2^8=n:=bV (by simpa using hn);rw[this];rfl
     simp only[List.map_cons,e]
    .cases h
  .cases h
theorem D57(bs:List Int):((bs.map (cD .u8)).all M4)=true:=by
 rw[bW];intro v hv;obtain⟨b,_,rfl⟩:=gN.1 hv
 rfl
theorem Y55(bs:List UInt8):(bs.map fun b=>(b.toNat:Int)).foldl (fun r n=>r.push (UInt8.ofNat n.toNat)) ByteArray.empty=⟨⟨bs⟩⟩:=by
 rw[foldl_push_bytes,List.map_map];have:(bs.map ((fun n:Int=>UInt8.ofNat n.toNat) ∘ fun b:UInt8=>(b.toNat:Int)))=bs:=by
  conv=>rhs;rw[<- List.map_id bs]
  exact List.map_congr_left fun b _=>by simp
 rw[this];simp[ByteArray.empty,ByteArray.emptyWithCapacity]
 rfl
theorem G57 {e:TypeId} (ho:o.op = .convert src dst x) (hx:W13 n x=some y) (hs:P.underlying src=some (.slice e)) (he:P.underlying e=some (.int .u8)) (hd:P.underlying dst=some .string) (z:β) (k:Value->β):
  M9 P (.str y) T H z k=z\/∃ v,M9 P (.str y) T H z k=k v/\RV P d n nx o T H v:=by
 show Q53 y T H z k=z\/∃ v,Q53 y T H z k=k v/\_
 unfold Q53
 rw[G2]
 split
 .rename_i len cap hv
  refine .inr ⟨_,rfl,fun F a w ht hb => ?_⟩
  have h3:=evX ht hx
  rw[hv] at h3
  have h3:=h3.sliceN_inv
  refine⟨_,?_,.string _⟩
  have:=run_convert_bytes_nil (P:=P) w src e hs he len cap dst hd
  simp only[execOp,ho,h3,Sem.run_bind,this,Result.andThen_ok]
  rfl
 .rename_i a len cap hv
  obtain⟨b,off,s⟩:=a
  unfold B19
  cases s with
  | some q=>exact .inl rfl
  | none=>
   dsimp only
   rw[Y4]
   cases hg:J0 H b with
   | none=>exact .inl rfl
   | some blk=>
    have main:∀ c,blk.row=some c->(match G5 len (c.drop off) with
      | some l=>spine l fun cs=>(match R22 cs with
       | some bs=>k (.string ⟨⟨bs⟩⟩)
       | none=>z)
      | none=>z)=z\/∃ v,(match G5 len (c.drop off) with
      | some l=>spine l fun cs=>(match R22 cs with
       | some bs=>k (.string ⟨⟨bs⟩⟩)
       | none=>z)
      | none=>z)=k v/\RV P d n nx o T H v:=by
     intro c hrow
     split
     .rename_i l hl
      rw[V14]
      split
      .rename_i bs hbs
       refine .inr ⟨_,rfl,fun F act w ht hb => ?_⟩
       have h3:=evX ht hx
       rw[hv] at h3
       obtain⟨_,t,c',hF,h3,_⟩:=h3.slice_inv
       obtain⟨l',hrun,hvl,_⟩:=N36 (P:=P) (hb.get hF hg) hrow hl
       have el:=W30 hbs
       have e2:=J19 hvl (by rw[el];exact D57 _)
       refine⟨_,?_,.string _⟩
       have hl2:(loadCells ⟨t.blk,t.base+off,none⟩ len).run P w = .ok ((bs.map fun b=>(b.toNat:Int)).map (Value.int .u8)).toArray w:=by
        rw[<- el]
        first | rw[<- e2];exact hrun w rfl | rw[e2];exact hrun w rfl
       have h4:=run_bytesToString (P:=P) w ⟨t.blk,t.base+off,none⟩ len c' _ hl2
       rw[Y55] at h4
       have h5:=run_convert_bytes_string (P:=P) w src dst e (some ⟨t.blk,t.base+off,none⟩) len c' hs he hd
       simp only[execOp,ho,h3,Sem.run_bind,h5,h4,Result.andThen_ok]
       rfl
      .exact .inl rfl
     .exact .inl rfl
    cases blk with
    | map es c=>exact .inl rfl
    | rom c=>exact main c rfl
    | cells c sl=>exact main c rfl
 .exact .inl rfl
end
end
section
variable {F:FM} {X1:X} {c' cap off size:Nat} {lo:Bool} {t:J7} {w:World} {x:Operand}
section
variable {β:Type} {P:Program} {d n nx:Nat} {o:Oper} {T:K0 Value} {H:Y0}
theorem W54{c:List Value}{sl:Nat}(hb:BR F t (.cells c sl) w)(hl:N8 (.cells c sl) off cap size=some lo)
  (hc:c'=cap\/(0<t.esz/\cap<=c'/\off+cap*t.esz=t.sz/\t.base+off+c'*t.esz<=t.rsz/\c'<=9223372036854775807)):
  cap<=c'/\(c'≠cap->lo=true/\t.esz=size/\0<size/\off+cap*size=t.sz/\t.base+off+c'*size<=t.rsz/\c'<=9223372036854775807):=by
 obtain⟨c1,e,h1,h2,h3,h4,h5,h6⟩:=hb;rcases hc with rfl | ⟨g1,g2,g3,g4,g5⟩
 .exact⟨aD _,fun h=>absurd rfl h⟩
 .refine⟨g2,fun _ => ?_⟩
  unfold N8 at hl;dsimp only at hl;have E:sl≠0:=by omega
  have:bR sl 0=false:=by
   cases hq:bR sl 0 with
   | false=>rfl
   | true=>exact absurd (bT hq) E
  rw[this] at hl;simp only[cond_false] at hl
  cases hs:bR sl size with
  | false=>rw[hs] at hl;cases hl
  | true=>
   rw[hs] at hl;simp only[cond_true,aZ] at hl;have he:=bT hs;have hz:t.esz=size:=by omega
   rw[hz] at g1 g3 g4;refine⟨?_,hz,g1,g3,g4,g5⟩;rw[<- hl];have:off+cap*size=c.length:=by omega
   simp[this]
theorem J20{blk:V3}(hb:BR F t blk w)(hl:N8 blk off cap size=some lo)
  (hc:c'=cap\/(0<t.esz/\cap<=c'/\off+cap*t.esz=t.sz/\t.base+off+c'*t.esz<=t.rsz/\c'<=9223372036854775807)):
  cap<=c'/\(c'≠cap->lo=true/\t.esz=size/\0<size/\off+cap*size=t.sz/\t.base+off+c'*size<=t.rsz/\c'<=9223372036854775807):=by
 cases blk with
 | cells c sl=>exact W54 hb hl hc
 | map es q=>simp[N8] at hl
 | rom c=>
  obtain⟨c1,e,m,h1,h2,h3,h4,h5,h6⟩:=hb;rcases hc with rfl | ⟨g1,g2,g3,g4,g5⟩
  .exact⟨aD _,fun h=>absurd rfl h⟩
  .omega
theorem U63{t:TypeId}{lo hi mx:Option Operand}{L1 H1 M1:Option X}{e:TypeId}{i:TypeInfo}(ho:o.op = .slice t x lo hi mx)(hx:W13 n x=some X1)
  (Z:B71 n lo=some L1)(a1:B71 n hi=some H1)(a0:B71 n mx=some M1)(hu:P.underlying t=some (.slice e))(W:P.info? e=some i)(z:β)(k:Value->β):
  M9 P (.sl X1 i.size L1 H1 M1) T H z k=z\/∃ v,M9 P (.sl X1 i.size L1 H1 M1) T H z k=k v/\RV P d n nx o T H v:=by
 show rSl X1 i.size L1 H1 M1 T H z k=z\/∃ v,rSl X1 i.size L1 H1 M1 T H z k=k v/\_;unfold rSl;rw[G2,C15,C15,C15]
 split
 .rename_i len cap hv
  split
  .rename_i r hr
   rw[E7];refine .inr ⟨r,rfl,fun F a5 w ht _ => ?_⟩;have h1:=evX ht hx;rw[hv] at h1;have he:=h1.sliceN_inv;obtain⟨m,hh,l,em,eh,el,hr⟩:=B23 hr;obtain⟨E,c1,c2⟩:=Z18 (P:=P) (OV.of ht Z) (OV.of ht a1) (OV.of ht a0) (aD cap) em eh el true w;have hm:(if (M1.map (ev T)).isNone then cap else m)=m:=by
    cases hM:M1.map (ev T) with
    | none=>simp[c1 hM]
    | some _=>simp
   rw[hm] at E;dsimp only at hr;subst hr;refine⟨.slice none (hh-l) (m-l),?_,.sliceN _ _⟩;simp only[execOp,ho,Instr.sliceAt,Instr.slice,aS,run_underlying hu,aM,he,bD,E,E3 W];simp
  .exact .inl rfl
 .rename_i b o' len cap hv
  rw[Y4]
  cases hg:J0 H b with
  | none=>exact .inl rfl
  | some blk=>
   dsimp only[aN];unfold slB
   split
   .rename_i a2 a8
    split
    .rename_i r hr
     rw[E7];refine .inr ⟨r,rfl,fun F a5 w ht hb => ?_⟩;have h1:=evX ht hx;rw[hv] at h1;obtain⟨_,tt,c',hF,he,hc⟩:=h1.slice_inv;obtain⟨m,hh,l,em,eh,el,a9,a6,hr⟩:=B23 hr
     .obtain⟨V,O⟩:=J20 (hb.get hF hg) a8 hc
      obtain⟨E,c1,c2⟩:=Z18 (P:=P) (OV.of ht Z) (OV.of ht a1) (OV.of ht a0) V em eh el true w;subst hr;generalize hM:(if (M1.map (ev T)).isNone then c' else m)=m' at E;refine⟨.slice (some (if m'=l then ⟨tt.blk,tt.base+o',none⟩ else ⟨tt.blk,tt.base+(o'+l*i.size),none⟩)) (hh-l) (m'-l),?_,?_⟩
      .simp only[execOp,ho,Instr.sliceAt,Instr.slice,aS,run_underlying hu,aM,he,bD,E,E3 W]
       by_cases J:m'=l<;>simp[J,X11,eH]
      .by_cases U:m'=m
       .rw[U]
        by_cases J:m=l
        .simp only[J,if_true];exact .slice hF (.inl rfl)
        .simp only[J,if_false];exact .slice hF (.inl rfl)
       .have Q:M1.map (ev T)=none:=by
         cases hq:M1.map (ev T) with
         | none=>rfl
         | some q=>rw[hq] at hM;simp at hM;exact absurd hM.symm U
        rw[Q] at hM;simp at hM;subst hM;have a3:=c1 Q;subst a3;obtain⟨q1,q2,q3,q4,q5,q7⟩:=O U;have a4:c'≠l:=by omega
        simp only[a4,if_false]
        by_cases J:m=l
        .have a7:l=0:=by
          rcases cI l with h0 | h0
          .exact h0
          .exact absurd ⟨q1,Q,J,by omega⟩ a6
         subst a7;subst J;simp only[if_true,Nat.zero_mul,eM,Nat.sub_self,Nat.sub_zero];exact .slice hF (.inr ⟨by omega,by omega,by simpa using q4,by rw[q2];exact q5,q7⟩)
        .simp only[J,if_false]
         have e1:o'+l*i.size+(m-l)*i.size=o'+m*i.size:=by
          have:l*i.size+(m-l)*i.size=m*i.size:=by rw[<- dM];congr 1;omega
          omega
         have e2:o'+l*i.size+(c'-l)*i.size=o'+c'*i.size:=by
          have:l*i.size+(c'-l)*i.size=c'*i.size:=by rw[<- dM];congr 1;omega
          omega
         refine .slice hF (.inr ⟨by omega,by omega,by rw[q2,e1];exact q4,?_,by omega⟩);rw[q2];have q6:tt.base+o'+c'*i.size<=tt.rsz:=q5;clear hc q5 q4 O;generalize c'*i.size=A at *
         generalize (c'-l)*i.size=B at *
         generalize l*i.size=D at *
         omega
    .exact .inl rfl
   .exact .inl rfl
 .exact .inl rfl
theorem C26{c:Call}{t:TypeId}{kd:Nat}{dd:TypeDesc}(ho:o.op = .call c)(hc:c.callee = .builtin .len)(W:c.argTypes.toList=[t])(ha:c.args.toList=[x])(hx:W13 n x=some X1)
  (hu:P.underlying t=some dd)(Q:(kd=0/\∃ e,dd = .slice e)\/(kd=1/\dd = .string)\/(kd=2/\∃ a b,dd = .map a b))(z:β)(k:Value->β):
  M9 P (.len X1 kd) T H z k=z\/∃ v,M9 P (.len X1 kd) T H z k=k v/\RV P d n nx o T H v:=by
 have Z:c.argTypes = #[t]:=fB.1 (by simpa using W);have U:c.args = #[x]:=fB.1 (by simpa using ha);have E:∀(a:Act) (w:World),(execOp a.eval o).run P w=((gI #[t] o.type #[a.eval x]).run P w).andThen fun v w => .ok (.value v) w:=by
  intro a w;simp[execOp,ho,resolve,hc,invoke,builtin,Z,U]
 have O:x ∈ o.op.operands:=by rw[ho];simp[eI,fL,hc,U]
 show U53 X1 kd T H z k=z\/∃ v,U53 X1 kd T H z k=k v/\_;unfold U53;rw[G2]
 split
 .rename_i a nn c' hv
  refine .inr ⟨_,rfl,fun F J w ht _ => ?_⟩;obtain⟨e,rfl⟩:∃ e,dd = .slice e:=by rcases Q with ⟨_,h⟩ | ⟨h,_⟩ | ⟨h,_⟩<;>first | exact h | cases h
  have h1:=evX ht hx O;rw[hv] at h1;generalize hq:J.eval x=q at h1;refine⟨.int .i64 (.ofNat nn),?_,.int _ _⟩;rw[E,hq]
  cases h1<;>simp[gI,run_underlying hu,goInt]
 .rename_i s hv
  rw[G1];refine .inr ⟨_,rfl,fun F J w ht _ => ?_⟩;obtain rfl:dd = .string:=by rcases Q with ⟨h,_⟩ | ⟨_,h⟩ | ⟨h,_⟩<;>first | exact h | cases h
  have h1:=evX ht hx O;rw[hv] at h1;generalize hq:J.eval x=q at h1;refine⟨.int .i64 (.ofNat s.size),?_,.int _ _⟩;rw[E,hq]
  cases h1;simp[gI,run_underlying hu,goInt]
 .rename_i hv
  refine .inr ⟨_,rfl,fun F J w ht _ => ?_⟩;obtain⟨a,b,rfl⟩:∃ a b,dd = .map a b:=by rcases Q with ⟨h,_⟩ | ⟨h,_⟩ | ⟨_,h⟩<;>first | exact h | cases h
  have h1:=evX ht hx O;rw[hv] at h1;generalize hq:J.eval x=q at h1;refine⟨.int .i64 (.ofNat 0),?_,.int _ _⟩;rw[E,hq]
  cases h1;simp[gI,run_underlying hu,goInt]
 .rename_i r hv
  rw[Y4]
  cases hg:J0 H r with
  | none=>exact .inl rfl
  | some blk=>
   dsimp only[aN]
   split
   .rename_i l cl
    rw[G1];refine .inr ⟨_,rfl,fun F J w ht hb => ?_⟩;obtain⟨a,b,rfl⟩:∃ a b,dd = .map a b:=by rcases Q with ⟨h,_⟩ | ⟨h,_⟩ | ⟨_,h⟩<;>first | exact h | cases h
    have h1:=evX ht hx O;rw[hv] at h1;generalize hq:J.eval x=q at h1
    cases h1 with
    | map hF=>
     obtain⟨_,es',hw,V⟩:=hb.get hF hg;refine⟨.int .i64 (.ofNat l.length),?_,.int _ _⟩;rw[E,hq];have:=V.length;simp[gI,run_underlying hu,goInt,M7 hw,this]
   .exact .inl rfl
 .exact .inl rfl
theorem U34{i:IR}(hI:W18 P n o=some (.r i))(z:β)(k:Value->β):
  M9 P i T H z k=z\/∃ v,M9 P i T H z k=k v/\RV P d n nx o T H v:=by
 have h:=(E20 hI).resolve_right (by simp);clear hI;unfold G19 at h
 split at h
 case h_13=>
  rename_i t x lo hi mx ho
  split at h
  .rename_i h1 h2 h3 h4 h5
   split at h
   .rename_i E;cases h;exact U63 ho h1 h2 h3 h4 h5 E z k
   .cases h
  .split at h<;>cases h
  .cases h
  .cases h
 case h_16=>
  rename_i t x ho
  split at h
  .rename_i h1 h2;cases h;exact N62 ho h1 h2 z k
  .cases h
 case h_17=>
  rename_i t x ix ok ho
  split at h
  .rename_i h1 h2 h3
   split at h
   .rename_i h4 h5
    split at h
    .rename_i zz h6
     cases hf:X7 zz with
     | false=>rw[hf] at h;cases h
     | true=>rw[hf] at h;cases h;exact Q63 ho h1 h2 h3 h4 h5 h6 hf z k
    .cases h
   .cases h
  .cases h
 case h_18=>
  rename_i src dst x ho
  split at h
  .rename_i h1 h2 h3;cases h;exact M48 ho h1 h3 h2 z k
  .rename_i h1 h2 h3
   split at h
   .rename_i h4;cases h;exact G57 ho h1 h2 h4 h3 z k
   .cases h;exact J32 ho h1 z k
  .cases h;exact J32 ho ‹_› z k
  .cases h
 case h_26=>
  rename_i c ho
  split at h
  case h_4=>
   rename_i hc
   split at h
   .rename_i t x h1 h2
    split at h
    .cases h;rename_i g1 g2;exact C26 ho hc h1 h2 g1 g2 (.inl ⟨rfl,_,rfl⟩) z k
    .cases h;rename_i g1 g2;exact C26 ho hc h1 h2 g1 g2 (.inr (.inl ⟨rfl,rfl⟩)) z k
    .cases h;rename_i g1 g2;exact C26 ho hc h1 h2 g1 g2 (.inr (.inr ⟨rfl,_,_,rfl⟩)) z k
    .cases h
   .cases h
  all_goals first
   | (cases h;done)
   | (split at h<;>cases h;done)
   | (repeat' (first | (cases h;done) | split at h))
   | skip
  all_goals first
   | (rw[Bool.cond_eq_ite] at h;split at h<;>cases h;done)
   | (rw[bU] at h;obtain⟨_,_,h⟩:=h;cases h;done)
 all_goals first
  | (cases h;done)
  | (split at h<;>cases h;done)
  | (repeat' (first | (cases h;done) | split at h))
  | skip
 all_goals first
  | (rw[Bool.cond_eq_ite] at h;split at h<;>cases h;done)
  | (rw[bU] at h;obtain⟨_,_,h⟩:=h;cases h;done)
end
end
section
variable {P:Program}
def Q0.real(q:Nat):Q0->Value
 | .ptr => .pointer (some ⟨q,0,none⟩)
 | .slice l c => .slice (some ⟨q,0,none⟩) l c
 | .map => .map (some q)
def W55(F:FM)(b:V3)(E:Obj):Prop:=
 match b with
 | .cells c sl=>sl=0/\∃ c' e,E = .cells c' e (0,0)/\VL F c c'.toList
 | .map es k=>es=[]/\E = .map #[] k
 | .rom _=>False
def AV(P:Program)(d n:Nat)(o:Oper)(T:K0 Value)(b:V3)(y:Q0):Prop:=
 ∀(F:FM) (a:Act) (w:World),OR n o F T a->∃ E,(execOp a.eval o).run P w = .ok (.value (y.real w.heap.size)) (w.alloc E)/\W55 F b E
theorem G33{z:List Value}(hz:0<z.length):∀(len i:Nat),(Q19 z len)[i]? = if i<len*z.length then z[i%z.length]? else none
 | 0,i=>by simp[Q19]
 | len+1,i=>by
  simp only[Q19];rw[List.getElem?_append]
  by_cases h:i<z.length
  .have:i<(len+1)*z.length:=by rw[dM];omega
   simp[h,this,bV h]
  .have hm:(i-z.length)%z.length=i%z.length:=(Nat.mod_eq_sub_mod (by omega)).symm
   rw[G33 hz len (i-z.length)];have:(i-z.length<len*z.length)<->(i<(len+1)*z.length):=by rw[dM];omega
   simp[h,this,hm]
theorem B16(z:Array Value)(len:Nat):((gG (len*z.size)).map (fun i=>z[i%z.size]!)).toList=Q19 z.toList len:=by
 rcases cI z.size with h0 | h0
 .have:z = #[]:=Array.eq_empty_of_size_eq_zero h0
  subst this;have:∀ len,Q19 ([]:List Value) len=[]:=by
   intro len;induction len with
   | zero=>rfl
   | succ n ih=>simp[Q19,ih]
  simp[this]
 .apply dH
  intro i;rw[G33 (by simpa using h0)]
  by_cases hi:i<len*z.size
  .have hm:i%z.size<z.size:=eZ _ h0
   simp[hi,hm,getElem!_pos]
  .simp[hi]
theorem VL.repeat{F:FM}{z z':List Value}(h:VL F z z'):∀ n,VL F (Q19 z n) (Q19 z' n)
 | 0 => .nil
 | n+1=>h.append (h.repeat n)
theorem W12(e:TypeId)(cells:Array Value)(w:World):(newRow e cells).run P w = .ok ⟨w.heap.size,0,none⟩ (w.alloc (.cells cells e (0,0))):=by
 simp[newRow,newObj,Sem.run]
theorem D29(e:TypeId)(v:Value)(w:World):(newVar e v).run P w = .ok ⟨w.heap.size,0,none⟩ (w.alloc (.cells v.cells e (0,0))):=W12 e v.cells w
theorem E19{t:TypeId}{i:TypeInfo}{v:Value}(hi:P.info? t=some i)(hz:i.zero=some v)(w:World):(zeroValue t).run P w = .ok v w:=by
 simp[zeroValue,K8 hi,hz]
section
variable {β:Type} {P:Program} {d n:Nat} {o:Oper} {T:K0 Value}
theorem W57{i:IA}(hI:W18 P n o=some (.a i))(z:β)(k:V3->Q0->β):
  evA i T z k=z\/∃ b y,evA i T z k=k b y/\AV P d n o T b y:=by
 have h:=(E20 hI).resolve_right (by simp);clear hI;unfold G19 at h
 split at h
 case h_19=>
  rename_i e ho
  cases hz:M10 P e with
  | none=>rw[hz] at h;cases h
  | some zero=>
   rw[hz] at h;cases h;obtain⟨it,v,J,V,rfl,Q,Z,O⟩:=X14 hz;simp only[evA];rw[V14];refine .inr ⟨_,_,rfl,fun F a w ht=>⟨.cells v.cells e (0,0),?_,rfl,_,_,rfl,X12 Q F⟩⟩;simp[execOp,ho,Instr.alloc,E19 J V,D29,Q0.real]
 case h_20=>
  rename_i e x ho
  cases hx:W13 n x with
  | none=>rw[hx] at h;cases h
  | some y=>
   rw[hx] at h;cases h;simp only[evA];rw[G2]
   cases a4:Z0 (ev T y).cells.toList with
   | false=>exact .inl rfl
   | true=>
    dsimp only[cond_true];rw[V14];refine .inr ⟨_,_,rfl,fun F a w ht=>⟨.cells (a.eval x).cells e (0,0),?_,rfl,_,_,rfl,(evX ht hx).cells (G28 a4)⟩⟩;simp[execOp,ho,Instr.box,D29,Q0.real]
 case h_21=>
  rename_i t len parts ho
  split at h
  .rename_i e ps hu ac
   split at h
   .rename_i zero inf hz hi
    cases hb:dD (len*inf.size) 16777216 with
    | false=>rw[hb] at h;cases h
    | true=>
     rw[hb] at h;cases h;obtain⟨it,v,J,V,rfl,Q,Z,O⟩:=X14 hz;rw[hi] at J;cases J;simp only[evA];rw[J45]
     split
     .rename_i cs hf
      cases a4:Z0 cs with
      | false=>exact .inl rfl
      | true=>
       dsimp only[cond_true];rw[V14];refine .inr ⟨_,_,rfl,fun F a w ht => ?_⟩;have ad:len*inf.size<=16777216:=Nat.le_of_ble_eq_true hb;have U:v.cells.size=inf.size:=by simpa using O
       have E:∃ zz:Array Value,((len*inf.size=0/\zz = #[])\/(len*inf.size≠0/\zz=v.cells)) /\
         ((gG (len*inf.size)).map (fun i=>zz[i%zz.size]!)).toList=Q19 v.cells.toList len:=by
        by_cases h0:len*inf.size=0
        .refine⟨#[],.inl ⟨h0,rfl⟩,?_⟩
         rw[h0];have:=B16 v.cells len;rw[U,h0] at this;simp at this ⊢;exact this
        .refine⟨v.cells,.inr ⟨h0,rfl⟩,?_⟩
         rw[<- U];exact B16 v.cells len
       obtain⟨zz,a0,W⟩:=E;obtain⟨r',hr,hl⟩:=B24 (pl':=fun k=>some (k*inf.size,inf.size)) (fun i p h=>h) (G62 ht ac (by rw[ho];intro p hp;simp only[eI];exact fQ.2 (by simp;exact⟨p.1,by simpa using hp⟩))) (cells':=(gG (len*inf.size)).map (fun i=>zz[i%zz.size]!))
        (by rw[W];exact(X12 Q F).repeat len) hf
       refine⟨.cells r' e (0,0),?_,rfl,_,_,rfl,hl⟩;have a5:¬ (len*inf.size > 2^24):=by simp;omega
       have a2:Instr.fill (fun i=>some (i*inf.size,inf.size)) ((gG (len*inf.size)).map (fun i=>zz[i%zz.size]!)) (parts.map fun(i,x)=>(i,a.eval x)).toList=some r':=by
        rw[X27];exact hr
       rcases a0 with ⟨h0,rfl⟩ | ⟨h0,rfl⟩
       .simp only[execOp,ho,Instr.buildSlice,aS,run_underlying hu,aM,E3 hi,a5,if_false,bD]
        rw[if_pos h0];simp only[aS,bD,aM,a2,W12,Q0.real]
       .simp only[execOp,ho,Instr.buildSlice,aS,run_underlying hu,aM,E3 hi,a5,if_false,bD]
        rw[if_neg h0];simp only[aS,E19 hi V,bD,aM,a2,W12,Q0.real]
     .exact .inl rfl
   .cases h
  .cases h
 case h_22=>
  rename_i t l c ho
  split at h
  .rename_i l1 c1 e a7 a8 hu
   split at h
   .rename_i zero inf hz hi
    cases hb:dD inf.bytes 100000 with
    | false=>rw[hb] at h;cases h
    | true=>
     rw[hb] at h;cases h;obtain⟨it,v,J,V,rfl,Q,Z,O⟩:=X14 hz;rw[hi] at J;cases J;simp only[evA];rw[G2,G2]
     split
     .rename_i lv cv a9 a6
      cases a3:(dD lv cv&&dD cv 1000000) with
      | false=>exact .inl rfl
      | true=>
       dsimp only[cond_true];rw[V14];refine .inr ⟨_,_,rfl,fun F a w ht => ?_⟩;simp only[aG,Nat.ble_eq] at a3;obtain⟨g1,g2⟩:=a3;have aa:inf.bytes<=100000:=Nat.le_of_ble_eq_true hb;have e1:=evX ht a7;have e2:=evX ht a8;rw[a9] at e1;rw[a6] at e2;have e1:=e1.int_inv;have e2:=e2.int_inv;have w1:IntKind.i64.wrap (Int.ofNat lv)=(lv:Int):=IntWalk.i64_in _ (by simp;omega);have w2:IntKind.i64.wrap (Int.ofNat cv)=(cv:Int):=IntWalk.i64_in _ (by simp;omega);have U:v.cells.size=inf.size:=by simpa using O
       have E:∃ zz:Array Value,((cv*inf.size=0/\zz = #[])\/(cv*inf.size≠0/\zz=v.cells)) /\
         ((gG (cv*inf.size)).map (fun i=>zz[i%zz.size]!)).toList=Q19 v.cells.toList cv:=by
        by_cases h0:cv*inf.size=0
        .refine⟨#[],.inl ⟨h0,rfl⟩,?_⟩
         rw[h0];have:=B16 v.cells cv;rw[U,h0] at this;simp at this ⊢;exact this
        .refine⟨v.cells,.inr ⟨h0,rfl⟩,?_⟩
         rw[<- U];exact B16 v.cells cv
       obtain⟨zz,a0,W⟩:=E;refine⟨.cells ((gG (cv*inf.size)).map (fun i=>zz[i%zz.size]!)) e (0,0),?_,rfl,_,_,rfl,by rw[W];exact(X12 Q F).repeat cv⟩;have ab:inf.bytes*cv<=100000000000:=bK (eL aa g2) (by decide);have t1:(decide ((cv:Int)<0) || decide ((inf.bytes:Int)*(cv:Int) > 2^48))=false:=by
        have hp:(inf.bytes:Int)*(cv:Int)<=100000000000:=by omega
        have hq:(2:Int)^48=281474976710656:=by decide
        rw[hq,decide_eq_false (by omega),decide_eq_false (by omega)]
        rfl
       have t2:¬ (lv:Int)<0:=by omega
       have t3:¬ (lv:Int) > (cv:Int):=by omega
       have a1:(askRoom (cv*inf.bytes)).run P w = .ok () w:=by
        have:¬ cv*inf.bytes > roomBytes:=by
         have:cv*inf.bytes=inf.bytes*cv:=cG _ _;simp only[roomBytes];omega
        simp[askRoom,this]
       simp only[execOp,ho,Instr.makeSlice,aS,run_underlying hu,aM,e1,e2,asInt,asIntOf,bD,K8 hi,w1,w2];simp only[t1,Bool.false_or,t2,t3,decide_false,Bool.or_false,dQ,if_false,aS,Int.toNat_natCast,a1,aM,E3 hi];rcases a0 with ⟨h0,rfl⟩ | ⟨h0,rfl⟩
       .rw[if_pos h0]
        simp only[aS,bD,aM,W12,Q0.real]
       .rw[if_neg h0]
        simp only[aS,E19 hi V,bD,aM,W12,Q0.real]
     .exact .inl rfl
   .cases h
  .cases h
 case h_23=>
  rename_i t r ho
  split at h
  .rename_i r1 mk mv hr hu
   cases h
   simp only[evA];rw[C15]
   split
   .rename_i hv
    refine .inr ⟨_,_,rfl,fun F a w ht=>⟨.map #[] 0,?_,rfl,rfl⟩⟩;rcases OV.of ht hr with ⟨_,h2⟩ | ⟨_,_,h2,_⟩
    .simp[execOp,ho,h2,Instr.makeMap,newObj,Sem.run,Q0.real]
    .rw[hv] at h2;cases h2
   .rename_i kk q hv
    refine .inr ⟨_,_,rfl,fun F a w ht=>⟨.map #[] 0,?_,rfl,rfl⟩⟩;rcases OV.of ht hr with ⟨h1,_⟩ | ⟨v1,v2,h1,h2,h3⟩
    .rw[hv] at h1;cases h1
    .rw[hv] at h1;cases h1
     have h3:=h3.int_inv;subst h3;simp[execOp,ho,h2,Instr.makeMap,run_underlying hu,asInt,asIntOf,newObj,Sem.run,Q0.real]
   .exact .inl rfl
  .cases h
 all_goals first
  | (cases h;done)
  | (split at h<;>cases h;done)
  | (repeat' (first | (cases h;done) | split at h))
  | skip
 all_goals first
  | (rw[Bool.cond_eq_ite] at h;split at h<;>cases h;done)
  | (rw[bU] at h;obtain⟨_,_,h⟩:=h;cases h;done)
end
end
end Go.Clo
