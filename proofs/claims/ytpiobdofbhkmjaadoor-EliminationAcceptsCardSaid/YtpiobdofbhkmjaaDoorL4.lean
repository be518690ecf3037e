/-
  The closed executor: the operations that only compute stand to the model's.
  The closed executor: the rest of the operations that only compute.
-/
import Derived.Test.YtpiobdofbhkmjaaDoorL3
import Derived.IntWalk
set_option linter.unusedSimpArgs false
set_option linter.unusedVariables false
set_option linter.unusedSectionVars false
namespace Go.Clo
variable {F:FM} {P:Program} {T:U1 Value} {X1 y:X} {a:Act} {d n:Nat} {i:TypeInfo} {k:IntKind} {op:BinOp} {t:TypeId} {v:Value} {x:Operand} {β:Type}
noncomputable def ev (T:U1 Value) (x:X):Value:=E7 T x id
theorem N4 (T:U1 Value) (x:X) (k:Value->β):E7 T x k=k (ev T x):=by
 cases x with
 | s t=>
  show tgK T t (k undef) k=k (tgK T t (id undef) id)
  rw[R20,R20];cases tg T t<;>rfl
 | c v=>rfl
theorem W35 (T:U1 Value) (l:List X):∀ (k:List Value->β),W27 T l k=k (l.map (ev T)):=by
 induction l with
 | nil=>intro k;rfl
 | cons x l ih=>
  intro k
  show E7 T x (fun v=>W27 T l fun vs=>k (v :: vs))=_
  rw[N4,ih];rfl
theorem Z25 (T:U1 Value) (x:Option X) (k:Option Value->β):Q37 T x k=k (x.map (ev T)):=by
 cases x<;>simp[Q37,N4]
theorem V62 (T:U1 Value) (l:List (Nat × X)):∀ (k:List (Nat × Value)->β),K53 T l k=k (l.map fun p=>(p.1,ev T p.2)):=by
 induction l with
 | nil=>intro k;rfl
 | cons x l ih=>intro k;obtain⟨i,x⟩:=x;simp[K53,N4,ih]
structure TR (d:Nat) (F:FM) (T:U1 Value) (n:Nat) (tmps:Array Value):Prop where
 wf:WF d T
 size:tmps.size=n
 le:n<=2^d
 get:∀ t,t<n->VR F ((tg T t).getD undef) (tmps.getD t undef)
theorem TR.mono {d:Nat} {F F':FM} (hF:F.le F') {T:U1 Value} {n:Nat} {tmps:Array Value} (h:TR d F T n tmps):TR d F' T n tmps:=
 ⟨h.wf,h.size,h.le,fun t ht=>(h.get t ht).mono hF⟩
theorem G76 (T:U1 Value) (t:Nat):ev T (.s t)=(tg T t).getD undef:=by
 show tgK T t undef id=_
 rw[R20];cases tg T t<;>rfl
theorem TR.evX (ht:TR d F T n a.tmps) (h:Q2 n x=some y):VR F (ev T y) (a.eval x):=by
 cases x with
 | tmp t=>
  simp only[Q2] at h
  cases hb:Nat.blt t n with
  | false=>simp[hb] at h
  | true=>
   simp[hb] at h;subst h
   rw[G76]
   exact ht.get t (by simpa using hb)
 | const v=>
  simp only[Q2] at h
  cases hb:C11 v with
  | false=>simp[hb] at h
  | true=>simp[hb] at h;subst h;exact K11 F v hb
 | global g=>simp[Q2] at h
 | func f=>
  simp[Q2] at h;subst h
  exact .func _ rfl (by simp) rfl (by simp)
def OR (n:Nat) (o:Oper) (F:FM) (T:U1 Value) (a:Act):Prop:=∀ x ∈ o.op.operands,∀ y,Q2 n x=some y->VR F (ev T y) (a.eval x)
theorem TR.or (ht:TR d F T n a.tmps) (o:Oper):OR n o F T a:=fun _ _ _ h=>ht.evX h
theorem evX {o:Oper} (ht:OR n o F T a) (h:Q2 n x=some y) (hm:x ∈ o.op.operands:=by rw[(‹o.op=_› : o.op=_)];simp[Op.operands]):VR F (ev T y) (a.eval x):=ht x hm y h
theorem R85 (h:Q2 n x=some y):G61 T x=ev T y:=by
 cases x with
 | tmp t=>
  simp only[Q2] at h
  cases hb:Nat.blt t n with
  | false=>simp[hb] at h
  | true=>simp[hb] at h;subst h;rfl
 | const v=>
  simp only[Q2] at h
  cases hb:C11 v with
  | false=>simp[hb] at h
  | true=>simp[hb] at h;subst h;rfl
 | global g=>simp[Q2] at h
 | func f=>simp[Q2] at h;subst h;rfl
theorem C76 {α:Type} {s:Sem α} {r:α} (h:W49 P s=some r) (w:World):s.run P w = .ok r w:=by
 induction s with
 | pure a=>simp[W49] at h;subst h;rfl
 | program k ih=>exact ih P h
 | mark m k ih=>exact ih h
 | _=>simp[W49] at h
def PV (P:Program) (d n:Nat) (o:Oper) (T:U1 Value) (v:Value):Prop:=
 ∀ (F:FM) (a:Act) (w:World),OR n o F T a->∃ v',(execOp a.eval o).run P w = .ok (.value v') w/\VR F v v'
theorem N45 {o:Oper} {T:U1 Value} {xs:List X} (hsel:∀ cs b,o.op ≠ .select cs b)
  (hxs:∀ x ∈ o.op.operands,∃ y ∈ xs,Q2 n x=some y) (z:β) (k:Value->β):
  E33 P T xs o z k=z\/∃ v,E33 P T xs o z k=k v/\PV P d n o T v:=by
 unfold E33
 rw[W35]
 cases hall:(xs.map (ev T)).all C11 with
 | false=>exact .inl rfl
 | true=>
  cases hp:W49 P (execOp (G61 T) o) with
  | none=>exact .inl rfl
  | some r=>
   cases r with
   | value v=>
    dsimp only[cond_true]
    rw[N7]
    cases hf:C11 v with
    | false=>exact .inl rfl
    | true=>
     refine .inr ⟨v,rfl,?_⟩
     intro F a w ht
     have he:execOp a.eval o=execOp (G61 T) o:=execOp_congr o hsel (fun x hx=>by
      obtain⟨y,hy,hc⟩:=hxs x hx
      rw[R85 hc]
      refine V70 (evX ht hc hx) ?_
      rw[List.all_eq_true] at hall
      exact hall _ (List.mem_map.2 ⟨y,hy,rfl⟩))
     rw[he]
     exact⟨v,C76 hp w,K11 F v hf⟩
   | _=>exact .inl rfl
theorem U52 {a b:IntKind} (h:eqK a b=true):a=b:=by cases a<;>cases b<;>first | rfl | simp[eqK] at h
theorem Q91 (a b:Int):C72 a b=a+b:=by cases a<;>cases b<;>simp[C72]<;>rfl
theorem J90 (a b:Int):B76 a b=a-b:=by
 cases a<;>cases b<;>simp only[B76]
 rename_i a b
 cases h:Nat.ble b a with
 | true=>
  have:=Nat.le_of_ble_eq_true h
  simp only[cond_true]
  show ((Nat.sub a b:Nat):Int)=(a:Int)-(b:Int)
  have e:Nat.sub a b=a-b:=rfl
  rw[e];omega
 | false=>
  have:¬ b<=a:=fun hh=>by rw[Nat.ble_eq_true_of_le hh] at h;cases h
  simp only[cond_false,Int.negSucc_eq]
  have e:Nat.sub (Nat.sub b a) 1=b-a-1:=rfl
  rw[e]
  show _=(a:Int)-(b:Int)
  omega
theorem X78 (a b:Int):ltI a b=decide (a<b):=by
 cases a<;>cases b<;>simp only[ltI]
 .rename_i a b
  rw[Bool.eq_iff_iff];simp[Nat.blt_eq]
 .simp;omega
 .simp;omega
 .rename_i a b
  rw[Bool.eq_iff_iff];simp[Nat.blt_eq];omega
theorem M77 (a b:Int):leI a b=decide (a<=b):=by
 cases a<;>cases b<;>simp only[leI]
 .rename_i a b
  rw[Bool.eq_iff_iff];simp
 .simp;omega
 .simp;omega
 .rename_i a b
  rw[Bool.eq_iff_iff];simp;omega
theorem E41 (a b:Int):eqI a b=(a==b):=by
 cases a<;>cases b<;>simp only[eqI]
 .rename_i a b
  rw[Bool.eq_iff_iff];simp;omega
 .symm;simp
 .symm;simp
 .rename_i a b
  rw[Bool.eq_iff_iff];simp
theorem V33 {r:Int} (h:N22 k r=true):k.wrap r=r:=by
 cases r with
 | ofNat m=>
  cases k<;>simp[N22,Nat.blt_eq] at h<;>simp[IntKind.wrap,IntKind.bits,IntKind.signed]<;>omega
 | negSucc m=>
  cases k<;>simp[N22,Nat.blt_eq] at h
  exact IntWalk.i64_in _ (by omega)
theorem VR.int_inv {n:Int} (h:VR F (.int k n) v):v = .int k n:=by cases h;rfl
theorem VR.bool_inv {b:Bool} (h:VR F (.bool b) v):v = .bool b:=by cases h;rfl
theorem B14 (h:P.info? t=some i) (w:World):(typeInfo t).run P w = .ok i w:=by
 simp[typeInfo,program,Sem.run,h]
theorem D6 (h:P.info? t=some i) (w:World):(sizeOf t).run P w = .ok i.size w:=by
 simp[sizeOf,B14 h]
section
variable {β:Type} {P:Program} {d n:Nat} {o:Oper} {T:U1 Value}
theorem Q63 (ho:o.op = .move x\/o.op = .assign x) (h:Q2 n x=some y) (z:β) (k:Value->β):
  Q7 P (.mv y) T z k=z\/∃ v,Q7 P (.mv y) T z k=k v/\PV P d n o T v:=by
 refine .inr ⟨ev T y,N4 T y k,fun F a w ht=>⟨a.eval x,?_,evX ht h (by rcases ho with ho | ho<;>simp[ho,Op.operands])⟩⟩
 rcases ho with ho | ho<;>simp[execOp,ho]
theorem U73 {c a b:Operand} {yc ya yb:X} (ho:o.op = .pick c a b) (hc:Q2 n c=some yc) (ha:Q2 n a=some ya) (hb:Q2 n b=some yb) (z:β) (k:Value->β):
  Q7 P (.pick yc ya yb) T z k=z\/∃ v,Q7 P (.pick yc ya yb) T z k=k v/\PV P d n o T v:=by
 show N61 yc ya yb T z k=z\/∃ v,N61 yc ya yb T z k=k v/\_
 unfold N61
 rw[N4]
 cases hv:ev T yc with
 | bool t=>
  dsimp only
  rw[D22,N4,N4]
  refine .inr ⟨if t then ev T ya else ev T yb,by cases t<;>rfl,fun F act w ht => ?_⟩
  have h1:=evX ht hc
  rw[hv] at h1
  have h1:=h1.bool_inv
  refine⟨if t then act.eval a else act.eval b,?_,?_⟩
  .simp[execOp,ho,h1,asBool]
  .cases t
   .exact evX ht hb
   .exact evX ht ha
 | _=>exact .inl rfl
theorem R9 (r:Option Value) (z:β) (f:Value->β):B34 r z f=r.elim z f:=by
 cases r with
 | none=>rfl
 | some v=>exact J8 v f
theorem E86 (op:BinOp) (k:IntKind) (a b:Int) (z:β) (f:Value->β):W72 op k a b z f=(R11 op k a b).elim z f:=by
 unfold W72
 split<;>(try rw[V32])<;>(try rw[U32])
 .cases hf:N22 k (C72 a b) with
  | false=>simp only[cond_false];exact R9 _ z f
  | true=>have:=V33 hf;rw[Q91] at this ⊢;simp[R11,this]
 .cases hf:N22 k (B76 a b) with
  | false=>simp only[cond_false];exact R9 _ z f
  | true=>have:=V33 hf;rw[J90] at this ⊢;simp[R11,this]
 .simp[R11,X78]
 .simp[R11,M77]
 .simp[R11,X78]
 .simp[R11,M77]
 .simp[R11,E41]
 .simp[R11,E41,bne]
 .exact R9 _ z f
theorem N62 (op:BinOp) (x y:Value) (z:β) (f:Value->β):W61 op x y z f=(U12 op x y).elim z f:=by
 unfold W61 U12
 split
 .cases M7 op with
  | true=>exact R9 _ z f
  | false=>
   simp only[cond_false]
   rename_i k a k' b
   cases eqK k k' with
   | false=>rfl
   | true=>exact E86 op _ _ _ z f
 .exact R9 _ z f
 .rfl
theorem V78 {x y:Value} (h:U12 op x y=some v):W9 x=true/\W9 y=true/\C11 v=true:=by
 unfold U12 at h
 split at h
 .refine⟨rfl,rfl,?_⟩
  cases hs:M7 op with
  | true=>
   rw[hs] at h;simp only[cond_true] at h
   unfold E20 at h
   split at h
   .cases h
   .split at h<;>cases h<;>rfl
  | false=>
   rw[hs] at h;simp only[cond_false] at h
   rename_i k a k' b
   cases hk:eqK k k' with
   | false=>rw[hk] at h;cases h
   | true=>
    rw[hk] at h;simp only[cond_true] at h
    unfold R11 at h
    split at h<;>first | (cases h;rfl) | (split at h<;>first | (cases h;done) | (cases h;rfl)) | cases h
 .refine⟨rfl,rfl,?_⟩
  unfold E73 at h
  split at h<;>first | (cases h;rfl) | (split at h<;>first | (cases h;done) | (cases h;rfl)) | cases h
 .cases h
theorem C85 {op : BinOp} {x y : Value} (h : U12 op x y = some v) (t : TypeId) (xo yo : Operand) (w : World) :
    (do eqGuard op t xo yo x y; binOp op t x y : Sem Value).run P w = .ok v w := by
  unfold U12 at h
  split at h
  · rename_i k a k' b
    have hg : ∀ w, (eqGuard op t xo yo (.int k a) (.int k' b)).run P w = .ok () w := by
      intro w; cases op <;> simp [eqGuard]
    simp only [Sem.run_bind, hg, Result.andThen_ok]
    cases hs : M7 op with
    | true =>
      rw [hs] at h; simp only [cond_true] at h
      unfold E20 at h
      split at h
      · cases h
      · rename_i hb
        cases op <;> simp [M7] at hs <;> cases h <;> simp [binOp, Op.shift, hb]
    | false =>
      rw [hs] at h; simp only [cond_false] at h
      cases hk : eqK k k' with
      | false => rw [hk] at h; cases h
      | true =>
        rw [hk] at h; simp only [cond_true] at h
        have hk := U52 hk
        subst hk
        cases op <;> simp [M7] at hs <;> simp only [R11] at h <;> first
          | (cases h; simp [binOp, Op.intArith]; done)
          | (cases h; simp [binOp, Op.intBits]; done)
          | (cases h; simp [binOp, Op.intCmp]; done)
          | (split at h
             · cases h
             · rename_i hz; cases h; simp [binOp, Op.intDiv, hz])
          | cases h
  · rename_i a b
    have hg : ∀ w, (eqGuard op t xo yo (.string a) (.string b)).run P w = .ok () w := by
      intro w; cases op <;> simp [eqGuard]
    simp only [Sem.run_bind, hg, Result.andThen_ok]
    cases op <;> simp only [E73] at h <;> first
      | (cases h; simp [binOp, Op.stringOp]; done)
      | (split at h
         · cases h
         · rename_i hz; cases h; simp only [binOp, Op.stringOp, if_neg hz]; rfl)
      | cases h
  · cases h
theorem R40 {yt:TypeId} {y:Operand} {Y1:X} (ho:o.op = .binOp op t x y yt) (hx:Q2 n x=some X1) (hy:Q2 n y=some Y1) (z:β) (k:Value->β):
  Q7 P (.bin op X1 Y1) T z k=z\/∃ v,Q7 P (.bin op X1 Y1) T z k=k v/\PV P d n o T v:=by
 show E75 op X1 Y1 T z k=z\/∃ v,E75 op X1 Y1 T z k=k v/\_
 unfold E75
 rw[N4,N4,N62]
 cases hv:U12 op (ev T X1) (ev T Y1) with
 | none=>exact .inl rfl
 | some v=>
  refine .inr ⟨v,rfl,fun F act w ht => ?_⟩
  obtain⟨f1,f2,f3⟩:=V78 hv
  have h1:=B18 (evX ht hx) f1
  have h2:=B18 (evX ht hy) f2
  refine⟨v,?_,K11 F v f3⟩
  have hr:=C85 (P:=P) hv t x y w
  simp only[execOp,ho,h1,h2,Sem.run_bind] at hr ⊢
  rw[hr];rfl
theorem X88 {op:UnOp} {x:Value} (h:unV op x=some v):W9 x=true/\C11 v=true:=by
 unfold unV at h
 split at h<;>first | (cases h;exact⟨rfl,rfl⟩) | cases h
theorem V88 {op:UnOp} (ho:o.op = .unOp op t x) (hx:Q2 n x=some X1) (z:β) (k:Value->β):
  Q7 P (.un op X1) T z k=z\/∃ v,Q7 P (.un op X1) T z k=k v/\PV P d n o T v:=by
 show unK op X1 T z k=z\/∃ v,unK op X1 T z k=k v/\_
 unfold unK
 rw[N4,R9]
 cases hv:unV op (ev T X1) with
 | none=>exact .inl rfl
 | some v=>
  refine .inr ⟨v,rfl,fun F act w ht => ?_⟩
  obtain⟨f1,f3⟩:=X88 hv
  have h1:=B18 (evX ht hx) f1
  refine⟨v,?_,K11 F v f3⟩
  unfold unV at hv
  split at hv
  .rename_i e;cases hv;simp[execOp,ho,h1,e,Op.unary,Op.intArith]
  .rename_i e;cases hv;simp[execOp,ho,h1,e,Op.unary,Op.intBits]
  .rename_i e;cases hv;simp[execOp,ho,h1,e,Op.unary]
  .cases hv
end
end Go.Clo

namespace Go.Clo
variable {F:FM} {P:Program} {b c f n o:Nat} {fd:Field} {fs:Array Field} {s sh:Option Nat} {t:TypeId} {v:Value} {x:Operand} {y:X}
theorem M18 (b o n:Nat):(⟨b,o,none⟩:Addr).add n=⟨b,o+n,none⟩:=by
 unfold Addr.add;split
 .rename_i h;subst h;rfl
 .rfl
theorem VR.ptr_inv (h:VR F (.pointer (some ⟨b,o,s⟩)) v):s=none/\∃ t,F b=some t/\v = .pointer (some ⟨t.blk,t.base+o,none⟩):=by
 cases h with
 | ptr h=>exact⟨rfl,_,h,rfl⟩
theorem VR.slice_inv (h:VR F (.slice (some ⟨b,o,none⟩) n c) v):
  (none:Option Nat)=none/\∃ t c',F b=some t/\v = .slice (some ⟨t.blk,t.base+o,none⟩) n c'/\(c'=c\/(0<t.esz/\c<=c'/\o+c*t.esz=t.sz/\t.base+o+c'*t.esz<=t.rsz/\c'<=9223372036854775807)):=by
 cases h with
 | slice h hc=>exact⟨rfl,_,_,h,rfl,hc⟩
theorem VR.slice_invP (h:VR F (.slice (some ⟨b,o,s⟩) n c) v) (hn:0<n):
  s=none/\∃ t c',F b=some t/\v = .slice (some ⟨t.blk,t.base+o,none⟩) n c'/\(c'=c\/(0<t.esz/\c<=c'/\o+c*t.esz=t.sz/\t.base+o+c'*t.esz<=t.rsz/\c'<=9223372036854775807)):=by
 cases h with
 | slice h hc=>exact⟨rfl,_,_,h,rfl,hc⟩
 | sliceW s a=>exact absurd hn (Nat.lt_irrefl 0)
theorem VR.sliceN_inv (h:VR F (.slice none n c) v):v = .slice none n c:=by cases h;rfl
theorem VR.agg_inv {x:Array Value} (h:VR F (.agg x) v):∃ x',v = .agg x'/\VL F x.toList x'.toList:=by
 cases h with
 | agg h1 h2=>exact⟨_,rfl,VL.ofArr h1 h2⟩
theorem VR.tuple_inv {x:Array Value} (h:VR F (.tuple x) v):∃ x',v = .tuple x'/\VL F x.toList x'.toList:=by
 cases h with
 | tuple h1 h2=>exact⟨_,rfl,VL.ofArr h1 h2⟩
theorem X63 {n:Nat} {o:Oper} {F:FM} {T:U1 Value} {a:Act} (ht:OR n o F T a):∀ {l:List Operand} {ys:List X},E12 n l=some ys->(∀ x ∈ l,x ∈ o.op.operands)->VL F (ys.map (ev T)) (l.map a.eval)
 | [],ys,h,_=>by simp[E12] at h;subst h;exact .nil
 | x :: l,ys,h,hm=>by
  simp only[E12] at h
  cases hx:Q2 n x with
  | none=>simp[hx] at h
  | some y=>cases hl:E12 n l with
   | none=>simp[hx,hl] at h
   | some ys'=>
    simp[hx,hl] at h;subst h
    exact .cons (evX ht hx (hm x (by simp))) (X63 ht hl fun q hq=>hm q (by simp[hq]))
inductive PL (F:FM):List (Nat × Value)->List (Nat × Value)->Prop
 | nil:PL F [] []
 | cons {i:Nat} {v v':Value} {l l':List (Nat × Value)} (h:VR F v v') (t:PL F l l'):PL F ((i,v) :: l) ((i,v') :: l')
theorem Y85 {n:Nat} {o:Oper} {F:FM} {T:U1 Value} {a:Act} (ht:OR n o F T a):∀ {l:List (Nat × Operand)} {ys:List (Nat × X)},E26 n l=some ys->(∀ p ∈ l,p.2 ∈ o.op.operands) ->
  PL F (ys.map fun p=>(p.1,ev T p.2)) (l.map fun p=>(p.1,a.eval p.2))
 | [],ys,h,_=>by simp[E26] at h;subst h;exact .nil
 | (i,x) :: l,ys,h,hm=>by
  simp only[E26] at h
  cases hx:Q2 n x with
  | none=>simp[hx] at h
  | some y=>cases hl:E26 n l with
   | none=>simp[hx,hl] at h
   | some ys'=>
    simp[hx,hl] at h;subst h
    exact .cons (evX ht hx (hm (i,x) (by simp))) (Y85 ht hl fun q hq=>hm q (by simp[hq]))
theorem evO {o:Oper} {T:U1 Value} {a:Act} (ht:OR n o F T a) {x:Option Operand} {y:Option X} (h:D14 n x=some y) (hm:∀ q,x=some q->q ∈ o.op.operands):
  (x=none/\y=none)\/∃ x1 y1,x=some x1/\y=some y1/\VR F (ev T y1) (a.eval x1):=by
 cases x with
 | none=>simp[D14] at h;exact .inl ⟨rfl,h.symm⟩
 | some x1=>
  simp only[D14] at h
  cases hx:Q2 n x1 with
  | none=>simp[hx] at h
  | some y1=>simp[hx] at h;exact .inr ⟨x1,y1,rfl,h.symm,evX ht hx (hm x1 rfl)⟩
theorem B65 (off:Nat):∀ (vs:List Value) (k:Nat) (cells:Array Value),off+k+vs.length<=cells.size ->
  ((vs.zipIdx k).foldl (fun cs (c,j)=>cs.setIfInBounds (off+j) c) cells).toList=cells.toList.take (off+k)++vs++cells.toList.drop (off+k+vs.length)
 | [],k,cells,_=>by simp
 | v :: vs,k,cells,h=>by
  simp only[List.zipIdx_cons,List.foldl_cons]
  rw[B65 off vs (k+1) _ (by simp at h ⊢;omega)]
  have e:=list_seg_step cells.toList (off+k) v vs (by simp at h ⊢;omega)
  simpa [Array.toList_setIfInBounds,Nat.add_assoc] using e
theorem B36 {pl pl':Nat->Option (Nat × Nat)} (hpl:∀ i p,pl i=some p->pl' i=some p) {ps ps':List (Nat × Value)} (hp:PL F ps ps'):
  ∀ {cells:List Value} {cells':Array Value} {r:List Value},VL F cells cells'.toList->V21 pl cells ps=some r->∃ r',Instr.fill pl' cells' ps'=some r'/\VL F r r'.toList:=by
 induction hp with
 | nil=>intro cells cells' r hc h;simp[V21] at h;subst h;exact⟨cells',rfl,hc⟩
 | @cons i v v' l l' hv _ ih=>
  intro cells cells' r hc h
  rw[V21] at h
  cases hi:pl i with
  | none=>rw[hi] at h;cases h
  | some p=>
   obtain⟨off,size⟩:=p
   rw[hi] at h
   dsimp only at h
   cases hb:(Nat.beq v.cells.toList.length size&&Nat.ble (off+size) cells.length&&Q35 v) with
   | false=>rw[hb] at h;cases h
   | true=>
    rw[hb] at h;simp only[cond_true] at h
    simp only[Bool.and_eq_true,Nat.ble_eq] at hb
    obtain⟨⟨h1,h2⟩,hnc⟩:=hb
    have h1:=Nat.eq_of_beq_eq_true h1
    have hcl:=hc.length
    have hvl:=(hv.cells hnc).length
    have e:(v'.cells.zipIdx.foldl (fun cs (c,j)=>cs.setIfInBounds (off+j) c) cells').toList=cells'.toList.take off++v'.cells.toList++cells'.toList.drop (off+size):=by
     have:=B65 off v'.cells.toList 0 cells' (by simp at hcl hvl h1;simp;omega)
     simp only[Nat.add_zero] at this
     rw[show off+size=off+v'.cells.toList.length by omega,<- this]
     rw[<- Array.foldl_toList]
     simp
    obtain⟨r',hr,hl⟩:=ih (cells':=v'.cells.zipIdx.foldl (fun cs (c,j)=>cs.setIfInBounds (off+j) c) cells') (by rw[e];exact ((hc.take off).append (hv.cells hnc)).append (hc.drop _)) h
    refine⟨r',?_,hl⟩
    simp only[Instr.fill,hpl i _ hi]
    have e1:¬ (v'.cells.size≠size || off+v'.cells.size > cells'.size)=true:=by simp at hcl hvl h1;simp;omega
    rw[if_neg e1]
    exact hr
theorem Z54 {P:Program}:∀ {fs:List Field} {pl:List (Nat × Nat)},M21 P fs=some pl->fs.mapM (fun f=>(P.info? f.type).map fun i=>(f.offset,i.size))=some pl
 | [],pl,h=>by simp[M21] at h;subst h;rfl
 | f :: fs,pl,h=>by
  simp only[M21] at h
  cases hi:P.info? f.type with
  | none=>simp[hi] at h
  | some i=>cases hl:M21 P fs with
   | none=>simp[hi,hl] at h
   | some l=>
    simp[hi,hl] at h;subst h
    simp[List.mapM_cons,hi,Z54 hl]
theorem G22 {z:List Value} (h:J18 P t=some z):∃ i v,P.info? t=some i/\i.zero=some v/\z=v.cells.toList/\C11 v=true/\Z0 z=true/\z.length=i.size:=by
 unfold J18 at h
 cases hi:P.info? t with
 | none=>simp[hi] at h
 | some i=>
  cases hz:i.zero with
  | none=>simp[hi,hz] at h
  | some v=>
   rw[hi] at h;dsimp only at h;rw[hz] at h;dsimp only at h
   cases hb:(C11 v&&Z0 v.cells.toList&&Nat.beq v.cells.toList.length i.size) with
   | false=>rw[hb] at h;cases h
   | true=>
    rw[hb] at h;simp only[cond_true,Option.some.injEq] at h;subst h
    simp only[Bool.and_eq_true] at hb
    exact⟨i,v,rfl,hz,rfl,hb.1.1,hb.1.2,Nat.eq_of_beq_eq_true hb.2⟩
theorem M53 (h:X15 P t=some sh):∃ dd i,P.underlying t=some dd/\P.info? t=some i/\sh=cond (Y15 dd) (some i.size) none:=by
 unfold X15 at h
 cases hd:P.underlying t with
 | none=>simp[hd] at h
 | some dd=>cases hi:P.info? t with
  | none=>simp[hd,hi] at h
  | some i=>simp[hd,hi] at h;exact⟨dd,i,rfl,rfl,h.symm⟩
theorem V23 {dd:TypeDesc} (h:P.underlying t=some dd) (w:World):(isAgg t).run P w = .ok (Y15 dd) w:=by
 cases dd<;>simp[isAgg,run_underlying h,Y15]
theorem N59 {sh:Option Nat} (h:X15 P t=some sh) (cs:List Value) (off:Nat) {β:Type} (z:β) (k:Value->β):
  N34 cs off sh z k=z\/∃ v,N34 cs off sh z k=k v/\∀ (F:FM) (cs':Array Value) (w:World),VL F cs cs'.toList->∃ v',(part t cs' off).run P w = .ok v' w/\VR F v v':=by
 obtain⟨dd,i,hu,hi,rfl⟩:=M53 h
 unfold N34
 cases hd:Y15 dd with
 | true=>
  simp only[cond_true]
  rw[E3]
  refine .inr ⟨_,rfl,fun F cs' w hc=>⟨.agg (cs'.extract off (off+i.size)),?_,?_⟩⟩
  .simp[part,V23 hu,hd,D6 hi]
  .have e:(cs'.extract off (off+i.size))=⟨(cs'.toList.drop off).take i.size⟩:=by
    apply Array.toList_inj.1
    simp[List.extract_eq_take_drop]
   rw[e]
   exact VR.agg' ((hc.drop off).take _)
 | false=>
  simp only[cond_false]
  rw[X20]
  cases hv:cs[off]? with
  | none=>exact .inl rfl
  | some v=>
   refine .inr ⟨v,rfl,fun F cs' w hc => ?_⟩
   obtain⟨v',hv',hr⟩:=hc.some hv
   refine⟨v',?_,hr⟩
   have:cs'[off]? = some v':=by simpa using hv'
   simp[part,V23 hu,hd,this]
section
variable {β:Type} {P:Program} {d n:Nat} {o:Oper} {T:U1 Value}
theorem B81 {s:TypeId} {i:TypeInfo} (ho:o.op = .fieldAddr s x f) (hx:Q2 n x=some y) (hs:P.underlying s=some (.struct fs)) (hf:fs[f]? = some fd)
  (hi:P.info? fd.type=some i) (hz:i.size≠0) (z:β) (k:Value->β):
  Q7 P (.fld y fd.offset) T z k=z\/∃ v,Q7 P (.fld y fd.offset) T z k=k v/\PV P d n o T v:=by
 show J75 y fd.offset T z k=z\/∃ v,J75 y fd.offset T z k=k v/\_
 unfold J75
 rw[N4]
 split
 .rename_i a hv
  obtain⟨b,o',s'⟩:=a
  unfold Q30
  rw[N2]
  refine .inr ⟨_,rfl,fun F act w ht => ?_⟩
  have h1:=evX ht hx
  rw[hv] at h1
  obtain⟨rfl,t,hF,he⟩:=h1.ptr_inv
  refine⟨.pointer (some ⟨t.blk,t.base+(o'+fd.offset),none⟩),?_,.ptr hF⟩
  simp[execOp,ho,he,Instr.fieldAt,run_underlying hs,hf,Instr.sureAddr,fieldPlace,D6 hi,hz,M18,Nat.add_assoc]
 .exact .inl rfl
theorem W73 (ho:o.op = .nilCheck x) (hx:Q2 n x=some y) (z:β) (k:Value->β):
  Q7 P (.nilc y) T z k=z\/∃ v,Q7 P (.nilc y) T z k=k v/\PV P d n o T v:=by
 show D61 y T z k=z\/∃ v,D61 y T z k=k v/\_
 unfold D61
 rw[N4]
 split
 .rename_i a hv
  obtain⟨b,o',s'⟩:=a
  refine .inr ⟨_,rfl,fun F act w ht => ?_⟩
  have h1:=evX ht hx
  rw[hv] at h1
  have h2:=h1
  obtain⟨rfl,t,hF,he⟩:=h1.ptr_inv
  rw[he] at h2
  exact⟨_,by simp[execOp,ho,he],h2⟩
 .exact .inl rfl
theorem C80 {i:Nat} (ho:o.op = .extract x i) (hx:Q2 n x=some y) (z:β) (k:Value->β):
  Q7 P (.ext y i) T z k=z\/∃ v,Q7 P (.ext y i) T z k=k v/\PV P d n o T v:=by
 show K75 y i T z k=z\/∃ v,K75 y i T z k=k v/\_
 unfold K75
 rw[N4]
 split
 .rename_i vs hv
  rw[X20]
  cases hi:vs.toList[i]? with
  | none=>exact .inl rfl
  | some v=>
   refine .inr ⟨v,rfl,fun F act w ht => ?_⟩
   have h1:=evX ht hx
   rw[hv] at h1
   obtain⟨x',he,hl⟩:=h1.tuple_inv
   obtain⟨v',hv',hr⟩:=hl.some hi
   have:x'[i]? = some v':=by simpa using hv'
   exact⟨v',by simp[execOp,ho,he,Instr.extract,this],hr⟩
 .exact .inl rfl
theorem B73 (ho:o.op = .field t x f) (hx:Q2 n x=some y) (hs:P.underlying t=some (.struct fs)) (hf:fs[f]? = some fd)
  (hsh:X15 P fd.type=some sh) (z:β) (k:Value->β):
  Q7 P (.part y fd.offset sh) T z k=z\/∃ v,Q7 P (.part y fd.offset sh) T z k=k v/\PV P d n o T v:=by
 show E61 y fd.offset sh T z k=z\/∃ v,E61 y fd.offset sh T z k=k v/\_
 unfold E61
 rw[N4]
 split
 .rename_i cs hv
  rcases N59 (P:=P) hsh cs.toList fd.offset z k with h | ⟨v,h,hp⟩
  .exact .inl h
  .refine .inr ⟨v,h,fun F act w ht => ?_⟩
   have h1:=evX ht hx
   rw[hv] at h1
   obtain⟨x',he,hl⟩:=h1.agg_inv
   obtain⟨v',hv',hr⟩:=hp F x' w hl
   exact⟨v',by simp[execOp,ho,he,Instr.field,run_underlying hs,hf,asAgg,hv'],hr⟩
 .exact .inl rfl
end
end Go.Clo
