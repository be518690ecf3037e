/-
  The closed executor: the operations that only compute stand to the model's.
  The closed executor: the rest of the operations that only compute.
-/
import Derived.Test.YtoiioigihocgbaaGreatDoorN3
import Derived.IntWalk
set_option linter.all false
noncomputable section
namespace Go.Clo
variable {F:FM} {P:Program} {T:K0 Value} {X1 y:X} {a:Act} {d n:Nat} {i:TypeInfo} {k:IntKind} {op:BinOp} {t:TypeId} {v:Value} {x:Operand} {β:Type}
def ev(T:K0 Value)(x:X):Value:=W4 T x id
theorem G2(T:K0 Value)(x:X)(k:Value->β):W4 T x k=k (ev T x):=by
 cases x with
 | s t=>
  show tgK T t (k undef) k=k (tgK T t (id undef) id);rw[J11,J11];cases tg T t<;>rfl
 | c v=>rfl
theorem C22(T:K0 Value)(l:List X):∀(k:List Value->β),U17 T l k=k (l.map (ev T)):=by
 induction l with
 | nil=>intro k;rfl
 | cons x l ih=>
  intro k;show W4 T x (fun v=>U17 T l fun vs=>k (v :: vs))=_;rw[G2,ih];rfl
theorem C15(T:K0 Value)(x:Option X)(k:Option Value->β):R24 T x k=k (x.map (ev T)):=by
 cases x<;>simp[R24,G2]
theorem J45(T:K0 Value)(l:List (Nat × X)):∀(k:List (Nat × Value)->β),E34 T l k=k (l.map fun p=>(p.1,ev T p.2)):=by
 induction l with
 | nil=>intro k;rfl
 | cons x l ih=>intro k;obtain⟨i,x⟩:=x;simp[E34,G2,ih]
structure TR (d:Nat) (F:FM) (T:K0 Value) (n:Nat) (tmps:Array Value):Prop where
 wf:WF d T
 size:tmps.size=n
 le:n<=2^d
 get:∀ t,t<n->VR F ((tg T t).getD undef) (tmps.getD t undef)
theorem TR.mono{d:Nat}{F F':FM}(hF:F.le F'){T:K0 Value}{n:Nat}{tmps:Array Value}(h:TR d F T n tmps):TR d F' T n tmps:=
 ⟨h.wf,h.size,h.le,fun t ht=>(h.get t ht).mono hF⟩
theorem E53(T:K0 Value)(t:Nat):ev T (.s t)=(tg T t).getD undef:=by
 show tgK T t undef id=_;rw[J11];cases tg T t<;>rfl
theorem TR.evX(ht:TR d F T n a.tmps)(h:N0 n x=some y):VR F (ev T y) (a.eval x):=by
 cases x with
 | tmp t=>
  simp only[N0] at h
  cases hb:Nat.blt t n with
  | false=>simp[hb] at h
  | true=>
   simp[hb] at h;subst h;rw[E53];exact ht.get t (by simpa using hb)
 | const v=>
  simp only[N0] at h
  cases hb:X7 v with
  | false=>simp[hb] at h
  | true=>simp[hb] at h;subst h;exact C6 F v hb
 | global g=>simp[N0] at h
 | func f=>
  simp[N0] at h;subst h;exact .func _ rfl (by simp) rfl (by simp)
def OR(n:Nat)(o:Oper)(F:FM)(T:K0 Value)(a:Act):Prop:=∀ x ∈ o.op.operands,∀ y,N0 n x=some y->VR F (ev T y) (a.eval x)
theorem TR.or(ht:TR d F T n a.tmps)(o:Oper):OR n o F T a:=fun _ _ _ h=>ht.evX h
theorem evX{o:Oper}(ht:OR n o F T a)(h:N0 n x=some y)(hm:x ∈ o.op.operands:=by rw[(‹o.op=_› : o.op=_)];simp[Op.operands]):VR F (ev T y) (a.eval x):=ht x hm y h
theorem M61(h:N0 n x=some y):D42 T x=ev T y:=by
 cases x with
 | tmp t=>
  simp only[N0] at h
  cases hb:Nat.blt t n with
  | false=>simp[hb] at h
  | true=>simp[hb] at h;subst h;rfl
 | const v=>
  simp only[N0] at h
  cases hb:X7 v with
  | false=>simp[hb] at h
  | true=>simp[hb] at h;subst h;rfl
 | global g=>simp[N0] at h
 | func f=>simp[N0] at h;subst h;rfl
theorem D54{α:Type}{s:Sem α}{r:α}(h:E30 P s=some r)(w:World):s.run P w = .ok r w:=by
 induction s with
 | pure a=>simp[E30] at h;subst h;rfl
 | program k ih=>exact ih P h
 | mark m k ih=>exact ih h
 | _=>simp[E30] at h
def PV(P:Program)(d n:Nat)(o:Oper)(T:K0 Value)(v:Value):Prop:=
 ∀(F:FM) (a:Act) (w:World),OR n o F T a->∃ v',(execOp a.eval o).run P w = .ok (.value v') w/\VR F v v'
theorem Z30{o:Oper}{T:K0 Value}{xs:List X}(J:∀ cs b,o.op ≠ .select cs b)
  (O:∀ x ∈ o.op.operands,∃ y ∈ xs,N0 n x=some y)(z:β)(k:Value->β):
  K20 P T xs o z k=z\/∃ v,K20 P T xs o z k=k v/\PV P d n o T v:=by
 unfold K20;rw[C22]
 cases E:(xs.map (ev T)).all X7 with
 | false=>exact .inl rfl
 | true=>
  cases hp:E30 P (execOp (D42 T) o) with
  | none=>exact .inl rfl
  | some r=>
   cases r with
   | value v=>
    dsimp only[cond_true];rw[Y5]
    cases hf:X7 v with
    | false=>exact .inl rfl
    | true=>
     refine .inr ⟨v,rfl,?_⟩;intro F a w ht;have he:execOp a.eval o=execOp (D42 T) o:=execOp_congr o J (fun x hx=>by
      obtain⟨y,hy,hc⟩:=O x hx;rw[M61 hc];refine R51 (evX ht hc hx) ?_;rw[List.all_eq_true] at E;exact E _ (List.mem_map.2 ⟨y,hy,rfl⟩))
     rw[he];exact⟨v,D54 hp w,C6 F v hf⟩
   | _=>exact .inl rfl
theorem J33{a b:IntKind}(h:eqK a b=true):a=b:=by cases a<;>cases b<;>first | rfl | simp[eqK] at h
theorem Q67(a b:Int):N52 a b=a+b:=by cases a<;>cases b<;>simp[N52]<;>rfl
theorem J66(a b:Int):X54 a b=a-b:=by
 cases a<;>cases b<;>simp only[X54]
 rename_i a b
 cases h:Nat.ble b a with
 | true=>
  have:=Nat.le_of_ble_eq_true h;simp only[cond_true];show((Nat.sub a b:Nat):Int)=(a:Int)-(b:Int)
  have e:Nat.sub a b=a-b:=rfl;rw[e];omega
 | false=>
  have:¬ b<=a:=fun hh=>by rw[Nat.ble_eq_true_of_le hh] at h;cases h
  simp only[cond_false,Int.negSucc_eq];have e:Nat.sub (Nat.sub b a) 1=b-a-1:=rfl;rw[e];show _=(a:Int)-(b:Int)
  omega
theorem D60(a b:Int):ltI a b=decide (a<b):=by
 cases a<;>cases b<;>simp only[ltI]
 .rename_i a b
  rw[Bool.eq_iff_iff];simp[Nat.blt_eq]
 .simp;omega
 .simp;omega
 .rename_i a b
  rw[Bool.eq_iff_iff];simp[Nat.blt_eq];omega
theorem Y57(a b:Int):leI a b=decide (a<=b):=by
 cases a<;>cases b<;>simp only[leI]
 .rename_i a b
  rw[Bool.eq_iff_iff];simp
 .simp;omega
 .simp;omega
 .rename_i a b
  rw[Bool.eq_iff_iff];simp;omega
theorem Q26(a b:Int):eqI a b=(a==b):=by
 cases a<;>cases b<;>simp only[eqI]
 .rename_i a b
  rw[Bool.eq_iff_iff];simp;omega
 .symm;simp
 .symm;simp
 .rename_i a b
  rw[Bool.eq_iff_iff];simp
theorem Z21{r:Int}(h:Q14 k r=true):k.wrap r=r:=by
 cases r with
 | ofNat m=>
  cases k<;>simp[Q14,Nat.blt_eq] at h<;>simp[IntKind.wrap,IntKind.bits,IntKind.signed]<;>omega
 | negSucc m=>
  cases k<;>simp[Q14,Nat.blt_eq] at h
  exact IntWalk.i64_in _ (by omega)
theorem VR.int_inv{n:Int}(h:VR F (.int k n) v):v = .int k n:=by cases h;rfl
theorem VR.bool_inv{b:Bool}(h:VR F (.bool b) v):v = .bool b:=by cases h;rfl
theorem K8(h:P.info? t=some i)(w:World):(typeInfo t).run P w = .ok i w:=by
 simp[typeInfo,program,Sem.run,h]
theorem E3(h:P.info? t=some i)(w:World):(sizeOf t).run P w = .ok i.size w:=by
 simp[sizeOf,K8 h]
section
variable {β:Type} {P:Program} {d n:Nat} {o:Oper} {T:K0 Value}
theorem C43(ho:o.op = .move x\/o.op = .assign x)(h:N0 n x=some y)(z:β)(k:Value->β):
  X4 P (.mv y) T z k=z\/∃ v,X4 P (.mv y) T z k=k v/\PV P d n o T v:=by
 refine .inr ⟨ev T y,G2 T y k,fun F a w ht=>⟨a.eval x,?_,evX ht h (by rcases ho with ho | ho<;>simp[ho,Op.operands])⟩⟩;rcases ho with ho | ho<;>simp[execOp,ho]
theorem U55{c a b:Operand}{yc ya yb:X}(ho:o.op = .pick c a b)(hc:N0 n c=some yc)(ha:N0 n a=some ya)(hb:N0 n b=some yb)(z:β)(k:Value->β):
  X4 P (.pick yc ya yb) T z k=z\/∃ v,X4 P (.pick yc ya yb) T z k=k v/\PV P d n o T v:=by
 show V42 yc ya yb T z k=z\/∃ v,V42 yc ya yb T z k=k v/\_;unfold V42;rw[G2]
 cases hv:ev T yc with
 | bool t=>
  dsimp only;rw[E14,G2,G2];refine .inr ⟨if t then ev T ya else ev T yb,by cases t<;>rfl,fun F E w ht => ?_⟩;have h1:=evX ht hc;rw[hv] at h1;have h1:=h1.bool_inv;refine⟨if t then E.eval a else E.eval b,?_,?_⟩
  .simp[execOp,ho,h1,asBool]
  .cases t
   .exact evX ht hb
   .exact evX ht ha
 | _=>exact .inl rfl
theorem J8(r:Option Value)(z:β)(f:Value->β):X22 r z f=r.elim z f:=by
 cases r with
 | none=>rfl
 | some v=>exact E7 v f
theorem D61(op:BinOp)(k:IntKind)(a b:Int)(z:β)(f:Value->β):C55 op k a b z f=(G7 op k a b).elim z f:=by
 unfold C55
 split<;>(try rw[J21])<;>(try rw[B21])
 .cases hf:Q14 k (N52 a b) with
  | false=>simp only[cond_false];exact J8 _ z f
  | true=>have:=Z21 hf;rw[Q67] at this ⊢;simp[G7,this]
 .cases hf:Q14 k (X54 a b) with
  | false=>simp only[cond_false];exact J8 _ z f
  | true=>have:=Z21 hf;rw[J66] at this ⊢;simp[G7,this]
 .simp[G7,D60]
 .simp[G7,Y57]
 .simp[G7,D60]
 .simp[G7,Y57]
 .simp[G7,Q26]
 .simp[G7,Q26,bne]
 .exact J8 _ z f
theorem V47(op:BinOp)(x y:Value)(z:β)(f:Value->β):J42 op x y z f=(R9 op x y).elim z f:=by
 unfold J42 R9
 split
 .cases N4 op with
  | true=>exact J8 _ z f
  | false=>
   simp only[cond_false];rename_i k a k' b
   cases eqK k k' with
   | false=>rfl
   | true=>exact D61 op _ _ _ z f
 .exact J8 _ z f
 .rfl
theorem E58{x y:Value}(h:R9 op x y=some v):M4 x=true/\M4 y=true/\X7 v=true:=by
 unfold R9 at h
 split at h
 .refine⟨rfl,rfl,?_⟩
  cases hs:N4 op with
  | true=>
   rw[hs] at h;simp only[cond_true] at h;unfold C18 at h
   split at h
   .cases h
   .split at h<;>cases h<;>rfl
  | false=>
   rw[hs] at h;simp only[cond_false] at h;rename_i k a k' b
   cases hk:eqK k k' with
   | false=>rw[hk] at h;cases h
   | true=>
    rw[hk] at h;simp only[cond_true] at h;unfold G7 at h
    split at h<;>first | (cases h;rfl) | (split at h<;>first | (cases h;done) | (cases h;rfl)) | cases h
 .refine⟨rfl,rfl,?_⟩
  unfold K53 at h
  split at h<;>first | (cases h;rfl) | (split at h<;>first | (cases h;done) | (cases h;rfl)) | cases h
 .cases h
theorem G64 {op : BinOp} {x y : Value} (h : R9 op x y = some v) (t : TypeId) (xo yo : Operand) (w : World) :
    (do eqGuard op t xo yo x y; binOp op t x y : Sem Value).run P w = .ok v w := by
  unfold R9 at h
  split at h
  · rename_i k a k' b
    have hg : ∀ w, (eqGuard op t xo yo (.int k a) (.int k' b)).run P w = .ok () w := by
      intro w; cases op <;> simp [eqGuard]
    simp only [Sem.run_bind, hg, Result.andThen_ok]
    cases hs : N4 op with
    | true =>
      rw [hs] at h; simp only [cond_true] at h
      unfold C18 at h
      split at h
      · cases h
      · rename_i hb
        cases op <;> simp [N4] at hs <;> cases h <;> simp [binOp, Op.shift, hb]
    | false =>
      rw [hs] at h; simp only [cond_false] at h
      cases hk : eqK k k' with
      | false => rw [hk] at h; cases h
      | true =>
        rw [hk] at h; simp only [cond_true] at h
        have hk := J33 hk
        subst hk
        cases op <;> simp [N4] at hs <;> simp only [G7] at h <;> first
          | (cases h; simp [binOp, Op.intArith]; done)
          | (cases h; simp [binOp, Op.intBits]; done)
          | (cases h; simp [binOp, Op.intCmp]; done)
          | (split at h
             · cases h
             · rename_i hz; cases h; simp [binOp, Op.intDiv, hz])
          | cases h
  · rename_i a b
    have hg : ∀ w, (eqGuard op t xo yo (.string a) (.string b)).run P w = .ok () w := by
      intro w; cases op <;> simp [eqGuard]
    simp only [Sem.run_bind, hg, Result.andThen_ok]
    cases op <;> simp only [K53] at h <;> first
      | (cases h; simp [binOp, Op.stringOp]; done)
      | (split at h
         · cases h
         · rename_i hz; cases h; simp only [binOp, Op.stringOp, if_neg hz]; rfl)
      | cases h
  · cases h
theorem J26{yt:TypeId}{y:Operand}{Y1:X}(ho:o.op = .binOp op t x y yt)(hx:N0 n x=some X1)(hy:N0 n y=some Y1)(z:β)(k:Value->β):
  X4 P (.bin op X1 Y1) T z k=z\/∃ v,X4 P (.bin op X1 Y1) T z k=k v/\PV P d n o T v:=by
 show V52 op X1 Y1 T z k=z\/∃ v,V52 op X1 Y1 T z k=k v/\_;unfold V52;rw[G2,G2,V47]
 cases hv:R9 op (ev T X1) (ev T Y1) with
 | none=>exact .inl rfl
 | some v=>
  refine .inr ⟨v,rfl,fun F E w ht => ?_⟩;obtain⟨f1,f2,f3⟩:=E58 hv;have h1:=C11 (evX ht hx) f1;have h2:=C11 (evX ht hy) f2;refine⟨v,?_,C6 F v f3⟩;have hr:=G64 (P:=P) hv t x y w;simp only[execOp,ho,h1,h2,Sem.run_bind] at hr ⊢;rw[hr];rfl
theorem W64{op:UnOp}{x:Value}(h:unV op x=some v):M4 x=true/\X7 v=true:=by
 unfold unV at h
 split at h<;>first | (cases h;exact⟨rfl,rfl⟩) | cases h
theorem C63{op:UnOp}(ho:o.op = .unOp op t x)(hx:N0 n x=some X1)(z:β)(k:Value->β):
  X4 P (.un op X1) T z k=z\/∃ v,X4 P (.un op X1) T z k=k v/\PV P d n o T v:=by
 show unK op X1 T z k=z\/∃ v,unK op X1 T z k=k v/\_;unfold unK;rw[G2,J8]
 cases hv:unV op (ev T X1) with
 | none=>exact .inl rfl
 | some v=>
  refine .inr ⟨v,rfl,fun F E w ht => ?_⟩;obtain⟨f1,f3⟩:=W64 hv;have h1:=C11 (evX ht hx) f1;refine⟨v,?_,C6 F v f3⟩;unfold unV at hv
  split at hv
  .rename_i e;cases hv;simp[execOp,ho,h1,e,Op.unary,Op.intArith]
  .rename_i e;cases hv;simp[execOp,ho,h1,e,Op.unary,Op.intBits]
  .rename_i e;cases hv;simp[execOp,ho,h1,e,Op.unary]
  .cases hv
end
end Go.Clo

namespace Go.Clo
variable {F:FM} {P:Program} {b c f n o:Nat} {fd:Field} {fs:Array Field} {s sh:Option Nat} {t:TypeId} {v:Value} {x:Operand} {y:X}
theorem X11(b o n:Nat):(⟨b,o,none⟩:Addr).add n=⟨b,o+n,none⟩:=by
 unfold Addr.add;split
 .rename_i h;subst h;rfl
 .rfl
theorem VR.ptr_inv(h:VR F (.pointer (some ⟨b,o,s⟩)) v):s=none/\∃ t,F b=some t/\v = .pointer (some ⟨t.blk,t.base+o,none⟩):=by
 cases h with
 | ptr h=>exact⟨rfl,_,h,rfl⟩
theorem VR.slice_inv(h:VR F (.slice (some ⟨b,o,none⟩) n c) v):
  (none:Option Nat)=none/\∃ t c',F b=some t/\v = .slice (some ⟨t.blk,t.base+o,none⟩) n c'/\(c'=c\/(0<t.esz/\c<=c'/\o+c*t.esz=t.sz/\t.base+o+c'*t.esz<=t.rsz/\c'<=9223372036854775807)):=by
 cases h with
 | slice h hc=>exact⟨rfl,_,_,h,rfl,hc⟩
theorem VR.slice_invP(h:VR F (.slice (some ⟨b,o,s⟩) n c) v)(hn:0<n):
  s=none/\∃ t c',F b=some t/\v = .slice (some ⟨t.blk,t.base+o,none⟩) n c'/\(c'=c\/(0<t.esz/\c<=c'/\o+c*t.esz=t.sz/\t.base+o+c'*t.esz<=t.rsz/\c'<=9223372036854775807)):=by
 cases h with
 | slice h hc=>exact⟨rfl,_,_,h,rfl,hc⟩
 | sliceW s a=>exact absurd hn (Nat.lt_irrefl 0)
theorem VR.sliceN_inv(h:VR F (.slice none n c) v):v = .slice none n c:=by cases h;rfl
theorem VR.agg_inv{x:Array Value}(h:VR F (.agg x) v):∃ x',v = .agg x'/\VL F x.toList x'.toList:=by
 cases h with
 | agg h1 h2=>exact⟨_,rfl,VL.ofArr h1 h2⟩
theorem VR.tuple_inv{x:Array Value}(h:VR F (.tuple x) v):∃ x',v = .tuple x'/\VL F x.toList x'.toList:=by
 cases h with
 | tuple h1 h2=>exact⟨_,rfl,VL.ofArr h1 h2⟩
theorem W48{n:Nat}{o:Oper}{F:FM}{T:K0 Value}{a:Act}(ht:OR n o F T a):∀ {l:List Operand} {ys:List X},U7 n l=some ys->(∀ x ∈ l,x ∈ o.op.operands)->VL F (ys.map (ev T)) (l.map a.eval)
 | [],ys,h,_=>by simp[U7] at h;subst h;exact .nil
 | x :: l,ys,h,hm=>by
  simp only[U7] at h
  cases hx:N0 n x with
  | none=>simp[hx] at h
  | some y=>cases hl:U7 n l with
   | none=>simp[hx,hl] at h
   | some E=>
    simp[hx,hl] at h;subst h;exact .cons (evX ht hx (hm x (by simp))) (W48 ht hl fun q hq=>hm q (by simp[hq]))
inductive PL (F:FM):List (Nat × Value)->List (Nat × Value)->Prop
 | nil:PL F [] []
 | cons {i:Nat} {v v':Value} {l l':List (Nat × Value)} (h:VR F v v') (t:PL F l l'):PL F ((i,v) :: l) ((i,v') :: l')
theorem G62{n:Nat}{o:Oper}{F:FM}{T:K0 Value}{a:Act}(ht:OR n o F T a):∀ {l:List (Nat × Operand)} {ys:List (Nat × X)},R16 n l=some ys->(∀ p ∈ l,p.2 ∈ o.op.operands) ->
  PL F (ys.map fun p=>(p.1,ev T p.2)) (l.map fun p=>(p.1,a.eval p.2))
 | [],ys,h,_=>by simp[R16] at h;subst h;exact .nil
 | (i,x) :: l,ys,h,hm=>by
  simp only[R16] at h
  cases hx:N0 n x with
  | none=>simp[hx] at h
  | some y=>cases hl:R16 n l with
   | none=>simp[hx,hl] at h
   | some E=>
    simp[hx,hl] at h;subst h;exact .cons (evX ht hx (hm (i,x) (by simp))) (G62 ht hl fun q hq=>hm q (by simp[hq]))
theorem evO{o:Oper}{T:K0 Value}{a:Act}(ht:OR n o F T a){x:Option Operand}{y:Option X}(h:B8 n x=some y)(hm:∀ q,x=some q->q ∈ o.op.operands):
  (x=none/\y=none)\/∃ x1 y1,x=some x1/\y=some y1/\VR F (ev T y1) (a.eval x1):=by
 cases x with
 | none=>simp[B8] at h;exact .inl ⟨rfl,h.symm⟩
 | some x1=>
  simp only[B8] at h
  cases hx:N0 n x1 with
  | none=>simp[hx] at h
  | some y1=>simp[hx] at h;exact .inr ⟨x1,y1,rfl,h.symm,evX ht hx (hm x1 rfl)⟩
theorem Y47(off:Nat):∀(vs:List Value) (k:Nat) (cells:Array Value),off+k+vs.length<=cells.size ->
  ((vs.zipIdx k).foldl (fun cs (c,j)=>cs.setIfInBounds (off+j) c) cells).toList=cells.toList.take (off+k)++vs++cells.toList.drop (off+k+vs.length)
 | [],k,cells,_=>by simp
 | v :: vs,k,cells,h=>by
  simp only[List.zipIdx_cons,List.foldl_cons];rw[Y47 off vs (k+1) _ (by simp at h ⊢;omega)];have e:=list_seg_step cells.toList (off+k) v vs (by simp at h ⊢;omega);simpa [Array.toList_setIfInBounds,Nat.add_assoc] using e
theorem B24{pl pl':Nat->Option (Nat × Nat)}(U:∀ i p,pl i=some p->pl' i=some p){ps E:List (Nat × Value)}(hp:PL F ps E):
  ∀ {cells:List Value} {cells':Array Value} {r:List Value},VL F cells cells'.toList->V16 pl cells ps=some r->∃ r',Instr.fill pl' cells' E=some r'/\VL F r r'.toList:=by
 induction hp with
 | nil=>intro cells cells' r hc h;simp[V16] at h;subst h;exact⟨cells',rfl,hc⟩
 | @cons i v v' l l' hv _ ih=>
  intro cells cells' r hc h;rw[V16] at h
  cases hi:pl i with
  | none=>rw[hi] at h;cases h
  | some p=>
   obtain⟨off,size⟩:=p;rw[hi] at h;dsimp only at h
   cases hb:(Nat.beq v.cells.toList.length size&&Nat.ble (off+size) cells.length&&B22 v) with
   | false=>rw[hb] at h;cases h
   | true=>
    rw[hb] at h;simp only[cond_true] at h;simp only[Bool.and_eq_true,Nat.ble_eq] at hb;obtain⟨⟨h1,h2⟩,J⟩:=hb;have h1:=Nat.eq_of_beq_eq_true h1;have O:=hc.length;have Q:=(hv.cells J).length;have e:(v'.cells.zipIdx.foldl (fun cs (c,j)=>cs.setIfInBounds (off+j) c) cells').toList=cells'.toList.take off++v'.cells.toList++cells'.toList.drop (off+size):=by
     have:=Y47 off v'.cells.toList 0 cells' (by simp at O Q h1;simp;omega);simp only[Nat.add_zero] at this;rw[show off+size=off+v'.cells.toList.length by omega,<- this];rw[<- Array.foldl_toList];simp
    obtain⟨r',hr,hl⟩:=ih (cells':=v'.cells.zipIdx.foldl (fun cs (c,j)=>cs.setIfInBounds (off+j) c) cells') (by rw[e];exact((hc.take off).append (hv.cells J)).append (hc.drop _)) h;refine⟨r',?_,hl⟩;simp only[Instr.fill,U i _ hi];have e1:¬ (v'.cells.size≠size || off+v'.cells.size > cells'.size)=true:=by simp at O Q h1;simp;omega
    rw[if_neg e1];exact hr
theorem B34{P:Program}:∀ {fs:List Field} {pl:List (Nat × Nat)},R13 P fs=some pl->fs.mapM (fun f=>(P.info? f.type).map fun i=>(f.offset,i.size))=some pl
 | [],pl,h=>by simp[R13] at h;subst h;rfl
 | f :: fs,pl,h=>by
  simp only[R13] at h
  cases hi:P.info? f.type with
  | none=>simp[hi] at h
  | some i=>cases hl:R13 P fs with
   | none=>simp[hi,hl] at h
   | some l=>
    simp[hi,hl] at h;subst h;simp[List.mapM_cons,hi,B34 hl]
theorem X14{z:List Value}(h:M10 P t=some z):∃ i v,P.info? t=some i/\i.zero=some v/\z=v.cells.toList/\X7 v=true/\Z0 z=true/\z.length=i.size:=by
 unfold M10 at h
 cases hi:P.info? t with
 | none=>simp[hi] at h
 | some i=>
  cases hz:i.zero with
  | none=>simp[hi,hz] at h
  | some v=>
   rw[hi] at h;dsimp only at h;rw[hz] at h;dsimp only at h
   cases hb:(X7 v&&Z0 v.cells.toList&&Nat.beq v.cells.toList.length i.size) with
   | false=>rw[hb] at h;cases h
   | true=>
    rw[hb] at h;simp only[cond_true,Option.some.injEq] at h;subst h;simp only[Bool.and_eq_true] at hb;exact⟨i,v,rfl,hz,rfl,hb.1.1,hb.1.2,Nat.eq_of_beq_eq_true hb.2⟩
theorem Q32(h:E8 P t=some sh):∃ dd i,P.underlying t=some dd/\P.info? t=some i/\sh=cond (G8 dd) (some i.size) none:=by
 unfold E8 at h
 cases hd:P.underlying t with
 | none=>simp[hd] at h
 | some dd=>cases hi:P.info? t with
  | none=>simp[hd,hi] at h
  | some i=>simp[hd,hi] at h;exact⟨dd,i,rfl,rfl,h.symm⟩
theorem M14{dd:TypeDesc}(h:P.underlying t=some dd)(w:World):(isAgg t).run P w = .ok (G8 dd) w:=by
 cases dd<;>simp[isAgg,run_underlying h,G8]
theorem J39{sh:Option Nat}(h:E8 P t=some sh)(cs:List Value)(off:Nat){β:Type}(z:β)(k:Value->β):
  E21 cs off sh z k=z\/∃ v,E21 cs off sh z k=k v/\∀(F:FM) (E:Array Value) (w:World),VL F cs E.toList->∃ v',(part t E off).run P w = .ok v' w/\VR F v v':=by
 obtain⟨dd,i,hu,hi,rfl⟩:=Q32 h;unfold E21
 cases hd:G8 dd with
 | true=>
  simp only[cond_true];rw[V2];refine .inr ⟨_,rfl,fun F E w hc=>⟨.agg (E.extract off (off+i.size)),?_,?_⟩⟩
  .simp[part,M14 hu,hd,E3 hi]
  .have e:(E.extract off (off+i.size))=⟨(E.toList.drop off).take i.size⟩:=by
    apply Array.toList_inj.1;simp[List.extract_eq_take_drop]
   rw[e];exact VR.agg' ((hc.drop off).take _)
 | false=>
  simp only[cond_false];rw[Z12]
  cases hv:cs[off]? with
  | none=>exact .inl rfl
  | some v=>
   refine .inr ⟨v,rfl,fun F E w hc => ?_⟩;obtain⟨v',J,hr⟩:=hc.some hv;refine⟨v',?_,hr⟩;have:E[off]? = some v':=by simpa using J
   simp[part,M14 hu,hd,this]
section
variable {β:Type} {P:Program} {d n:Nat} {o:Oper} {T:K0 Value}
theorem K57{s:TypeId}{i:TypeInfo}(ho:o.op = .fieldAddr s x f)(hx:N0 n x=some y)(hs:P.underlying s=some (.struct fs))(hf:fs[f]? = some fd)
  (hi:P.info? fd.type=some i)(hz:i.size≠0)(z:β)(k:Value->β):
  X4 P (.fld y fd.offset) T z k=z\/∃ v,X4 P (.fld y fd.offset) T z k=k v/\PV P d n o T v:=by
 show X53 y fd.offset T z k=z\/∃ v,X53 y fd.offset T z k=k v/\_;unfold X53;rw[G2]
 split
 .rename_i a hv
  obtain⟨b,o',s'⟩:=a;unfold U19;rw[G1];refine .inr ⟨_,rfl,fun F E w ht => ?_⟩;have h1:=evX ht hx;rw[hv] at h1;obtain⟨rfl,t,hF,he⟩:=h1.ptr_inv;refine⟨.pointer (some ⟨t.blk,t.base+(o'+fd.offset),none⟩),?_,.ptr hF⟩;simp[execOp,ho,he,Instr.fieldAt,run_underlying hs,hf,Instr.sureAddr,fieldPlace,E3 hi,hz,X11,Nat.add_assoc]
 .exact .inl rfl
theorem M52(ho:o.op = .nilCheck x)(hx:N0 n x=some y)(z:β)(k:Value->β):
  X4 P (.nilc y) T z k=z\/∃ v,X4 P (.nilc y) T z k=k v/\PV P d n o T v:=by
 show U42 y T z k=z\/∃ v,U42 y T z k=k v/\_;unfold U42;rw[G2]
 split
 .rename_i a hv
  obtain⟨b,o',s'⟩:=a;refine .inr ⟨_,rfl,fun F E w ht => ?_⟩;have h1:=evX ht hx;rw[hv] at h1;have h2:=h1;obtain⟨rfl,t,hF,he⟩:=h1.ptr_inv;rw[he] at h2;exact⟨_,by simp[execOp,ho,he],h2⟩
 .exact .inl rfl
theorem B59{i:Nat}(ho:o.op = .extract x i)(hx:N0 n x=some y)(z:β)(k:Value->β):
  X4 P (.ext y i) T z k=z\/∃ v,X4 P (.ext y i) T z k=k v/\PV P d n o T v:=by
 show E54 y i T z k=z\/∃ v,E54 y i T z k=k v/\_;unfold E54;rw[G2]
 split
 .rename_i vs hv
  rw[Z12]
  cases hi:vs.toList[i]? with
  | none=>exact .inl rfl
  | some v=>
   refine .inr ⟨v,rfl,fun F J w ht => ?_⟩;have h1:=evX ht hx;rw[hv] at h1;obtain⟨x',he,hl⟩:=h1.tuple_inv;obtain⟨v',E,hr⟩:=hl.some hi;have:x'[i]? = some v':=by simpa using E
   exact⟨v',by simp[execOp,ho,he,Instr.extract,this],hr⟩
 .exact .inl rfl
theorem V54(ho:o.op = .field t x f)(hx:N0 n x=some y)(hs:P.underlying t=some (.struct fs))(hf:fs[f]? = some fd)
  (E:E8 P fd.type=some sh)(z:β)(k:Value->β):
  X4 P (.part y fd.offset sh) T z k=z\/∃ v,X4 P (.part y fd.offset sh) T z k=k v/\PV P d n o T v:=by
 show C41 y fd.offset sh T z k=z\/∃ v,C41 y fd.offset sh T z k=k v/\_;unfold C41;rw[G2]
 split
 .rename_i cs hv
  rcases J39 (P:=P) E cs.toList fd.offset z k with h | ⟨v,h,hp⟩
  .exact .inl h
  .refine .inr ⟨v,h,fun F O w ht => ?_⟩
   have h1:=evX ht hx;rw[hv] at h1;obtain⟨x',he,hl⟩:=h1.agg_inv;obtain⟨v',J,hr⟩:=hp F x' w hl;exact⟨v',by simp[execOp,ho,he,Instr.field,run_underlying hs,hf,asAgg,J],hr⟩
 .exact .inl rfl
end
end Go.Clo
