/-
  The closed executor: the operations that only compute,all of them.
  The closed executor: slicing;the operations that only compute,joined;the operations that read.
-/
import Derived.Test.YtoiioigihocgbaaGreatDoorN4
import Derived.Laws.StructEq
set_option linter.all false
namespace Go.Clo
variable {F:FM} {I1 X1 Y1:X} {P:Program} {b neg:Bool} {dd:TypeDesc} {e t yt:TypeId} {i:TypeInfo} {ix x y:Operand} {len:Nat} {xs:List X}
theorem Z33{t:Option TypeDesc}{vx vy x' y':Value}(h:C8 t vx vy=some b)(hx:VR F vx x')(hy:VR F vy y'):C8 t x' y'=some b:=by
 unfold C8 at h
 split at h
 .rename_i a b';cases a<;>cases b'<;>simp at h<;>cases hx<;>cases hy<;>simp[C8,h]
 .rename_i a l1 c1 b' l2 c2;cases a<;>cases b'<;>simp at h<;>cases hx<;>cases hy<;>simp[C8,h]
 .rename_i a b';cases a<;>cases b'<;>simp at h<;>cases hx<;>cases hy<;>simp[C8,h]
 .cases hx;cases hy;simpa [C8] using h
 .cases hx;cases hy;simpa [C8] using h
 .cases hx;cases hy;simpa [C8] using h
 .cases h
theorem G41{x y:Value}(h:C8 (P.underlying t) x y=some b)(d:Nat)(w:World):(Op.equalIn (d+1) t x y).run P w = .ok b w:=by
 unfold C8 at h
 split at h
 .rename_i a b' hu;cases a<;>cases b'<;>simp at h<;>subst h<;>simp[Op.equalIn,run_underlying hu]
 .rename_i a l1 c1 b' l2 c2 hu;cases a<;>cases b'<;>simp at h<;>subst h<;>simp[Op.equalIn,run_underlying hu]
 .rename_i a b' hu;cases a<;>cases b'<;>simp at h<;>subst h<;>simp[Op.equalIn,run_underlying hu]
 .rename_i hu;simp at h;subst h;simp[Op.equalIn,run_underlying hu]
 .rename_i hu;simp at h;subst h;simp[Op.equalIn,run_underlying hu]
 .rename_i hu;simp at h;subst h;simp[Op.equalIn,run_underlying hu]
 .cases h
theorem Y29{t':TypeId}{x y:Value}(h:C8 (P.underlying t) x y=some b)(op:BinOp)(xo yo:Operand)(w:World):(eqGuard op t' xo yo x y).run P w = .ok () w:=by
 unfold C8 at h
 split at h<;>first | (cases h;done) | (cases op<;>simp[eqGuard])
theorem W39{x y:Value}{b:Bool}(h:C8 (P.underlying t) x y=some b)(neg:Bool)(w:World):
  (binOp (if neg then .neq else .eql) t x y).run P w = .ok (.bool (cond neg (!b) b)) w:=by
 have hq:=G41 h 9999 w;have e:binOp (if neg then .neq else .eql) t x y=(do let r <- Op.equalIn (9999+1) t x y;pure (.bool (cond neg (!r) r)):Sem Value):=by
  unfold C8 at h
  split at h<;>first | (cases h;done) | (cases neg<;>rfl)
 rw[e];cases neg<;>simp only[Sem.run_bind,hq,Result.andThen_ok,cond_true,cond_false]<;>rfl
section
variable {β:Type} {P:Program} {d n:Nat} {o:Oper} {T:K0 Value}
theorem W43(ho:o.op = .binOp (if neg then .neq else .eql) t x y yt)(hx:N0 n x=some X1)(hy:N0 n y=some Y1)(z:β)(k:Value->β):
  X4 P (.eq neg (P.underlying t) X1 Y1 o) T z k=z\/∃ v,X4 P (.eq neg (P.underlying t) X1 Y1 o) T z k=k v/\PV P d n o T v:=by
 have J:∀(z:β) (k:Value->β),K20 P T [X1,Y1] o z k=z\/∃ v,K20 P T [X1,Y1] o z k=k v/\PV P d n o T v:=
  Z30 (by simp[ho]) (by simp only[ho,Op.operands];intro q hq;simp at hq;rcases hq with rfl | rfl;exact⟨X1,by simp,hx⟩;exact⟨Y1,by simp,hy⟩)
 show M55 P T neg (P.underlying t) X1 Y1 o z k=z\/∃ v,M55 P T neg (P.underlying t) X1 Y1 o z k=k v/\_;unfold M55;rw[G2,G2]
 split
 .rename_i vx vy k1 a k2 b e1 e2
  cases hk:eqK k1 k2 with
  | false=>exact .inl rfl
  | true=>
   have hk:=J33 hk;subst hk;dsimp only[cond_true];rw[B21];refine .inr ⟨_,rfl,fun F E w ht => ?_⟩;have h1:=evX ht hx;have h2:=evX ht hy;rw[e1] at h1;rw[e2] at h2;have h1:=h1.int_inv;have h2:=h2.int_inv;refine⟨_,?_,.bool _⟩
   cases neg
   .simp[execOp,ho,h1,h2,eqGuard,binOp,Op.intCmp,Q26]
   .simp[execOp,ho,h1,h2,eqGuard,binOp,Op.intCmp,Q26];rfl
 .cases hs:(G27 (ev T X1) || G27 (ev T Y1)) with
  | false=>exact J z k
  | true=>
   dsimp only[cond_true]
   split
   .rename_i b hb
    rw[B21];refine .inr ⟨_,rfl,fun F E w ht=>⟨_,?_,.bool _⟩⟩;have hr:=Z33 hb (evX ht hx) (evX ht hy);have h1:=Y29 (t':=t) hr (if neg then .neq else .eql) x y w;have h2:=W39 hr neg w;simp only[execOp,ho,Sem.run_bind,h1,h2,Result.andThen_ok]
    rfl
   .exact .inl rfl
theorem VR.string_inv{s:ByteArray}{v:Value}(h:VR F (.string s) v):v = .string s:=by cases h;rfl
theorem G13{f:VF}(h:∀ v,f.ev (xs.map (ev T))=some v->PV P d n o T v)(z:β)(k:Value->β):
  X4 P (.vf f xs) T z k=z\/∃ v,X4 P (.vf f xs) T z k=k v/\PV P d n o T v:=by
 show vfK f xs T z k=z\/∃ v,vfK f xs T z k=k v/\_;unfold vfK;rw[C22,J8]
 cases hv:f.ev (xs.map (ev T)) with
 | none=>exact .inl rfl
 | some v=>exact .inr ⟨v,rfl,h v hv⟩
theorem M60(ho:o.op = .binOp (if neg then .neq else .eql) t x y yt)(hx:N0 n x=some X1)(hy:N0 n y=some Y1)(hu:P.underlying t=some .bool)(z:β)(k:Value->β):
  X4 P (.vf (.eqb neg) [X1,Y1]) T z k=z\/∃ v,X4 P (.vf (.eqb neg) [X1,Y1]) T z k=k v/\PV P d n o T v:=by
 refine G13 (fun v hv => ?_) z k;simp only[List.map_cons,List.map_nil] at hv;unfold VF.ev at hv
 split at hv<;>first | (rename_i h0 _;cases h0;done) | skip
 .rename_i E a b h0 h1
  cases h0
  simp only[List.cons.injEq,and_true] at h1
  cases hv
  intro F J w ht;have e1:=evX ht hx;have e2:=evX ht hy;rw[h1.1] at e1;rw[h1.2] at e2;have e1:=e1.bool_inv;have e2:=e2.bool_inv;refine⟨_,?_,.bool _⟩;have hq:=run_equalIn_bool' (P:=P) w 9999 t a b hu
  cases neg
  .simp only[execOp,ho,e1,e2,eqGuard,binOp,Op.equal,Op.maxDepth,Sem.run_bind,Bool.false_eq_true,if_false]
   simp[hq]
  .simp only[execOp,ho,e1,e2,eqGuard,binOp,Op.equal,Op.maxDepth,Sem.run_bind,if_true]
   simp[hq]
 .cases hv
theorem B20{td:TypeDesc}(ho:o.op = .binOp (if neg then .neq else .eql) t x y yt)(hx:N0 n x=some X1)(hy:N0 n y=some Y1)(hu:P.underlying t=some td)(z:β)(k:Value->β):
  X4 P (.vf (.eqn neg td) [X1,Y1]) T z k=z\/∃ v,X4 P (.vf (.eqn neg td) [X1,Y1]) T z k=k v/\PV P d n o T v:=by
 refine G13 (fun v hv => ?_) z k;simp only[List.map_cons,List.map_nil,VF.ev,Option.map_eq_some_iff] at hv;obtain⟨b,hb,rfl⟩:=hv;intro F E w ht;refine⟨_,?_,.bool _⟩;rw[<- hu] at hb;have hr:=Z33 hb (evX ht hx) (evX ht hy);have h1:=Y29 (t':=t) hr (if neg then .neq else .eql) x y w;have h2:=W39 hr neg w;simp only[execOp,ho,Sem.run_bind,h1,h2,Result.andThen_ok]
 rfl
theorem X52{J:Nat}{a b a' b':Value}{q:Bool}(ht:W36 (P.underlying t)=some J)(hc:V34 J a b=some q)(ha:VR F a a')(hb:VR F b b')(w:World):
  (isAgg t).run P w = .ok false w/\(Op.equalIn (9998+1) t a' b').run P w = .ok q w:=by
 unfold V34 at hc
 cases hu:P.underlying t with
 | none=>rw[hu] at ht;cases ht
 | some td=>
  rw[hu] at ht;have E:∀ td,P.underlying t=some td->G8 td=false->(isAgg t).run P w = .ok false w:=fun td h1 h2=>by rw[M14 h1,h2]
  split at hc
  .rename_i k1 m1 k2 m2
   cases hk:eqK k1 k2 with
   | false=>rw[hk] at hc;cases hc
   | true=>
    rw[hk] at hc;have:=J33 hk;subst this;simp at hc;subst hc;have e1:=ha.int_inv;have e2:=hb.int_inv;subst e1;subst e2
    cases td<;>simp[W36] at ht
    exact⟨E _ hu rfl,run_equalIn_int w 9998 t _ _ _ _ hu⟩
  .simp at hc;subst hc
   have e1:=ha.bool_inv;have e2:=hb.bool_inv;subst e1;subst e2
   cases td<;>simp[W36] at ht
   exact⟨E _ hu rfl,run_equalIn_bool' w 9998 t _ _ hu⟩
  .simp at hc;subst hc
   have e1:=ha.string_inv;have e2:=hb.string_inv;subst e1;subst e2
   cases td<;>simp[W36] at ht
   exact⟨E _ hu rfl,run_equalIn_string w 9998 t _ _ hu⟩
  .cases hc
theorem V29 {F : FM} {xs ys : List Value} {O Q : Array Value} (hx : VL F xs O.toList) (hy : VL F ys Q.toList) (w : World) : ∀ {fs : List Field} {offs : List (Nat × Nat)} {r : Bool}, (∀ f ∈ fs, f.name ≠ "_") -> D27 P fs = some offs -> G18 xs ys offs = some r -> (Op.eqFields (9998 + 1) O Q fs).run P w = .ok r w
 | [],offs,r,_,h,he=>by simp[D27] at h;subst h;simp[G18] at he;subst he;rfl
 | f :: fs,offs,r,hn,h,he=>by
  simp only[D27] at h
  cases hf:W36 (P.underlying f.type) with
  | none=>simp[hf] at h
  | some Z=>
   cases J:D27 P fs with
   | none=>simp[hf,J] at h
   | some os=>
    simp[hf,J] at h;subst h;simp only[G18,Q8] at he
    cases E:xs[f.offset]? with
    | none=>simp[E] at he
    | some a=>cases U:ys[f.offset]? with
     | none=>simp[E,U] at he
     | some b=>
      simp only[E,U] at he
      cases hc:V34 Z a b with
      | none=>simp[hc] at he
      | some q=>cases V:G18 xs ys os with
       | none=>simp[hc,V] at he
       | some q'=>
        simp[hc,V] at he;subst he;have ih:=V29 hx hy w (fs:=fs) (fun g hg=>hn g (by simp[hg])) J V;obtain⟨a',W,a3⟩:=hx.some E;obtain⟨b',a2,a1⟩:=hy.some U
        have a0 : f.name ≠ "_" := hn f (by simp)
        obtain⟨k1,k2⟩:=X52 (P:=P) hf hc a3 a1 w;have g1:O[f.offset]? = some a':=by simpa using W
        have g2:Q[f.offset]? = some b':=by simpa using a2
        unfold Op.eqFields;rw[if_pos a0];simp only[part,Sem.run_bind,k1,Result.andThen_ok,Bool.false_eq_true,if_false,g1,g2,Sem.run_pure,k2]
        cases q with
        | false=>simp
        | true=>simp[ih]
theorem Q57 {fs:Array Field} {offs:List (Nat × Nat)} (ho:o.op = .binOp (if neg then .neq else .eql) t x y yt) (hx:N0 n x=some X1) (hy:N0 n y=some Y1) (hu:P.underlying t=some (.struct fs)) (E:V43 P t fs.toList=some offs) (z:β) (k:Value->β):
  X4 P (.vf (.eqs neg offs) [X1,Y1]) T z k=z\/∃ v,X4 P (.vf (.eqs neg offs) [X1,Y1]) T z k=k v/\PV P d n o T v:=by
 refine G13 (fun v hv => ?_) z k;simp only[List.map_cons,List.map_nil] at hv;unfold V43 at E
 cases hb : (!P.stoodInHeld t && !P.eqGuardType P.depth t && fs.toList.all fun f => f.name != "_") with
 | false=>rw[hb] at E;cases E
 | true=>
  rw[hb] at E;simp only[cond_true] at E;simp only[Bool.and_eq_true,Bool.not_eq_true',List.all_eq_true,bne_iff_ne] at hb;unfold VF.ev at hv
  split at hv<;>first | (rename_i h0 _;cases h0;done) | skip
  .rename_i V O a b h0 h1
   cases h0
   simp only[List.cons.injEq,and_true] at h1;rw[Option.map_eq_some_iff] at hv;obtain⟨r,hr,rfl⟩:=hv;intro F W w ht;have e1:=evX ht hx;have e2:=evX ht hy;rw[h1.1] at e1;rw[h1.2] at e2;obtain⟨a',ea,Q⟩:=e1.agg_inv;obtain⟨b',eb,U⟩:=e2.agg_inv;refine⟨_,?_,.bool _⟩;have J:P.fieldsOf t=fs:=by simp[Program.fieldsOf,hu]
   have hq:(Op.equalIn (9999+1) t (.agg a') (.agg b')).run P w = .ok r w:=by
    rw[run_equalIn_struct w 9999 t a' b' (by rw[J];exact hu) hb.1.1,J];exact V29 Q U w hb.2 E hr
   have hg:=run_eqGuard_agg (P:=P) w (if neg then .neq else .eql) t x y a' b' hb.1.2;simp only[execOp,ho,ea,eb,Sem.run_bind,hg,Result.andThen_ok]
   cases neg
   .have:=run_eql_struct (P:=P) w t a' b'
    simp only[Bool.false_eq_true,if_false] at this ⊢;rw[this,hq];rfl
   .have:=run_neq_struct (P:=P) w t a' b'
    simp only[if_true] at this ⊢;rw[this,hq];rfl
  .cases hv
theorem K55(ho:o.op = .indexAddr t x ix)(hx:N0 n x=some X1)(J:N0 n ix=some I1)(E:P.underlying t=some (.slice e))(hi:P.info? e=some i)
  (z:β)(k:Value->β):X4 P (.idx X1 I1 none i.size) T z k=z\/∃ v,X4 P (.idx X1 I1 none i.size) T z k=k v/\PV P d n o T v:=by
 show R30 X1 I1 none i.size T z k=z\/∃ v,R30 X1 I1 none i.size T z k=k v/\_;unfold R30;rw[G2]
 split
 .rename_i kk m hv
  rw[G2];unfold N41
  split
  .rename_i a len c e1 e2
   obtain⟨b,o',s'⟩:=a
   cases hb:Nat.blt m len with
   | false=>exact .inl rfl
   | true=>
    dsimp only[cond_true];unfold U19;rw[G1];refine .inr ⟨_,rfl,fun F O w ht => ?_⟩;have h1:=evX ht hx;have h2:=evX ht J;rw[e2] at h1;rw[hv] at h2;have hm:m<len:=by simpa using hb
    obtain⟨rfl,tt,c',hF,he,_⟩:=h1.slice_invP (by omega);have h2:=h2.int_inv;refine⟨.pointer (some ⟨tt.blk,tt.base+(o'+m*i.size),none⟩),?_,.ptr hF⟩;have Q:(0:Int)<=Int.ofNat m/\Int.ofNat m<(len:Int):=⟨Int.natCast_nonneg m,by simpa using hm⟩
    simp only[execOp,ho,he,h2,Instr.indexAt,asIntOf,Sem.run_bind,Sem.run_pure,Result.andThen_ok,run_underlying E];simp[hm,E3 hi,X11,Nat.add_assoc]
  .rename_i e1 _;cases e1
  .exact .inl rfl
 .exact .inl rfl
theorem G53(ho:o.op = .indexAddr t x ix)(hx:N0 n x=some X1)(J:N0 n ix=some I1)(E:P.underlying t=some (.array len e))(hi:P.info? e=some i)
  (z:β)(k:Value->β):X4 P (.idx X1 I1 (some len) i.size) T z k=z\/∃ v,X4 P (.idx X1 I1 (some len) i.size) T z k=k v/\PV P d n o T v:=by
 show R30 X1 I1 (some len) i.size T z k=z\/∃ v,R30 X1 I1 (some len) i.size T z k=k v/\_;unfold R30;rw[G2]
 split
 .rename_i kk m hv
  rw[G2];unfold N41
  split
  .rename_i e1 _;cases e1
  .rename_i O a e1 e2
   cases e1
   obtain⟨b,o',s'⟩:=a
   cases hb:Nat.blt m len with
   | false=>exact .inl rfl
   | true=>
    dsimp only[cond_true];unfold U19;rw[G1];refine .inr ⟨_,rfl,fun F Q w ht => ?_⟩;have h1:=evX ht hx;have h2:=evX ht J;rw[e2] at h1;rw[hv] at h2;obtain⟨rfl,tt,hF,he⟩:=h1.ptr_inv;have h2:=h2.int_inv;have hm:m<len:=by simpa using hb
    refine⟨.pointer (some ⟨tt.blk,tt.base+(o'+m*i.size),none⟩),?_,.ptr hF⟩;simp only[execOp,ho,he,h2,Instr.indexAt,asIntOf,Instr.sureAddr,Sem.run_bind,Sem.run_pure,Result.andThen_ok,run_underlying E];simp[hm,E3 hi,X11,Nat.add_assoc]
  .exact .inl rfl
 .exact .inl rfl
theorem E55(ho:o.op = .index t x ix)(hx:N0 n x=some X1)(E:N0 n ix=some I1)(hu:P.underlying t=some .string)(z:β)(k:Value->β):
  X4 P (.vf .sidx [X1,I1]) T z k=z\/∃ v,X4 P (.vf .sidx [X1,I1]) T z k=k v/\PV P d n o T v:=by
 refine G13 (fun v hv => ?_) z k;simp only[List.map_cons,List.map_nil] at hv;unfold VF.ev at hv
 split at hv<;>first | (rename_i h0 _;cases h0;done) | skip
 .rename_i s kd m h0 h1
  simp only[List.cons.injEq,and_true] at h1;unfold J52 at hv;rw[Option.map_eq_some_iff] at hv;obtain⟨b,hb,rfl⟩:=hv;intro F J w ht;have e1:=evX ht hx;have e2:=evX ht E;rw[h1.1] at e1;rw[h1.2] at e2;have e1:=e1.string_inv;have e2:=e2.int_inv;refine⟨_,?_,.int _ _⟩;simp only[execOp,ho,e1,e2,Instr.index,asIntOf,Sem.run_bind,Sem.run_pure,Result.andThen_ok,run_underlying hu,hb]
 .cases hv
theorem K59{E:TypeId}{kk:Nat}(ho:o.op = .sliceToArrayPointer E x)(hx:N0 n x=some X1)(hu:P.underlying E=some (.array kk e))(z:β)(k:Value->β):
  X4 P (.vf (.s2a kk) [X1]) T z k=z\/∃ v,X4 P (.vf (.s2a kk) [X1]) T z k=k v/\PV P d n o T v:=by
 refine G13 (fun v hv => ?_) z k;simp only[List.map_cons,List.map_nil] at hv;unfold VF.ev at hv
 split at hv<;>first | (rename_i h0 _;cases h0;done) | skip
 .rename_i Q b o' len cap h0 h1
  cases h0
  simp only[List.cons.injEq,and_true] at h1
  cases hb:Nat.ble kk len with
  | false=>rw[hb] at hv;cases hv
  | true=>
   rw[hb] at hv
   cases hv
   have J:=Nat.le_of_ble_eq_true hb;intro F O w ht;have e1:=evX ht hx;rw[h1] at e1;obtain⟨_,tt,c',hF,he,_⟩:=e1.slice_inv;refine⟨_,?_,.ptr hF⟩;simp only[execOp,ho,he,Sem.run_bind,Sem.run_pure,Result.andThen_ok,Instr.arrayAt,run_underlying hu];simp[Nat.not_lt.2 J]
 .cases hv
theorem M59{mx:Bool}{F:FM}(w:World):∀ {l l':List Value} {x v:Value},VL F l l'->mmV mx x l=some v->(l'.foldlM (if mx then Builtin.max2 else Builtin.min2) x).run P w = .ok v w/\X7 v=true
 | [],l',x,v,hl,h=>by
  cases hl
  cases x<;>simp[mmV] at h
  subst h;exact⟨rfl,rfl⟩
 | y :: l,l',x,v,hl,h=>by
  cases hl with
  | cons hy hl=>
   unfold mmV at h
   split at h
   .rename_i h0;cases h0
   .rename_i h0
    simp only[List.cons.injEq] at h0;obtain⟨rfl,rfl⟩:=h0;have e:=hy.int_inv;subst e;have ih:=M59 w hl h;refine⟨?_,ih.2⟩;rw[List.foldlM_cons]
    cases mx
    .simp only[Bool.false_eq_true,if_false,Builtin.min2,Sem.run_bind,Sem.run_pure,Result.andThen_ok] at ih ⊢
     exact ih.1
    .simp only[if_true,Builtin.max2,Sem.run_bind,Sem.run_pure,Result.andThen_ok] at ih ⊢
     exact ih.1
   .cases h
theorem Q24{mx:Bool}{c:Call}(ho:o.op = .call c)(hc:c.callee = .builtin (if mx then .max else .min))(U:U7 n c.args.toList=some xs)(z:β)(k:Value->β):
  X4 P (.vf (.mm mx) xs) T z k=z\/∃ v,X4 P (.vf (.mm mx) xs) T z k=k v/\PV P d n o T v:=by
 refine G13 (fun v hv => ?_) z k;intro F J w ht;have hl:=W48 ht U (by rw[ho];intro q hq;simp only[Op.operands,Call.operands,hc];exact Array.mem_def.2 (by simpa using hq));generalize V:xs.map (ev T)=ys at hv hl;generalize O:c.args.toList.map J.eval=zs at hl
 cases hl with
 | nil=>simp[VF.ev] at hv
 | @cons x x' l l' hx hl=>
  have E:mmV mx x l=some v:=hv;have Q:x'=x:=by
   unfold mmV at E
   split at E
   .exact hx.int_inv
   .exact hx.int_inv
   .cases E
  obtain⟨h1,h2⟩:=M59 (P:=P) w hl E;refine⟨v,?_,C6 F v h2⟩;have hm:(c.args.map J.eval).toList=x :: l':=by rw[<- Q];simpa using O
  cases mx
  .simp only[Bool.false_eq_true,if_false] at h1 hc
   simp only[execOp,ho,resolve,hc,invoke,builtin,Builtin.min_,Sem.run_bind,Sem.run_pure,Result.andThen_ok,hm,h1]
  .simp only[if_true] at h1 hc
   simp only[execOp,ho,resolve,hc,invoke,builtin,Builtin.max_,Sem.run_bind,Sem.run_pure,Result.andThen_ok,hm,h1]
theorem Z52(ho:o.op = .index t x ix)(hx:N0 n x=some X1)(Q:N0 n ix=some I1)(E:P.underlying t=some (.array len e))(hi:P.info? e=some i)
  (hd:P.underlying e=some dd)(z:β)(k:Value->β):
  X4 P (.aidx X1 I1 len i.size (G8 dd)) T z k=z\/∃ v,X4 P (.aidx X1 I1 len i.size (G8 dd)) T z k=k v/\PV P d n o T v:=by
 show D41 X1 I1 len i.size (G8 dd) T z k=z\/∃ v,D41 X1 I1 len i.size (G8 dd) T z k=k v/\_;unfold D41;rw[G2]
 split
 .rename_i kk m hv
  rw[G2]
  split
  .rename_i cs e2
   cases hb:Nat.blt m len with
   | false=>exact .inl rfl
   | true=>
    dsimp only[cond_true];have J:E8 P e=some (cond (G8 dd) (some i.size) none):=by simp[E8,hd,hi]
    rcases J39 J cs.toList (m*i.size) z k with h | ⟨v,h,hp⟩
    .exact .inl h
    .refine .inr ⟨v,h,fun F U w ht => ?_⟩
     have h1:=evX ht hx;have h2:=evX ht Q;rw[e2] at h1;rw[hv] at h2;obtain⟨x',he,hl⟩:=h1.agg_inv;have h2:=h2.int_inv;obtain⟨v',O,hr⟩:=hp F x' w hl;have hm:m<len:=by simpa using hb
     refine⟨v',?_,hr⟩;simp only[execOp,ho,he,h2,Instr.index,asIntOf,Sem.run_bind,Sem.run_pure,Result.andThen_ok,run_underlying E];simp[hm,E3 hi,O]
  .exact .inl rfl
 .exact .inl rfl
theorem X27(a:Act)(parts:Array (Nat × Operand)):(parts.map fun(i,x)=>(i,a.eval x)).toList=parts.toList.map fun p=>(p.1,a.eval p.2):=by
 simp
theorem C28{parts:Array (Nat × Operand)}{ps:List (Nat × X)}{zero:List Value}{pl:List (Nat × Nat)}(ho:o.op = .build t parts)(Z:R16 n parts.toList=some ps)(hz:M10 P t=some zero)
  (J:(∃ E,P.underlying t=some (.struct E)/\R13 P E.toList=some pl)\/(∃ kk e i,P.underlying t=some (.array kk e)/\P.info? e=some i/\pl=Y27 kk i.size))
  (z:β)(k:Value->β):X4 P (.build zero pl ps) T z k=z\/∃ v,X4 P (.build zero pl ps) T z k=k v/\PV P d n o T v:=by
 show W35 zero pl ps T z k=z\/∃ v,W35 zero pl ps T z k=k v/\_;unfold W35;rw[J45]
 split
 .rename_i cs hf
  rw[V2];refine .inr ⟨_,rfl,fun F Q w ht => ?_⟩;obtain⟨it,v,U,V,a0,O,_,_⟩:=X14 hz;subst a0;have hp:=G62 ht Z (by rw[ho];intro p hp;simp only[Op.operands];exact Array.mem_def.2 (by simp;exact⟨p.1,by simpa using hp⟩));rcases J with ⟨E,hu,J⟩ | ⟨kk,e,i,hu,hi,J⟩
  .obtain⟨r',hr,hl⟩:=B24 (pl:=nth pl) (pl':=(pl.toArray[·]?)) (fun i p h=>by rw[Q8] at h;simpa using h) hp (X12 O F) hf
   refine⟨.agg r',?_,?_⟩
   .have hb:P.built t (parts.map fun(i,x)=>(i,Q.eval x)).toList=some r':=by
     rw[X27];simp only[Program.built,U,hu,V,B34 J];exact hr
    simp only[execOp,ho,Sem.run_bind,run_build w t _ r' hb,Result.andThen_ok];rfl
   .have:r'=⟨r'.toList⟩:=rfl
    rw[this];exact VR.agg' hl
  .obtain⟨r',hr,hl⟩:=B24 (pl:=nth pl) (pl':=fun k=>some (k*i.size,i.size)) (fun j p h=>by
    rw[Q8,J] at h;unfold Y27 at h;rw[List.getElem?_map] at h
    cases hj:(List.range kk)[j]? with
    | none=>rw[hj] at h;cases h
    | some q=>
     rw[hj] at h;have:q=j:=by
      have W:j<kk:=by
       rcases Nat.lt_or_ge j kk with g | g
       .exact g
       .simp[g] at hj
      simp[W] at hj;exact hj.symm
     subst this;simpa using h) hp (X12 O F) hf
   refine⟨.agg r',?_,?_⟩
   .have hb:P.built t (parts.map fun(i,x)=>(i,Q.eval x)).toList=some r':=by
     rw[X27];simp only[Program.built,U,hu,V,hi];exact hr
    simp only[execOp,ho,Sem.run_bind,run_build w t _ r' hb,Result.andThen_ok];rfl
   .have:r'=⟨r'.toList⟩:=rfl
    rw[this];exact VR.agg' hl
 .exact .inl rfl
theorem D59{fn:Fn}{first E:Array Operand}{f c:List X}(ho:o.op = .makeFunc fn first E)(hf:U7 n first.toList=some f)(hc:U7 n E.toList=some c)
  (z:β)(k:Value->β):X4 P (.mkf fn f c) T z k=z\/∃ v,X4 P (.mkf fn f c) T z k=k v/\PV P d n o T v:=by
 show(U17 T f fun f=>U17 T c fun c=>k (.func fn ⟨f⟩ ⟨c⟩))=z\/∃ v,(U17 T f fun f=>U17 T c fun c=>k (.func fn ⟨f⟩ ⟨c⟩))=k v/\_;rw[C22,C22];refine .inr ⟨_,rfl,fun F J w ht=>⟨.func fn (first.map J.eval) (E.map J.eval),?_,?_⟩⟩
 .simp[execOp,ho,Instr.makeFunc]
 .have h1:=W48 ht hf (by rw[ho];intro q hq;simp[Op.operands];exact .inl (by simpa using hq))
  have h2:=W48 ht hc (by rw[ho];intro q hq;simp[Op.operands];exact .inr (by simpa using hq));exact .func fn (by simpa using h1.length) (fun i v v' a b=>h1.get i v v' (by simpa using a) (by simpa using b)) (by simpa using h2.length) (fun i v v' a b=>h2.get i v v' (by simpa using a) (by simpa using b))
theorem G59{y:X}(ho:o.op = .makeInterface t x)(hx:N0 n x=some y)(hu:P.underlying t=some dd)(hn:∀ ms,dd ≠ .interface ms)
  (z:β)(k:Value->β):X4 P (.mki t y) T z k=z\/∃ v,X4 P (.mki t y) T z k=k v/\PV P d n o T v:=by
 show(W4 T y fun v=>k (.iface t v))=z\/∃ v,(W4 T y fun v=>k (.iface t v))=k v/\_;rw[G2];refine .inr ⟨_,rfl,fun F E w ht=>⟨.iface t (E.eval x),?_,.iface t (evX ht hx)⟩⟩
 cases dd<;>simp[execOp,ho,Instr.makeInterface,run_underlying hu]
 exact absurd rfl (hn _)
end
end Go.Clo

namespace Go.Clo
variable {F:FM} {H1 L1:Option X} {P:Program} {X1:X} {cap len m:Nat} {hi hi' lo lo' mx:Option Value} {i:IP} {t:TypeId} {v:Value} {x:Operand}
def OV(F:FM)(x x':Option Value):Prop:=(x=none/\x'=none)\/∃ v v',x=some v/\x'=some v'/\VR F v v'
theorem OV.of{n:Nat}{o:Oper}{T:K0 Value}{a:Act}(ht:OR n o F T a){x:Option Operand}{y:Option X}(h:B8 n x=some y)(hm:∀ q,x=some q->q ∈ o.op.operands:=by rw[(‹o.op=_› : o.op=_)];intro q hq;subst hq;simp[Op.operands]):OV F (y.map (ev T)) (x.map a.eval):=by
 rcases evO ht h hm with ⟨rfl,rfl⟩ | ⟨x1,y1,rfl,rfl,hv⟩
 .exact .inl ⟨rfl,rfl⟩
 .exact .inr ⟨_,_,rfl,rfl,hv⟩
theorem M11{v':Value}{top E:Nat}(h:Y13 (some v) top=some m)(hv:VR F v v')(ht:top<=E)(G6:BoundsCode)(w:World):
  (Instr.sliceBound v' E G6).run P w = .ok m w/\m<=top:=by
 simp only[Y13] at h
 split at h
 .rename_i kk nn
  split at h
  .rename_i q
   cases hb:Nat.ble q top with
   | false=>rw[hb] at h;cases h
   | true=>
    rw[hb] at h;simp only[cond_true,Option.some.injEq] at h;subst h;have hq:q<=top:=Nat.le_of_ble_eq_true hb;rw[hv.int_inv];refine⟨?_,hq⟩;have:q<=E:=Nat.le_trans hq ht;simp[Instr.sliceBound,asIntOf,this]
  .cases h
 .cases h
theorem Z18{mx':Option Value}(Q:OV F lo lo')(V:OV F hi hi')(a1:OV F mx mx'){cap' h l:Nat}(E:cap<=cap')
  (em:Y13 mx cap=some m)
  (eh:hiA hi mx len m=some h)
  (el:loA lo h=some l)(a2:Bool)(w:World):
  (Instr.sliceBounds a2 len cap' lo' hi' mx').run P w = .ok (l,h,if mx.isNone then cap' else m) w/\(mx=none->m=cap)/\(mx≠none->m<=cap):=by
 rcases a1 with ⟨rfl,rfl⟩ | ⟨vm,a3,rfl,rfl,Z⟩
 .simp only[Y13,Option.some.injEq] at em
  subst em;rcases V with ⟨rfl,rfl⟩ | ⟨vh,a0,rfl,rfl,O⟩
  .simp only[hiA,Option.some.injEq] at eh
   subst eh;rcases Q with ⟨rfl,rfl⟩ | ⟨vl,W,rfl,rfl,J⟩
   .simp only[loA,Option.some.injEq] at el
    subst el;simp[Instr.sliceBounds]
   .have:=(M11 (P:=P) el J (Nat.le_refl _) .sliceB w).1
    simp[Instr.sliceBounds,this]
  .have h1:=fun c=>(M11 (P:=P) eh O E c w).1
   rcases Q with ⟨rfl,rfl⟩ | ⟨vl,W,rfl,rfl,J⟩
   .simp only[loA,Option.some.injEq] at el
    subst el;simp[Instr.sliceBounds,h1]
   .have h2:=(M11 (P:=P) el J (Nat.le_refl _) .sliceB w).1
    simp[Instr.sliceBounds,h1,h2]
 .have h0:=fun c=>(M11 (P:=P) em Z E c w).1
  have U:=(M11 (P:=P) em Z E .index w).2;rcases V with ⟨rfl,rfl⟩ | ⟨vh,a0,rfl,rfl,O⟩
  .simp[hiA] at eh
  .have h1:=fun c=>(M11 (P:=P) eh O (Nat.le_refl _) c w).1
   rcases Q with ⟨rfl,rfl⟩ | ⟨vl,W,rfl,rfl,J⟩
   .simp only[loA,Option.some.injEq] at el
    subst el;simp[Instr.sliceBounds,h0,h1,U]
   .have h2:=(M11 (P:=P) el J (Nat.le_refl _) .slice3C w).1
    simp[Instr.sliceBounds,h0,h1,h2,U]
theorem B23{a:Option Addr}{size:Nat}{E:Bool}{r:Value}(h:B26 a len cap size lo hi mx E=some r):
  ∃ m hh l,Y13 mx cap=some m/\hiA hi mx len m=some hh /\
   loA lo hh=some l /\
   (match a with
    | none=>r = .slice none (hh-l) (m-l)
    | some a=>l<=m/\¬ (E=true/\mx=none/\m=l/\l≠0)/\r = .slice (some (if m=l then a else { block:=a.block,off:=a.off+l*size,spot:=a.spot })) (hh-l) (m-l)):=by
 unfold B26 at h
 split at h
 .cases h
 .rename_i m em
  split at h
  .cases h
  .rename_i hh eh
   split at h
   .cases h
   .rename_i l el
    refine⟨m,hh,l,em,eh,el,?_⟩
    split at h
    .simp only[Option.some.injEq] at h;exact h.symm
    .rename_i a
     cases hb:((E&&mx.isNone&&Nat.beq m l && !(Nat.beq l 0)) || !(Nat.ble l m)) with
     | true=>rw[hb] at h;cases h
     | false=>
      rw[hb] at h;simp only[cond_false,Option.some.injEq] at h;subst h;rw[Bool.or_eq_false_iff] at hb;obtain⟨hb,O⟩:=hb;refine⟨by simpa using O,?_,?_⟩
      .rintro⟨rfl,rfl,rfl,h0⟩
       simp[h0] at hb
      .by_cases J:m=l
       .subst J;simp
       .have:Nat.beq m l=false:=by
         cases hq:Nat.beq m l with
         | false=>rfl
         | true=>exact absurd (Nat.eq_of_beq_eq_true hq) J
        simp[this,J]
section
variable {β:Type} {P:Program} {d n:Nat} {o:Oper} {T:K0 Value}
theorem B60{lo hi mx:Option Operand}{M1:Option X}{kk:Nat}{e:TypeId}{i:TypeInfo}(ho:o.op = .slice t x lo hi mx)(hx:N0 n x=some X1)
  (O:B8 n lo=some L1)(Q:B8 n hi=some H1)(U:B8 n mx=some M1)(hu:P.underlying t=some (.array kk e))(hi':P.info? e=some i)(z:β)(k:Value->β):
  X4 P (.slA X1 kk i.size L1 H1 M1) T z k=z\/∃ v,X4 P (.slA X1 kk i.size L1 H1 M1) T z k=k v/\PV P d n o T v:=by
 show U52 X1 kk i.size L1 H1 M1 T z k=z\/∃ v,U52 X1 kk i.size L1 H1 M1 T z k=k v/\_;unfold U52;rw[G2,C15,C15,C15]
 split
 .rename_i a hv
  split
  .rename_i r hr
   rw[E7];refine .inr ⟨r,rfl,fun F V w ht => ?_⟩;obtain⟨b,o',s'⟩:=a;have h1:=evX ht hx;rw[hv] at h1;obtain⟨rfl,tt,hF,he⟩:=h1.ptr_inv;obtain⟨m,hh,l,em,eh,el,_,_,hr⟩:=B23 hr;obtain⟨E,c1,c2⟩:=Z18 (P:=P) (OV.of ht O) (OV.of ht Q) (OV.of ht U) (Nat.le_refl kk) em eh el false w;have hm:(if (M1.map (ev T)).isNone then kk else m)=m:=by
    cases hM:M1.map (ev T) with
    | none=>simp[c1 hM]
    | some _=>simp
   rw[hm] at E;subst hr;refine⟨.slice (some (if m=l then ⟨tt.blk,tt.base+o',none⟩ else ⟨tt.blk,tt.base+(o'+l*i.size),none⟩)) (hh-l) (m-l),?_,?_⟩
   .simp only[execOp,ho,Instr.sliceAt,Sem.run_bind,run_underlying hu,Result.andThen_ok,he,Instr.sureAddr,Sem.run_pure,E,E3 hi',X11,Nat.add_assoc]
   .by_cases J:m=l
    .simp only[J,if_true];exact .slice hF (.inl rfl)
    .simp only[J,if_false];exact .slice hF (.inl rfl)
  .exact .inl rfl
 .exact .inl rfl
theorem C67{s:ByteArray}(E:OV F lo lo')(J:OV F hi hi')(h:G31 s lo hi=some v)(hu:P.underlying t=some .string)(w:World):
  (Instr.slice t (.string s) lo' hi' none).run P w = .ok v w/\X7 v=true:=by
 unfold G31 at h
 split at h
 .cases h
 .rename_i hh eh
  split at h
  .cases h
  .rename_i l el
   cases h
   refine⟨?_,rfl⟩;have hb:=Z18 (P:=P) E J (mx:=none) (mx':=none) (.inl ⟨rfl,rfl⟩) (len:=s.size) (cap:=s.size) (cap':=s.size) (m:=s.size) (h:=hh) (l:=l) (Nat.le_refl _) rfl (by
    cases hi with
    | none=>simpa [hiA] using eh
    | some q=>simpa [hiA] using eh) (by
    cases lo with
    | none=>simpa [loA] using el
    | some q=>simpa [loA] using el) false w
   simp only[Instr.slice,Sem.run_bind,run_underlying hu,Result.andThen_ok,Option.isSome_none,Bool.false_eq_true,if_false,Sem.run_pure,hb.1]
theorem N59{lo hi:Option Operand}{X1:X}(ho:o.op = .slice t x lo hi none)(hx:N0 n x=some X1)(Q:B8 n lo=some L1)(U:B8 n hi=some H1)(hu:P.underlying t=some .string)(z:β)(k:Value->β):
  X4 P (.vf (.ssl L1.isSome H1.isSome) (X1 :: (L1.toList++H1.toList))) T z k=z\/∃ v,X4 P (.vf (.ssl L1.isSome H1.isSome) (X1 :: (L1.toList++H1.toList))) T z k=k v/\PV P d n o T v:=by
 refine G13 (fun v hv => ?_) z k;have O:∃ s,ev T X1 = .string s/\G31 s (L1.map (ev T)) (H1.map (ev T))=some v:=by
  cases L1<;>cases H1<;>simp only[Option.isSome_none,Option.isSome_some,Option.toList_none,Option.toList_some,List.nil_append,List.cons_append,List.append_nil,List.map_cons,List.map_nil] at hv <;>
   (unfold VF.ev at hv;split at hv<;>first | (rename_i h0 _;cases h0;done) | (rename_i h0 h1;cases h0;simp only[List.cons.injEq,and_true] at h1;first | exact⟨_,h1,hv⟩ | (obtain⟨e1,e2⟩:=h1;subst e2;exact⟨_,e1,hv⟩) | (obtain⟨e1,e2,e3⟩:=h1;subst e2;subst e3;exact⟨_,e1,hv⟩)) | cases hv)
 obtain⟨s,hs,hv⟩:=O;intro F V w ht;have e1:=evX ht hx;rw[hs] at e1;have e1:=e1.string_inv;obtain⟨E,J⟩:=C67 (P:=P) (OV.of ht Q) (OV.of ht U) hv hu w;refine⟨v,?_,C6 F v J⟩;simp only[execOp,ho,Instr.sliceAt,e1,Option.map_none,Sem.run_bind,run_underlying hu,Result.andThen_ok,E,Sem.run_pure]
theorem N67 (h : G19 P n o = some (.p i)) (z : β) (k : Value -> β) :
    X4 P i T z k = z \/ ∃ v, X4 P i T z k = k v /\ PV P d n o T v := by
  unfold G19 at h
  split at h
  · rename_i x ho
    cases hx : N0 n x with
    | none => simp [hx] at h
    | some y => simp [hx] at h; subst h; exact C43 (.inl ho) hx z k
  · rename_i x ho
    cases hx : N0 n x with
    | none => simp [hx] at h
    | some y => simp [hx] at h; subst h; exact C43 (.inr ho) hx z k
  · rename_i c a b ho
    split at h
    · rename_i h1 h2 h3; cases h; exact U55 ho h1 h2 h3 z k
    · cases h
  · rename_i op t x y yt ho
    split at h
    · rename_i h1 h2
      split at h
      · cases h; exact J26 ho h1 h2 z k
      · rename_i neg he
        have ho' : o.op = .binOp (if neg then .neq else .eql) t x y yt := by
          cases op <;> simp [N69] at he <;> subst he <;> simpa using ho
        split at h
        · cases h; exact J26 ho h1 h2 z k
        · cases h; exact J26 ho h1 h2 z k
        · rename_i hu; cases h; exact M60 ho' h1 h2 hu z k
        · rename_i hu; cases h; exact B20 ho' h1 h2 hu z k
        · rename_i hu; cases h; exact B20 ho' h1 h2 hu z k
        · rename_i hu; cases h; exact B20 ho' h1 h2 hu z k
        · rename_i hu; cases h; exact B20 ho' h1 h2 hu z k
        · rename_i fs hu
          split at h
          · rename_i offs hof; cases h; exact Q57 ho' h1 h2 hu hof z k
          · cases h; exact W43 ho' h1 h2 z k
        · cases h; exact W43 ho' h1 h2 z k
    · cases h
  · rename_i u t x ho
    split at h
    · rename_i h1
      cases h
      exact C63 ho h1 z k
    · cases h
  · rename_i s x f ho
    split at h
    · rename_i fs h1 h2
      split at h
      · rename_i fd hf
        split at h
        · rename_i inf hi
          cases hz : Nat.beq inf.size 0 with
          | true => rw [hz] at h; cases h
          | false =>
            rw [hz] at h; cases h
            rw [Q8] at hf
            exact K57 ho h1 h2 (by simpa using hf) hi (fun e => by rw [e] at hz; cases hz) z k
        · cases h
      · cases h
    · cases h
  · rename_i t x ix ho
    split at h
    · rename_i h1 h2 h3
      split at h
      · rename_i hi; cases h; exact K55 ho h1 h2 h3 hi z k
      · cases h
    · rename_i h1 h2 h3
      split at h
      · rename_i hi; cases h; exact G53 ho h1 h2 h3 hi z k
      · cases h
    · cases h
  · rename_i x ho
    cases hx : N0 n x with
    | none => simp [hx] at h
    | some y => simp [hx] at h; subst h; exact M52 ho hx z k
  · rename_i x j ho
    cases hx : N0 n x with
    | none => simp [hx] at h
    | some y => simp [hx] at h; subst h; exact B59 ho hx z k
  · rename_i t x f ho
    split at h
    · rename_i fs h1 h2
      split at h
      · rename_i fd hf
        cases hs : E8 P fd.type with
        | none => simp [hs] at h
        | some sh =>
          simp [hs] at h; subst h
          rw [Q8] at hf
          exact V54 ho h1 h2 (by simpa using hf) hs z k
      · cases h
    · cases h
  · rename_i t x ix ho
    split at h
    · rename_i h1 h2 h3
      split at h
      · rename_i hi hd; cases h; exact Z52 ho h1 h2 h3 hi hd z k
      · cases h
    · rename_i h1 h2 h3
      cases h
      exact E55 ho h1 h2 h3 z k
    · cases h
  · rename_i t parts ho
    split at h
    · rename_i fields zz ps h1 h2 h3
      cases hp : R13 P fields.toList with
      | none => simp [hp] at h
      | some pl => simp [hp] at h; subst h; exact C28 ho h3 h2 (.inl ⟨fields, h1, hp⟩) z k
    · rename_i kk e zz ps h1 h2 h3
      split at h
      · rename_i hi; cases h; exact C28 ho h3 h2 (.inr ⟨_, _, _, h1, hi, rfl⟩) z k
      · cases h
    · cases h
  · rename_i t x lo hi mx ho
    split at h
    · rename_i h1 h2 h3 h4 h5
      split at h <;> cases h
    · rename_i h1 h2 h3 h4 h5
      split at h
      · rename_i hinf; cases h; exact B60 ho h1 h2 h3 h4 h5 hinf z k
      · cases h
    · rename_i x1 lo1 hi1 h1 h2 h3 h4 h5
      cases h
      have hmx : mx = none := by
        cases mx with
        | none => rfl
        | some q => simp only [B8] at h4; cases hq : N0 n q <;> simp [hq] at h4
      subst hmx
      exact N59 ho h1 h2 h3 h5 z k
    · cases h
  · rename_i fn first captured ho
    split at h
    · rename_i h1 h2; cases h; exact D59 ho h1 h2 z k
    · cases h
  · rename_i t x ho
    split at h
    · cases h
    · rename_i h1 h2 h3
      cases h
      exact G59 ho h2 h3 (fun ms e => h1 ms e) z k
    · cases h
  all_goals first
    | (rename_i arr x ho
       split at h
       · rename_i h1 h2
         cases h
         exact K59 ho h1 h2 z k
       · cases h)
    | (rename_i c ho
       split at h
       · split at h <;> cases h
       · split at h
         · split at h
           · split at h
             · split at h
               · cases h
               · cases hq : Nat.blt 0 _ <;> rw [hq] at h <;> cases h
             · cases h
           · cases h
         · cases h
       · split at h
         · split at h
           · cases hq : P.info? _ <;> rw [hq] at h <;> cases h
           · cases h
         · cases h
       · split at h
         · split at h <;> cases h
         · cases h
       · cases hq : U7 n c.args.toList with
         | none => rw [hq] at h; cases h
         | some xs =>
           rw [hq] at h; cases h
           rename_i hcal
           first | exact Q24 (mx := false) ho hcal hq z k | exact Q24 (mx := true) ho hcal hq z k
       · cases hq : U7 n c.args.toList with
         | none => rw [hq] at h; cases h
         | some xs =>
           rw [hq] at h; cases h
           rename_i hcal
           first | exact Q24 (mx := false) ho hcal hq z k | exact Q24 (mx := true) ho hcal hq z k
       · split at h
         · split at h
           · cases h
           · cases hq : M10 P _ <;> rw [hq] at h <;> cases h
           · cases h
         · cases h
       · cases h)
    | (cases h; done)
    | (split at h <;> cases h; done)
    | (repeat' (first | (cases h; done) | split at h))
    | skip
  all_goals first
    | (rw [Bool.cond_eq_ite] at h; split at h <;> cases h; done)
    | (rw [Option.map_eq_some_iff] at h; obtain ⟨_, _, h⟩ := h; cases h; done)
theorem K61(h:W18 P n o=some (.p i))(z:β)(k:Value->β):
  X4 P i T z k=z\/∃ v,X4 P i T z k=k v/\PV P d n o T v:=by
 rcases E20 h with h | h
 .exact N67 h z k
 .cases h;exact .inl (by simp only[X4,vfK,U17];rfl)
end
end Go.Clo
