/-
  The closed executor: the operations that only compute,all of them.
-/
import Derived.Test.YtpiobdofbhkmjaaDoorL4
import Derived.Laws.StructEq
set_option linter.unusedSimpArgs false
set_option linter.unusedVariables false
set_option linter.unusedSectionVars false
namespace Go.Clo
variable {F:FM} {I1 X1 Y1:X} {P:Program} {b neg:Bool} {dd:TypeDesc} {e t yt:TypeId} {i:TypeInfo} {ix x y:Operand} {len:Nat} {xs:List X}
theorem W50 {t:Option TypeDesc} {vx vy x' y':Value} (h:M14 t vx vy=some b) (hx:VR F vx x') (hy:VR F vy y'):M14 t x' y'=some b:=by
 unfold M14 at h
 split at h
 .rename_i a b';cases a<;>cases b'<;>simp at h<;>cases hx<;>cases hy<;>simp[M14,h]
 .rename_i a l1 c1 b' l2 c2;cases a<;>cases b'<;>simp at h<;>cases hx<;>cases hy<;>simp[M14,h]
 .rename_i a b';cases a<;>cases b'<;>simp at h<;>cases hx<;>cases hy<;>simp[M14,h]
 .cases hx;cases hy;simpa [M14] using h
 .cases hx;cases hy;simpa [M14] using h
 .cases hx;cases hy;simpa [M14] using h
 .cases h
theorem U60 {x y:Value} (h:M14 (P.underlying t) x y=some b) (d:Nat) (w:World):(Op.equalIn (d+1) t x y).run P w = .ok b w:=by
 unfold M14 at h
 split at h
 .rename_i a b' hu;cases a<;>cases b'<;>simp at h<;>subst h<;>simp[Op.equalIn,run_underlying hu]
 .rename_i a l1 c1 b' l2 c2 hu;cases a<;>cases b'<;>simp at h<;>subst h<;>simp[Op.equalIn,run_underlying hu]
 .rename_i a b' hu;cases a<;>cases b'<;>simp at h<;>subst h<;>simp[Op.equalIn,run_underlying hu]
 .rename_i hu;simp at h;subst h;simp[Op.equalIn,run_underlying hu]
 .rename_i hu;simp at h;subst h;simp[Op.equalIn,run_underlying hu]
 .rename_i hu;simp at h;subst h;simp[Op.equalIn,run_underlying hu]
 .cases h
theorem N44 {t':TypeId} {x y:Value} (h:M14 (P.underlying t) x y=some b) (op:BinOp) (xo yo:Operand) (w:World):(eqGuard op t' xo yo x y).run P w = .ok () w:=by
 unfold M14 at h
 split at h<;>first | (cases h;done) | (cases op<;>simp[eqGuard])
theorem B57 {x y:Value} {b:Bool} (h:M14 (P.underlying t) x y=some b) (neg:Bool) (w:World):
  (binOp (if neg then .neq else .eql) t x y).run P w = .ok (.bool (cond neg (!b) b)) w:=by
 have hq:=U60 h 9999 w
 have e:binOp (if neg then .neq else .eql) t x y=(do let r <- Op.equalIn (9999+1) t x y;pure (.bool (cond neg (!r) r)):Sem Value):=by
  unfold M14 at h
  split at h<;>first | (cases h;done) | (cases neg<;>rfl)
 rw[e];cases neg<;>simp only[Sem.run_bind,hq,Result.andThen_ok,cond_true,cond_false]<;>rfl
section
variable {β:Type} {P:Program} {d n:Nat} {o:Oper} {T:U1 Value}
theorem C63 (ho:o.op = .binOp (if neg then .neq else .eql) t x y yt) (hx:Q2 n x=some X1) (hy:Q2 n y=some Y1) (z:β) (k:Value->β):
  Q7 P (.eq neg (P.underlying t) X1 Y1 o) T z k=z\/∃ v,Q7 P (.eq neg (P.underlying t) X1 Y1 o) T z k=k v/\PV P d n o T v:=by
 have hsc:∀ (z:β) (k:Value->β),E33 P T [X1,Y1] o z k=z\/∃ v,E33 P T [X1,Y1] o z k=k v/\PV P d n o T v:=
  N45 (by simp[ho]) (by simp only[ho,Op.operands];intro q hq;simp at hq;rcases hq with rfl | rfl;exact⟨X1,by simp,hx⟩;exact⟨Y1,by simp,hy⟩)
 show N73 P T neg (P.underlying t) X1 Y1 o z k=z\/∃ v,N73 P T neg (P.underlying t) X1 Y1 o z k=k v/\_
 unfold N73
 rw[N4,N4]
 split
 .rename_i vx vy k1 a k2 b e1 e2
  cases hk:eqK k1 k2 with
  | false=>exact .inl rfl
  | true=>
   have hk:=U52 hk
   subst hk
   dsimp only[cond_true]
   rw[U32]
   refine .inr ⟨_,rfl,fun F act w ht => ?_⟩
   have h1:=evX ht hx
   have h2:=evX ht hy
   rw[e1] at h1;rw[e2] at h2
   have h1:=h1.int_inv
   have h2:=h2.int_inv
   refine⟨_,?_,.bool _⟩
   cases neg
   .simp[execOp,ho,h1,h2,eqGuard,binOp,Op.intCmp,E41]
   .simp[execOp,ho,h1,h2,eqGuard,binOp,Op.intCmp,E41];rfl
 .cases hs:(Z43 (ev T X1) || Z43 (ev T Y1)) with
  | false=>exact hsc z k
  | true=>
   dsimp only[cond_true]
   split
   .rename_i b hb
    rw[U32]
    refine .inr ⟨_,rfl,fun F act w ht=>⟨_,?_,.bool _⟩⟩
    have hr:=W50 hb (evX ht hx) (evX ht hy)
    have h1:=N44 (t':=t) hr (if neg then .neq else .eql) x y w
    have h2:=B57 hr neg w
    simp only[execOp,ho,Sem.run_bind,h1,h2,Result.andThen_ok]
    rfl
   .exact .inl rfl
theorem VR.string_inv {s:ByteArray} {v:Value} (h:VR F (.string s) v):v = .string s:=by cases h;rfl
theorem B21 {f:VF} (h:∀ v,f.ev (xs.map (ev T))=some v->PV P d n o T v) (z:β) (k:Value->β):
  Q7 P (.vf f xs) T z k=z\/∃ v,Q7 P (.vf f xs) T z k=k v/\PV P d n o T v:=by
 show vfK f xs T z k=z\/∃ v,vfK f xs T z k=k v/\_
 unfold vfK
 rw[W35,R9]
 cases hv:f.ev (xs.map (ev T)) with
 | none=>exact .inl rfl
 | some v=>exact .inr ⟨v,rfl,h v hv⟩
theorem Q78 (ho:o.op = .binOp (if neg then .neq else .eql) t x y yt) (hx:Q2 n x=some X1) (hy:Q2 n y=some Y1) (hu:P.underlying t=some .bool) (z:β) (k:Value->β):
  Q7 P (.vf (.eqb neg) [X1,Y1]) T z k=z\/∃ v,Q7 P (.vf (.eqb neg) [X1,Y1]) T z k=k v/\PV P d n o T v:=by
 refine B21 (fun v hv => ?_) z k
 simp only[List.map_cons,List.map_nil] at hv
 unfold VF.ev at hv
 split at hv<;>first | (rename_i h0 _;cases h0;done) | skip
 .rename_i neg' a b h0 h1
  cases h0
  simp only[List.cons.injEq,and_true] at h1
  cases hv
  intro F act w ht
  have e1:=evX ht hx
  have e2:=evX ht hy
  rw[h1.1] at e1;rw[h1.2] at e2
  have e1:=e1.bool_inv
  have e2:=e2.bool_inv
  refine⟨_,?_,.bool _⟩
  have hq:=run_equalIn_bool' (P:=P) w 9999 t a b hu
  cases neg
  .simp only[execOp,ho,e1,e2,eqGuard,binOp,Op.equal,Op.maxDepth,Sem.run_bind,Bool.false_eq_true,if_false]
   simp[hq]
  .simp only[execOp,ho,e1,e2,eqGuard,binOp,Op.equal,Op.maxDepth,Sem.run_bind,if_true]
   simp[hq]
 .cases hv
theorem Z33 {td:TypeDesc} (ho:o.op = .binOp (if neg then .neq else .eql) t x y yt) (hx:Q2 n x=some X1) (hy:Q2 n y=some Y1) (hu:P.underlying t=some td) (z:β) (k:Value->β):
  Q7 P (.vf (.eqn neg td) [X1,Y1]) T z k=z\/∃ v,Q7 P (.vf (.eqn neg td) [X1,Y1]) T z k=k v/\PV P d n o T v:=by
 refine B21 (fun v hv => ?_) z k
 simp only[List.map_cons,List.map_nil,VF.ev,Option.map_eq_some_iff] at hv
 obtain⟨b,hb,rfl⟩:=hv
 intro F act w ht
 refine⟨_,?_,.bool _⟩
 rw[<- hu] at hb
 have hr:=W50 hb (evX ht hx) (evX ht hy)
 have h1:=N44 (t':=t) hr (if neg then .neq else .eql) x y w
 have h2:=B57 hr neg w
 simp only[execOp,ho,Sem.run_bind,h1,h2,Result.andThen_ok]
 rfl
theorem K73 {tag:Nat} {a b a' b':Value} {q:Bool} (ht:M55 (P.underlying t)=some tag) (hc:N50 tag a b=some q) (ha:VR F a a') (hb:VR F b b') (w:World):
  (isAgg t).run P w = .ok false w/\(Op.equalIn (9998+1) t a' b').run P w = .ok q w:=by
 unfold N50 at hc
 cases hu:P.underlying t with
 | none=>rw[hu] at ht;cases ht
 | some td=>
  rw[hu] at ht
  have hag:∀ td,P.underlying t=some td->Y15 td=false->(isAgg t).run P w = .ok false w:=fun td h1 h2=>by rw[V23 h1,h2]
  split at hc
  .rename_i k1 m1 k2 m2
   cases hk:eqK k1 k2 with
   | false=>rw[hk] at hc;cases hc
   | true=>
    rw[hk] at hc
    have:=U52 hk;subst this
    simp at hc;subst hc
    have e1:=ha.int_inv;have e2:=hb.int_inv
    subst e1;subst e2
    cases td<;>simp[M55] at ht
    exact⟨hag _ hu rfl,run_equalIn_int w 9998 t _ _ _ _ hu⟩
  .simp at hc;subst hc
   have e1:=ha.bool_inv;have e2:=hb.bool_inv
   subst e1;subst e2
   cases td<;>simp[M55] at ht
   exact⟨hag _ hu rfl,run_equalIn_bool' w 9998 t _ _ hu⟩
  .simp at hc;subst hc
   have e1:=ha.string_inv;have e2:=hb.string_inv
   subst e1;subst e2
   cases td<;>simp[M55] at ht
   exact⟨hag _ hu rfl,run_equalIn_string w 9998 t _ _ hu⟩
  .cases hc
theorem D44 {F : FM} {xs ys : List Value} {xs' ys' : Array Value} (hx : VL F xs xs'.toList) (hy : VL F ys ys'.toList) (w : World) : ∀ {fs : List Field} {offs : List (Nat × Nat)} {r : Bool}, (∀ f ∈ fs, f.name ≠ "_") -> Y43 P fs = some offs -> C28 xs ys offs = some r -> (Op.eqFields (9998 + 1) xs' ys' fs).run P w = .ok r w
 | [],offs,r,_,h,he=>by simp[Y43] at h;subst h;simp[C28] at he;subst he;rfl
 | f :: fs,offs,r,hn,h,he=>by
  simp only[Y43] at h
  cases hf:M55 (P.underlying f.type) with
  | none=>simp[hf] at h
  | some tag=>
   cases hfs:Y43 P fs with
   | none=>simp[hf,hfs] at h
   | some os=>
    simp[hf,hfs] at h;subst h
    simp only[C28,C14] at he
    cases hxa:xs[f.offset]? with
    | none=>simp[hxa] at he
    | some a=>cases hyb:ys[f.offset]? with
     | none=>simp[hxa,hyb] at he
     | some b=>
      simp only[hxa,hyb] at he
      cases hc:N50 tag a b with
      | none=>simp[hc] at he
      | some q=>cases hcs:C28 xs ys os with
       | none=>simp[hc,hcs] at he
       | some q'=>
        simp[hc,hcs] at he;subst he
        have ih:=D44 hx hy w (fs:=fs) (fun g hg=>hn g (by simp[hg])) hfs hcs
        obtain⟨a',ha',hra⟩:=hx.some hxa
        obtain⟨b',hb',hrb⟩:=hy.some hyb
        have hna : f.name ≠ "_" := hn f (by simp)
        obtain⟨k1,k2⟩:=K73 (P:=P) hf hc hra hrb w
        have g1:xs'[f.offset]? = some a':=by simpa using ha'
        have g2:ys'[f.offset]? = some b':=by simpa using hb'
        unfold Op.eqFields
        rw[if_pos hna]
        simp only[part,Sem.run_bind,k1,Result.andThen_ok,Bool.false_eq_true,if_false,g1,g2,Sem.run_pure,k2]
        cases q with
        | false=>simp
        | true=>simp[ih]
theorem C77 {fs:Array Field} {offs:List (Nat × Nat)} (ho:o.op = .binOp (if neg then .neq else .eql) t x y yt) (hx:Q2 n x=some X1) (hy:Q2 n y=some Y1) (hu:P.underlying t=some (.struct fs)) (hof:U67 P t fs.toList=some offs) (z:β) (k:Value->β):
  Q7 P (.vf (.eqs neg offs) [X1,Y1]) T z k=z\/∃ v,Q7 P (.vf (.eqs neg offs) [X1,Y1]) T z k=k v/\PV P d n o T v:=by
 refine B21 (fun v hv => ?_) z k
 simp only[List.map_cons,List.map_nil] at hv
 unfold U67 at hof
 cases hb : (!P.stoodInHeld t && !P.eqGuardType P.depth t && fs.toList.all fun f => f.name != "_") with
 | false=>rw[hb] at hof;cases hof
 | true=>
  rw[hb] at hof
  simp only[cond_true] at hof
  simp only[Bool.and_eq_true,Bool.not_eq_true',List.all_eq_true,bne_iff_ne] at hb
  unfold VF.ev at hv
  split at hv<;>first | (rename_i h0 _;cases h0;done) | skip
  .rename_i neg' offs' a b h0 h1
   cases h0
   simp only[List.cons.injEq,and_true] at h1
   rw[Option.map_eq_some_iff] at hv
   obtain⟨r,hr,rfl⟩:=hv
   intro F act w ht
   have e1:=evX ht hx
   have e2:=evX ht hy
   rw[h1.1] at e1;rw[h1.2] at e2
   obtain⟨a',ea,hla⟩:=e1.agg_inv
   obtain⟨b',eb,hlb⟩:=e2.agg_inv
   refine⟨_,?_,.bool _⟩
   have hfe:P.fieldsOf t=fs:=by simp[Program.fieldsOf,hu]
   have hq:(Op.equalIn (9999+1) t (.agg a') (.agg b')).run P w = .ok r w:=by
    rw[run_equalIn_struct w 9999 t a' b' (by rw[hfe];exact hu) hb.1.1,hfe]
    exact D44 hla hlb w hb.2 hof hr
   have hg:=run_eqGuard_agg (P:=P) w (if neg then .neq else .eql) t x y a' b' hb.1.2
   simp only[execOp,ho,ea,eb,Sem.run_bind,hg,Result.andThen_ok]
   cases neg
   .have:=run_eql_struct (P:=P) w t a' b'
    simp only[Bool.false_eq_true,if_false] at this ⊢
    rw[this,hq];rfl
   .have:=run_neq_struct (P:=P) w t a' b'
    simp only[if_true] at this ⊢
    rw[this,hq];rfl
  .cases hv
theorem K74 (ho:o.op = .indexAddr t x ix) (hx:Q2 n x=some X1) (hix:Q2 n ix=some I1) (ht':P.underlying t=some (.slice e)) (hi:P.info? e=some i)
  (z:β) (k:Value->β):Q7 P (.idx X1 I1 none i.size) T z k=z\/∃ v,Q7 P (.idx X1 I1 none i.size) T z k=k v/\PV P d n o T v:=by
 show N46 X1 I1 none i.size T z k=z\/∃ v,N46 X1 I1 none i.size T z k=k v/\_
 unfold N46
 rw[N4]
 split
 .rename_i kk m hv
  rw[N4]
  unfold Y61
  split
  .rename_i a len c e1 e2
   obtain⟨b,o',s'⟩:=a
   cases hb:Nat.blt m len with
   | false=>exact .inl rfl
   | true=>
    dsimp only[cond_true]
    unfold Q30
    rw[N2]
    refine .inr ⟨_,rfl,fun F act w ht => ?_⟩
    have h1:=evX ht hx
    have h2:=evX ht hix
    rw[e2] at h1;rw[hv] at h2
    have hm:m<len:=by simpa using hb
    obtain⟨rfl,tt,c',hF,he,_⟩:=h1.slice_invP (by omega)
    have h2:=h2.int_inv
    refine⟨.pointer (some ⟨tt.blk,tt.base+(o'+m*i.size),none⟩),?_,.ptr hF⟩
    have hlt:(0:Int)<=Int.ofNat m/\Int.ofNat m<(len:Int):=⟨Int.natCast_nonneg m,by simpa using hm⟩
    simp only[execOp,ho,he,h2,Instr.indexAt,asIntOf,Sem.run_bind,Sem.run_pure,Result.andThen_ok,run_underlying ht']
    simp[hm,D6 hi,M18,Nat.add_assoc]
  .rename_i e1 _;cases e1
  .exact .inl rfl
 .exact .inl rfl
theorem V73 (ho:o.op = .indexAddr t x ix) (hx:Q2 n x=some X1) (hix:Q2 n ix=some I1) (ht':P.underlying t=some (.array len e)) (hi:P.info? e=some i)
  (z:β) (k:Value->β):Q7 P (.idx X1 I1 (some len) i.size) T z k=z\/∃ v,Q7 P (.idx X1 I1 (some len) i.size) T z k=k v/\PV P d n o T v:=by
 show N46 X1 I1 (some len) i.size T z k=z\/∃ v,N46 X1 I1 (some len) i.size T z k=k v/\_
 unfold N46
 rw[N4]
 split
 .rename_i kk m hv
  rw[N4]
  unfold Y61
  split
  .rename_i e1 _;cases e1
  .rename_i len' a e1 e2
   cases e1
   obtain⟨b,o',s'⟩:=a
   cases hb:Nat.blt m len with
   | false=>exact .inl rfl
   | true=>
    dsimp only[cond_true]
    unfold Q30
    rw[N2]
    refine .inr ⟨_,rfl,fun F act w ht => ?_⟩
    have h1:=evX ht hx
    have h2:=evX ht hix
    rw[e2] at h1;rw[hv] at h2
    obtain⟨rfl,tt,hF,he⟩:=h1.ptr_inv
    have h2:=h2.int_inv
    have hm:m<len:=by simpa using hb
    refine⟨.pointer (some ⟨tt.blk,tt.base+(o'+m*i.size),none⟩),?_,.ptr hF⟩
    simp only[execOp,ho,he,h2,Instr.indexAt,asIntOf,Instr.sureAddr,Sem.run_bind,Sem.run_pure,Result.andThen_ok,run_underlying ht']
    simp[hm,D6 hi,M18,Nat.add_assoc]
  .exact .inl rfl
 .exact .inl rfl
theorem Y75 (ho:o.op = .index t x ix) (hx:Q2 n x=some X1) (hix:Q2 n ix=some I1) (hu:P.underlying t=some .string) (z:β) (k:Value->β):
  Q7 P (.vf .sidx [X1,I1]) T z k=z\/∃ v,Q7 P (.vf .sidx [X1,I1]) T z k=k v/\PV P d n o T v:=by
 refine B21 (fun v hv => ?_) z k
 simp only[List.map_cons,List.map_nil] at hv
 unfold VF.ev at hv
 split at hv<;>first | (rename_i h0 _;cases h0;done) | skip
 .rename_i s kd m h0 h1
  simp only[List.cons.injEq,and_true] at h1
  unfold G54 at hv
  rw[Option.map_eq_some_iff] at hv
  obtain⟨b,hb,rfl⟩:=hv
  intro F act w ht
  have e1:=evX ht hx
  have e2:=evX ht hix
  rw[h1.1] at e1;rw[h1.2] at e2
  have e1:=e1.string_inv
  have e2:=e2.int_inv
  refine⟨_,?_,.int _ _⟩
  simp only[execOp,ho,e1,e2,Instr.index,asIntOf,Sem.run_bind,Sem.run_pure,Result.andThen_ok,run_underlying hu,hb]
 .cases hv
theorem K83 {arr:TypeId} {kk:Nat} (ho:o.op = .sliceToArrayPointer arr x) (hx:Q2 n x=some X1) (hu:P.underlying arr=some (.array kk e)) (z:β) (k:Value->β):
  Q7 P (.vf (.s2a kk) [X1]) T z k=z\/∃ v,Q7 P (.vf (.s2a kk) [X1]) T z k=k v/\PV P d n o T v:=by
 refine B21 (fun v hv => ?_) z k
 simp only[List.map_cons,List.map_nil] at hv
 unfold VF.ev at hv
 split at hv<;>first | (rename_i h0 _;cases h0;done) | skip
 .rename_i kk' b o' len cap h0 h1
  cases h0
  simp only[List.cons.injEq,and_true] at h1
  cases hb:Nat.ble kk len with
  | false=>rw[hb] at hv;cases hv
  | true=>
   rw[hb] at hv
   cases hv
   have hle:=Nat.le_of_ble_eq_true hb
   intro F act w ht
   have e1:=evX ht hx
   rw[h1] at e1
   obtain⟨_,tt,c',hF,he,_⟩:=e1.slice_inv
   refine⟨_,?_,.ptr hF⟩
   simp only[execOp,ho,he,Sem.run_bind,Sem.run_pure,Result.andThen_ok,Instr.arrayAt,run_underlying hu]
   simp[Nat.not_lt.2 hle]
 .cases hv
theorem M83 {mx:Bool} {F:FM} (w:World):∀ {l l':List Value} {x v:Value},VL F l l'->mmV mx x l=some v->(l'.foldlM (if mx then Builtin.max2 else Builtin.min2) x).run P w = .ok v w/\C11 v=true
 | [],l',x,v,hl,h=>by
  cases hl
  cases x<;>simp[mmV] at h
  subst h;exact⟨rfl,rfl⟩
 | y :: l,l',x,v,hl,h=>by
  cases hl with
  | cons hy hl=>
   unfold mmV at h
   split at h
   .rename_i h0;cases h0
   .rename_i h0
    simp only[List.cons.injEq] at h0
    obtain⟨rfl,rfl⟩:=h0
    have e:=hy.int_inv
    subst e
    have ih:=M83 w hl h
    refine⟨?_,ih.2⟩
    rw[List.foldlM_cons]
    cases mx
    .simp only[Bool.false_eq_true,if_false,Builtin.min2,Sem.run_bind,Sem.run_pure,Result.andThen_ok] at ih ⊢
     exact ih.1
    .simp only[if_true,Builtin.max2,Sem.run_bind,Sem.run_pure,Result.andThen_ok] at ih ⊢
     exact ih.1
   .cases h
theorem V39 {mx:Bool} {c:Call} (ho:o.op = .call c) (hc:c.callee = .builtin (if mx then .max else .min)) (hxs:E12 n c.args.toList=some xs) (z:β) (k:Value->β):
  Q7 P (.vf (.mm mx) xs) T z k=z\/∃ v,Q7 P (.vf (.mm mx) xs) T z k=k v/\PV P d n o T v:=by
 refine B21 (fun v hv => ?_) z k
 intro F act w ht
 have hl:=X63 ht hxs (by rw[ho];intro q hq;simp only[Op.operands,Call.operands,hc];exact Array.mem_def.2 (by simpa using hq))
 generalize hys:xs.map (ev T)=ys at hv hl
 generalize hzs:c.args.toList.map act.eval=zs at hl
 cases hl with
 | nil=>simp[VF.ev] at hv
 | @cons x x' l l' hx hl=>
  have hv':mmV mx x l=some v:=hv
  have hxi:x'=x:=by
   unfold mmV at hv'
   split at hv'
   .exact hx.int_inv
   .exact hx.int_inv
   .cases hv'
  obtain⟨h1,h2⟩:=M83 (P:=P) w hl hv'
  refine⟨v,?_,K11 F v h2⟩
  have hm:(c.args.map act.eval).toList=x :: l':=by rw[<- hxi];simpa using hzs
  cases mx
  .simp only[Bool.false_eq_true,if_false] at h1 hc
   simp only[execOp,ho,resolve,hc,invoke,builtin,Builtin.min_,Sem.run_bind,Sem.run_pure,Result.andThen_ok,hm,h1]
  .simp only[if_true] at h1 hc
   simp only[execOp,ho,resolve,hc,invoke,builtin,Builtin.max_,Sem.run_bind,Sem.run_pure,Result.andThen_ok,hm,h1]
theorem D74 (ho:o.op = .index t x ix) (hx:Q2 n x=some X1) (hix:Q2 n ix=some I1) (ht':P.underlying t=some (.array len e)) (hi:P.info? e=some i)
  (hd:P.underlying e=some dd) (z:β) (k:Value->β):
  Q7 P (.aidx X1 I1 len i.size (Y15 dd)) T z k=z\/∃ v,Q7 P (.aidx X1 I1 len i.size (Y15 dd)) T z k=k v/\PV P d n o T v:=by
 show R60 X1 I1 len i.size (Y15 dd) T z k=z\/∃ v,R60 X1 I1 len i.size (Y15 dd) T z k=k v/\_
 unfold R60
 rw[N4]
 split
 .rename_i kk m hv
  rw[N4]
  split
  .rename_i cs e2
   cases hb:Nat.blt m len with
   | false=>exact .inl rfl
   | true=>
    dsimp only[cond_true]
    have hsh:X15 P e=some (cond (Y15 dd) (some i.size) none):=by simp[X15,hd,hi]
    rcases N59 hsh cs.toList (m*i.size) z k with h | ⟨v,h,hp⟩
    .exact .inl h
    .refine .inr ⟨v,h,fun F act w ht => ?_⟩
     have h1:=evX ht hx
     have h2:=evX ht hix
     rw[e2] at h1;rw[hv] at h2
     obtain⟨x',he,hl⟩:=h1.agg_inv
     have h2:=h2.int_inv
     obtain⟨v',hv',hr⟩:=hp F x' w hl
     have hm:m<len:=by simpa using hb
     refine⟨v',?_,hr⟩
     simp only[execOp,ho,he,h2,Instr.index,asIntOf,Sem.run_bind,Sem.run_pure,Result.andThen_ok,run_underlying ht']
     simp[hm,D6 hi,hv']
  .exact .inl rfl
 .exact .inl rfl
theorem W40 (a:Act) (parts:Array (Nat × Operand)):(parts.map fun (i,x)=>(i,a.eval x)).toList=parts.toList.map fun p=>(p.1,a.eval p.2):=by
 simp
theorem V46 {parts:Array (Nat × Operand)} {ps:List (Nat × X)} {zero:List Value} {pl:List (Nat × Nat)} (ho:o.op = .build t parts) (hps:E26 n parts.toList=some ps) (hz:J18 P t=some zero)
  (hpl:(∃ fields,P.underlying t=some (.struct fields)/\M21 P fields.toList=some pl)\/(∃ kk e i,P.underlying t=some (.array kk e)/\P.info? e=some i/\pl=C40 kk i.size))
  (z:β) (k:Value->β):Q7 P (.build zero pl ps) T z k=z\/∃ v,Q7 P (.build zero pl ps) T z k=k v/\PV P d n o T v:=by
 show M51 zero pl ps T z k=z\/∃ v,M51 zero pl ps T z k=k v/\_
 unfold M51
 rw[V62]
 split
 .rename_i cs hf
  rw[E3]
  refine .inr ⟨_,rfl,fun F act w ht => ?_⟩
  obtain⟨it,v,hit,hiz,hzc,hfl,_,_⟩:=G22 hz
  subst hzc
  have hp:=Y85 ht hps (by rw[ho];intro p hp;simp only[Op.operands];exact Array.mem_def.2 (by simp;exact⟨p.1,by simpa using hp⟩))
  rcases hpl with ⟨fields,hu,hpl⟩ | ⟨kk,e,i,hu,hi,hpl⟩
  .obtain⟨r',hr,hl⟩:=B36 (pl:=nth pl) (pl':=(pl.toArray[·]?)) (fun i p h=>by rw[C14] at h;simpa using h) hp (Z20 hfl F) hf
   refine⟨.agg r',?_,?_⟩
   .have hb:P.built t (parts.map fun (i,x)=>(i,act.eval x)).toList=some r':=by
     rw[W40];simp only[Program.built,hit,hu,hiz,Z54 hpl];exact hr
    simp only[execOp,ho,Sem.run_bind,run_build w t _ r' hb,Result.andThen_ok];rfl
   .have:r'=⟨r'.toList⟩:=rfl
    rw[this];exact VR.agg' hl
  .obtain⟨r',hr,hl⟩:=B36 (pl:=nth pl) (pl':=fun k=>some (k*i.size,i.size)) (fun j p h=>by
    rw[C14,hpl] at h
    unfold C40 at h
    rw[List.getElem?_map] at h
    cases hj:(List.range kk)[j]? with
    | none=>rw[hj] at h;cases h
    | some q=>
     rw[hj] at h
     have:q=j:=by
      have hjl:j<kk:=by
       rcases Nat.lt_or_ge j kk with g | g
       .exact g
       .simp[g] at hj
      simp[hjl] at hj;exact hj.symm
     subst this
     simpa using h) hp (Z20 hfl F) hf
   refine⟨.agg r',?_,?_⟩
   .have hb:P.built t (parts.map fun (i,x)=>(i,act.eval x)).toList=some r':=by
     rw[W40];simp only[Program.built,hit,hu,hiz,hi];exact hr
    simp only[execOp,ho,Sem.run_bind,run_build w t _ r' hb,Result.andThen_ok];rfl
   .have:r'=⟨r'.toList⟩:=rfl
    rw[this];exact VR.agg' hl
 .exact .inl rfl
theorem B77 {fn:Fn} {first captured:Array Operand} {f c:List X} (ho:o.op = .makeFunc fn first captured) (hf:E12 n first.toList=some f) (hc:E12 n captured.toList=some c)
  (z:β) (k:Value->β):Q7 P (.mkf fn f c) T z k=z\/∃ v,Q7 P (.mkf fn f c) T z k=k v/\PV P d n o T v:=by
 show (W27 T f fun f=>W27 T c fun c=>k (.func fn ⟨f⟩ ⟨c⟩))=z\/∃ v,(W27 T f fun f=>W27 T c fun c=>k (.func fn ⟨f⟩ ⟨c⟩))=k v/\_
 rw[W35,W35]
 refine .inr ⟨_,rfl,fun F act w ht=>⟨.func fn (first.map act.eval) (captured.map act.eval),?_,?_⟩⟩
 .simp[execOp,ho,Instr.makeFunc]
 .have h1:=X63 ht hf (by rw[ho];intro q hq;simp[Op.operands];exact .inl (by simpa using hq))
  have h2:=X63 ht hc (by rw[ho];intro q hq;simp[Op.operands];exact .inr (by simpa using hq))
  exact .func fn (by simpa using h1.length) (fun i v v' a b=>h1.get i v v' (by simpa using a) (by simpa using b)) (by simpa using h2.length) (fun i v v' a b=>h2.get i v v' (by simpa using a) (by simpa using b))
theorem U79 {y:X} (ho:o.op = .makeInterface t x) (hx:Q2 n x=some y) (hu:P.underlying t=some dd) (hn:∀ ms,dd ≠ .interface ms)
  (z:β) (k:Value->β):Q7 P (.mki t y) T z k=z\/∃ v,Q7 P (.mki t y) T z k=k v/\PV P d n o T v:=by
 show (E7 T y fun v=>k (.iface t v))=z\/∃ v,(E7 T y fun v=>k (.iface t v))=k v/\_
 rw[N4]
 refine .inr ⟨_,rfl,fun F act w ht=>⟨.iface t (act.eval x),?_,.iface t (evX ht hx)⟩⟩
 cases dd<;>simp[execOp,ho,Instr.makeInterface,run_underlying hu]
 exact absurd rfl (hn _)
end
end Go.Clo
