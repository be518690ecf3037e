/-
  The closed executor: the operations that read.
  The closed executor: the operations that read,joined;the operations that make a block.
  The closed executor: the operations that make a block.
-/
import Derived.Laws.BytesArg
import Derived.Test.YtoiioigihocgbaaGreatDoorN5
set_option linter.all false
namespace Go.Clo
variable {F:FM} {H:Y0} {P:Program} {b:C1} {c:List Value} {dst src t:TypeId} {i nx:Nat} {kd:TypeDesc} {sh:Option Nat} {v:Value} {w:World} {x:Operand} {y:X}
structure HB (F:FM) (H:Y0) (nx:Nat) (w:World):Prop where
 blk:∀ i b,i<nx->J0 H i=some b->∃ t,F i=some t/\BR F t b w
 fresh:∀ i,nx<=i->F i=none
theorem HR.hb(h:HR F H nx w):HB F H nx w:=⟨h.blk,h.fresh⟩
theorem HB.lt(h:HB F H nx w){t:J7}(hi:F i=some t):i<nx:=by
 rcases Nat.lt_or_ge i nx with g | g
 .exact g
 .rw[h.fresh i g] at hi;cases hi
theorem HB.get(h:HB F H nx w){t:J7}(hi:F i=some t)(hb:J0 H i=some b):BR F t b w:=by
 obtain⟨t',E,hr⟩:=h.blk i b (h.lt hi) hb;rw[hi] at E;cases E;exact hr
def RV(P:Program)(d n nx:Nat)(o:Oper)(T:K0 Value)(H:Y0)(v:Value):Prop:=
 ∀(F:FM) (a:Act) (w:World),OR n o F T a->HB F H nx w->∃ v',(execOp a.eval o).run P w = .ok (.value v') w/\VR F v v'
theorem PV.rv{d n:Nat}{o:Oper}{T:K0 Value}(h:PV P d n o T v)(nx:Nat)(H:Y0):RV P d n nx o T H v:=fun F a w ht _=>h F a w ht
def C1.row:C1->Option (List Value)
 | .cells c _=>some c
 | .rom c=>some c
 | _=>none
theorem BR.row {F:FM} {t:J7} {b:C1} {c:List Value} {w:World} (h:BR F t b w) (hc:b.row=some c):
  ∃ c' e m,w.heap[t.blk]? = some (.cells c' e m)/\t.base+c.length<=c'.size/\VL F c ((c'.toList.drop t.base).take c.length):=by
 cases b with
 | cells c1 sl=>cases hc;obtain⟨c',e,h1,h2,h3,h4,h5,h6⟩:=h;exact⟨c',e,_,h1,by omega,h6⟩
 | rom c1=>cases hc;obtain⟨c',e,m,h1,h2,h3,h4,h5,h6⟩:=h;exact⟨c',e,m,h1,by omega,h6⟩
 | map es k=>cases hc
theorem B62{t:J7}(h:BR F t b w)(E:b.row=some c){j:Nat}(hv:c[j]? = some v):
  ∃ v',w.cell? ⟨t.blk,t.base+j,none⟩=some v'/\VR F v v':=by
 obtain⟨c',e,m,h1,h5,h6⟩:=h.row E;obtain⟨v',J,hr⟩:=h6.some hv;refine⟨v',?_,hr⟩;have hj:j<c.length:=by
  rcases Nat.lt_or_ge j c.length with g | g
  .exact g
  .simp[List.getElem?_eq_none g] at hv
 simp[hj] at J;simp[World.cell?,h1,J]
theorem E31{α:Type}:∀ {n:Nat} {l r:List α},G5 n l=some r->r=l.take n/\r.length=n
 | 0,l,r,h=>by simp[G5] at h;subst h;simp
 | n+1,[],r,h=>by simp[G5] at h
 | n+1,a :: l,r,h=>by
  simp only[G5] at h
  cases hq:G5 n l with
  | none=>simp[hq] at h
  | some r'=>
   simp[hq] at h;subst h;obtain⟨h1,h2⟩:=E31 hq;simp[<- h1,h2]
theorem N36{t:J7}(h:BR F t b w)(O:b.row=some c){o m:Nat}{l:List Value}(hl:G5 m (c.drop o)=some l):
  ∃ l',(∀ w2:World,w2.heap=w.heap->(loadCells ⟨t.blk,t.base+o,none⟩ m).run P w2 = .ok l'.toArray w2)/\VL F l l'/\l.length=m:=by
 obtain⟨e1,e2⟩:=E31 hl;obtain⟨c',e,mk,h1,h5,h6⟩:=h.row O;have hv:VL F l (((((c'.toList.drop t.base).take c.length).drop o).take m)):=by rw[e1];exact(h6.drop o).take m
 refine⟨_,fun w2 U => ?_,hv,e2⟩;have E:=hv.length;have:=run_loadCells_list (P:=P) w2 ⟨t.blk,t.base+o,none⟩ ((((c'.toList.drop t.base).take c.length).drop o).take m) (fun j v hj=>by
  rw[X11];have J:j<m:=by
   rcases Nat.lt_or_ge j m with g | g
   .exact g
   .simp[List.getElem?_take,Nat.not_lt.2 g] at hj
  have Q:o+j<c.length:=by
   rcases Nat.lt_or_ge (o+j) c.length with g | g
   .exact g
   .simp[List.getElem?_take,J,Nat.not_lt.2 g] at hj
  simp[J,Q] at hj;simp[World.cell?,U,h1,Nat.add_assoc,hj])
 rw[<- E,e2] at this;exact this
theorem Y11(hu:P.underlying t=some kd)(hk:Q9 kd v=true)(e:Bool)(n:Nat)(w:World):(Instr.checkKey e (n+1) t v).run P w = .ok () w:=by
 cases kd<;>cases v<;>simp[Q9] at hk<;>simp[Instr.checkKey,run_underlying hu]
theorem W20(hk:Q9 kd v=true):M4 v=true:=by
 cases kd<;>cases v<;>simp[Q9] at hk<;>rfl
theorem E17{k:Value}{es es':List MapEntry}(h:EL F es es'):∀(j:Nat),
  (Instr.findNow kd k es j=none->Instr.findNow kd k es' j=none) /\
  (Instr.findNow kd k es j=some none->Instr.findNow kd k es' j=some none) /\
  (∀ i v,Instr.findNow kd k es j=some (some (i,v))->∃ v',Instr.findNow kd k es' j=some (some (i,v'))/\VR F v v'):=by
 induction h with
 | nil=>intro j;simp[Instr.findNow]
 | @cons key v v' b l l' hk hv _ ih=>
  intro j;simp only[Instr.findNow]
  cases hs:Instr.sameNow kd k key with
  | none=>simp
  | some q=>
   cases q with
   | true=>
    refine⟨by simp,by simp,?_⟩;intro i u h;simp at h;obtain⟨rfl,rfl⟩:=h;exact⟨v',by simp,hv⟩
   | false=>simpa using ih (j+1)
theorem EL.length{F:FM}{l l':List MapEntry}(h:EL F l l'):l.length=l'.length:=by
 induction h with
 | nil=>rfl
 | cons _ _ _ ih=>simp[ih]
theorem M7{r:Nat}{es:Array MapEntry}{c:Nat}(h:w.heap[r]? = some (.map es c)):(getObj r).run P w = .ok (.map es c) w:=by
 simp[getObj,Sem.run,h]
section
variable {β:Type} {P:Program} {d n nx:Nat} {o:Oper} {T:K0 Value} {H:Y0}
theorem M68(U:E8 P t=some sh){b off:Nat}{tt:J7}(hF:F b=some tt)(hb:HB F H nx w){blk:C1}(hg:J0 H b=some blk):
  ∀(v:Value),(∃(k:Value->Option Value),(∀ u,k u=some u)/\ldB off sh none k blk=some v)->∃ v',(loadVar t ⟨tt.blk,tt.base+off,none⟩).run P w = .ok v' w/\VR F v v':=by
 intro v ⟨k,hk,h⟩;obtain⟨dd,i,hu,hi,rfl⟩:=Q32 U;have O:=hb.get hF hg;have E:∀ c,blk.row=some c->ldC off (cond (G8 dd) (some i.size) none) none k c=some v->∃ v',(loadVar t ⟨tt.blk,tt.base+off,none⟩).run P w = .ok v' w/\VR F v v':=by
  intro c J h;unfold ldC at h
  cases hd:G8 dd with
  | false=>
   simp only[hd,cond_false] at h;rw[Z12] at h
   cases hv:c[off]? with
   | none=>rw[hv] at h;cases h
   | some u=>
    rw[hv] at h;simp only[Option.elim_some,hk,Option.some.injEq] at h;subst h;obtain⟨v',hc,hr⟩:=B62 O J hv;exact⟨v',by simp[loadVar,M14 hu,hd,hc],hr⟩
  | true=>
   simp only[hd,cond_true] at h
   split at h
   .rename_i l hl
    rw[V2,hk] at h;simp only[Option.some.injEq] at h;subst h;obtain⟨l',Q,V,W⟩:=N36 (P:=P) O J hl;refine⟨.agg l'.toArray,?_,?_⟩
    .simp[loadVar,M14 hu,hd,E3 hi,Q w rfl]
    .exact VR.agg' V
   .cases h
 cases blk with
 | map es c=>simp[ldB] at h
 | cells c sl=>exact E c rfl h
 | rom c=>exact E c rfl h
theorem Q39(off:Nat)(sh:Option Nat)(z:β)(k:Value->β)(c:List Value):
  ldC off sh z k c=z\/∃ v,ldC off sh z k c=k v/\ldC off sh none some c=some v:=by
 unfold ldC
 cases sh with
 | none=>
  dsimp only;rw[Z12,Z12]
  cases c[off]? with
  | none=>exact .inl rfl
  | some u=>exact .inr ⟨u,rfl,rfl⟩
 | some m=>
  dsimp only
  split
  .rw[V2,V2];exact .inr ⟨_,rfl,rfl⟩
  .exact .inl rfl
theorem E57(off:Nat)(sh:Option Nat)(z:β)(k:Value->β)(blk:C1):
  ldB off sh z k blk=z\/∃ v,ldB off sh z k blk=k v/\ldB off sh none some blk=some v:=by
 cases blk with
 | map es c=>exact .inl rfl
 | cells c sl=>exact Q39 off sh z k c
 | rom c=>exact Q39 off sh z k c
theorem M38(J:E8 P t=some sh)(y:X)(z:β)(k:Value->β):
  rLd y sh T H z k=z\/∃ v,rLd y sh T H z k=k v/\∀(F:FM) (x':Value) (w:World),VR F (ev T y) x'->HB F H nx w->∃ a v',x' = .pointer (some a)/\(loadVar t a).run P w = .ok v' w/\VR F v v':=by
 unfold rLd;rw[G2]
 split
 .rename_i b off hv
  rw[Y4]
  cases hg:J0 H b with
  | none=>exact .inl rfl
  | some blk=>
   dsimp only[Option.elim_some];rcases E57 off sh z k blk with h | ⟨v,h,h'⟩
   .exact .inl h
   .refine .inr ⟨v,h,fun F x' w hx hb => ?_⟩
    rw[hv] at hx;obtain⟨_,tt,hF,rfl⟩:=hx.ptr_inv;obtain⟨v',hr,E⟩:=M68 (H:=H) (nx:=nx) J hF hb hg v ⟨some,fun _=>rfl,h'⟩;exact⟨_,v',rfl,hr,E⟩
 .exact .inl rfl
theorem N62(ho:o.op = .load t x)(hx:N0 n x=some y)(E:E8 P t=some sh)(z:β)(k:Value->β):
  M9 P (.ld y sh) T H z k=z\/∃ v,M9 P (.ld y sh) T H z k=k v/\RV P d n nx o T H v:=by
 rcases M38 (nx:=nx) (T:=T) (H:=H) E y z k with h | ⟨v,h,hp⟩
 .exact .inl h
 .refine .inr ⟨v,h,fun F a w ht hb => ?_⟩
  obtain⟨ad,v',he,hr,hv⟩:=hp F (a.eval x) w (evX ht hx) hb;exact⟨v',by simp[execOp,ho,he,Instr.loadAt,Instr.sureAddr,hr],hv⟩
theorem Q63{ix:Operand}{ok:Bool}{X1 I1:X}{key V:TypeId}{ie:TypeInfo}{zero:Value}(ho:o.op = .lookup t x ix ok)(hx:N0 n x=some X1)(a1:N0 n ix=some I1)
  (hu:P.underlying t=some (.map key V))(hk:P.underlying key=some kd)(Z:P.info? V=some ie)(hz:ie.zero=some zero)(W:X7 zero=true)(z:β)(k:Value->β):
  M9 P (.lk kd zero X1 I1 ok) T H z k=z\/∃ v,M9 P (.lk kd zero X1 I1 ok) T H z k=k v/\RV P d n nx o T H v:=by
 show rLk kd zero X1 I1 ok T H z k=z\/∃ v,rLk kd zero X1 I1 ok T H z k=k v/\_;unfold rLk;rw[G2,G2]
 cases J:Q9 kd (ev T I1) with
 | false=>exact .inl rfl
 | true=>
  dsimp only[cond_true];have U:∀(es:List MapEntry),(∀(F:FM) (a:Act) (w:World),OR n o F T a->HB F H nx w->∃ es':Array MapEntry,EL F es es'.toList /\
     ((a.eval x = .map none/\es' = #[])\/∃ r c,a.eval x = .map (some r)/\w.heap[r]? = some (.map es' c))) ->
    ((match Instr.findNow kd (ev T I1) es 0 with
     | some (some (_,v))=>cond ok (k (.tuple ⟨[v,.bool true]⟩)) (k v)
     | some none=>cond ok (k (.tuple ⟨[zero,.bool false]⟩)) (k zero)
     | none=>z)=z\/∃ v,(match Instr.findNow kd (ev T I1) es 0 with
     | some (some (_,v))=>cond ok (k (.tuple ⟨[v,.bool true]⟩)) (k v)
     | some none=>cond ok (k (.tuple ⟨[zero,.bool false]⟩)) (k zero)
     | none=>z)=k v/\RV P d n nx o T H v):=by
   intro es a0
   split
   .rename_i j v hf
    refine .inr ⟨if ok then .tuple ⟨[v,.bool true]⟩ else v,by cases ok<;>rfl,fun F a w ht hb => ?_⟩;obtain⟨es',E,Q⟩:=a0 F a w ht hb;have hi:=C11 (evX ht a1) (W20 J);obtain⟨v',O,hr⟩:=(E17 (kd:=kd) (k:=ev T I1) E 0).2.2 _ _ hf;refine⟨if ok then .tuple #[v',.bool true] else v',?_,?_⟩
    .rcases Q with ⟨he,rfl⟩ | ⟨r,c,he,hw⟩
     .simp[Instr.findNow] at O
     .simp only[execOp,ho,Instr.lookup,Sem.run_bind,run_underlying hu,Result.andThen_ok,he,M7 hw,hi,Y11 hk J _ 9999,Instr.findKey,run_underlying hk,O,Sem.run_pure]
    .cases ok
     .exact hr
     .exact VR.tuple' (.cons hr (.cons (.bool true) .nil))
   .rename_i hf
    refine .inr ⟨if ok then .tuple ⟨[zero,.bool false]⟩ else zero,by cases ok<;>rfl,fun F a w ht hb => ?_⟩;obtain⟨es',E,Q⟩:=a0 F a w ht hb;have hi:=C11 (evX ht a1) (W20 J);have O:=(E17 (kd:=kd) (k:=ev T I1) E 0).2.1 hf;refine⟨if ok then .tuple #[zero,.bool false] else zero,?_,?_⟩
    .rcases Q with ⟨he,rfl⟩ | ⟨r,c,he,hw⟩
     .simp only[execOp,ho,Instr.lookup,Sem.run_bind,run_underlying hu,Result.andThen_ok,he,hi,Y11 hk J _ 9999,Instr.findKey,run_underlying hk,O,Sem.run_pure,zeroValue,K8 Z,hz]
     .simp only[execOp,ho,Instr.lookup,Sem.run_bind,run_underlying hu,Result.andThen_ok,he,M7 hw,hi,Y11 hk J _ 9999,Instr.findKey,run_underlying hk,O,Sem.run_pure,zeroValue,K8 Z,hz]
    .cases ok
     .exact C6 F zero W
     .exact VR.tuple' (.cons (C6 F zero W) (.cons (.bool false) .nil))
   .exact .inl rfl
  split
  .rename_i hv
   refine U [] (fun F a w ht _=>⟨#[],.nil,.inl ⟨?_,rfl⟩⟩);have h1:=evX ht hx;rw[hv] at h1;generalize a.eval x=q at h1
   cases h1
   rfl
  .rename_i r hv
   rw[Y4]
   cases hg:J0 H r with
   | none=>exact .inl rfl
   | some blk=>
    dsimp only[Option.elim_some]
    split
    .rename_i l c
     refine U l (fun F a w ht hb => ?_);have h1:=evX ht hx;rw[hv] at h1;generalize a.eval x=q at h1
     cases h1 with
     | map hF=>
      obtain⟨_,es',hw,E⟩:=hb.get hF hg;exact⟨es',E,.inr ⟨_,_,rfl,hw⟩⟩
    .exact .inl rfl
  .exact .inl rfl
theorem M48{kd:IntKind}{sd:TypeDesc}(ho:o.op = .convert src dst x)(hx:N0 n x=some y)
  (h1:P.underlying dst=some (.int kd))(h2:P.underlying src=some sd)(z:β)(k:Value->β):
  M9 P (.convI kd y) T H z k=z\/∃ v,M9 P (.convI kd y) T H z k=k v/\RV P d n nx o T H v:=by
 show X34 kd y T H z k=z\/∃ v,X34 kd y T H z k=k v/\_;unfold X34;rw[G2]
 split
 .rename_i k0 m hv
  have key:RV P d n nx o T H (.int kd (kd.wrap m)):=fun F a w ht _=>by
   have h3:=evX ht hx;rw[hv] at h3;have h3:=h3.int_inv;refine⟨.int kd (kd.wrap m),?_,.int _ _⟩
   cases sd<;>simp[execOp,ho,h3,convert,run_underlying h1,run_underlying h2,Conv.intToInt]
  cases hf:Q14 kd m with
  | false=>simp only[cond_false];rw[J21];exact .inr ⟨_,rfl,key⟩
  | true=>simp only[cond_true];have hw:=Z21 hf;rw[hw] at key;exact .inr ⟨_,rfl,key⟩
 .exact .inl rfl
theorem J32(ho:o.op = .convert src dst x)(hx:N0 n x=some y)(z:β)(k:Value->β):
  M9 P (.conv y o) T H z k=z\/∃ v,M9 P (.conv y o) T H z k=k v/\RV P d n nx o T H v:=by
 rcases Z30 (P:=P) (d:=d) (n:=n) (T:=T) (xs:=[y]) (o:=o) (by simp[ho]) (by simp only[ho,Op.operands];intro q hq;simp at hq;subst hq;exact⟨y,by simp,hx⟩) z k with h | ⟨v,h,hp⟩
 .exact .inl h
 .exact .inr ⟨v,h,hp.rv nx H⟩
theorem W30:∀{l:List Value}{bs:List UInt8},R22 l=some bs->l=(bs.map fun b=>(b.toNat:Int)).map (Value.int .u8)
 | [],bs,h=>by cases h;rfl
 | v :: r,bs,h=>by
  unfold R22 at h
  split at h
  .rename_i h0;cases h0
  .rename_i n r' h0
   cases h0
   cases hb:Nat.blt n 256 with
   | false=>rw[hb] at h;cases h
   | true=>
    rw[hb] at h;simp only[cond_true] at h
    split at h
    .rename_i l hl
     cases h
     rw[W30 hl];have hn:n<256:=by simpa using hb
     have e:((UInt8.ofNat n).toNat:Int)=Int.ofNat n:=by
      rw[UInt8.toNat_ofNat'];have:n%2^8=n:=Nat.mod_eq_of_lt (by simpa using hn);rw[this];rfl
     simp only[List.map_cons,e]
    .cases h
  .cases h
theorem D57(bs:List Int):((bs.map (Value.int .u8)).all M4)=true:=by
 rw[List.all_eq_true];intro v hv;obtain⟨b,_,rfl⟩:=List.mem_map.1 hv
 rfl
theorem Y55(bs:List UInt8):(bs.map fun b=>(b.toNat:Int)).foldl (fun r n=>r.push (UInt8.ofNat n.toNat)) ByteArray.empty=⟨⟨bs⟩⟩:=by
 rw[foldl_push_bytes,List.map_map];have:(bs.map ((fun n:Int=>UInt8.ofNat n.toNat) ∘ fun b:UInt8=>(b.toNat:Int)))=bs:=by
  conv=>rhs;rw[<- List.map_id bs]
  exact List.map_congr_left fun b _=>by simp
 rw[this];simp[ByteArray.empty,ByteArray.emptyWithCapacity]
 rfl
theorem G57{e:TypeId}(ho:o.op = .convert src dst x)(hx:N0 n x=some y)(hs:P.underlying src=some (.slice e))(he:P.underlying e=some (.int .u8))(hd:P.underlying dst=some .string)(z:β)(k:Value->β):
  M9 P (.str y) T H z k=z\/∃ v,M9 P (.str y) T H z k=k v/\RV P d n nx o T H v:=by
 show Q53 y T H z k=z\/∃ v,Q53 y T H z k=k v/\_;unfold Q53;rw[G2]
 split
 .rename_i len cap hv
  refine .inr ⟨_,rfl,fun F a w ht hb => ?_⟩;have h3:=evX ht hx;rw[hv] at h3;have h3:=h3.sliceN_inv;refine⟨_,?_,.string _⟩;have:=run_convert_bytes_nil (P:=P) w src e hs he len cap dst hd;simp only[execOp,ho,h3,Sem.run_bind,this,Result.andThen_ok]
  rfl
 .rename_i a len cap hv
  obtain⟨b,off,s⟩:=a;unfold B19
  cases s with
  | some q=>exact .inl rfl
  | none=>
   dsimp only;rw[Y4]
   cases hg:J0 H b with
   | none=>exact .inl rfl
   | some blk=>
    have E:∀ c,blk.row=some c->(match G5 len (c.drop off) with
      | some l=>spine l fun cs=>(match R22 cs with
       | some bs=>k (.string ⟨⟨bs⟩⟩)
       | none=>z)
      | none=>z)=z\/∃ v,(match G5 len (c.drop off) with
      | some l=>spine l fun cs=>(match R22 cs with
       | some bs=>k (.string ⟨⟨bs⟩⟩)
       | none=>z)
      | none=>z)=k v/\RV P d n nx o T H v:=by
     intro c O
     split
     .rename_i l hl
      rw[V2]
      split
      .rename_i bs V
       refine .inr ⟨_,rfl,fun F W w ht hb => ?_⟩;have h3:=evX ht hx;rw[hv] at h3;obtain⟨_,t,c',hF,h3,_⟩:=h3.slice_inv;obtain⟨l',J,U,_⟩:=N36 (P:=P) (hb.get hF hg) O hl;have el:=W30 V;have e2:=J19 U (by rw[el];exact D57 _);refine⟨_,?_,.string _⟩;have Q:(loadCells ⟨t.blk,t.base+off,none⟩ len).run P w = .ok ((bs.map fun b=>(b.toNat:Int)).map (Value.int .u8)).toArray w:=by
        rw[<- el]
        first | rw[<- e2];exact J w rfl | rw[e2];exact J w rfl
       have h4:=run_bytesToString (P:=P) w ⟨t.blk,t.base+off,none⟩ len c' _ Q;rw[Y55] at h4;have h5:=run_convert_bytes_string (P:=P) w src dst e (some ⟨t.blk,t.base+off,none⟩) len c' hs he hd;simp only[execOp,ho,h3,Sem.run_bind,h5,h4,Result.andThen_ok]
       rfl
      .exact .inl rfl
     .exact .inl rfl
    cases blk with
    | map es c=>exact .inl rfl
    | rom c=>exact E c rfl
    | cells c sl=>exact E c rfl
 .exact .inl rfl
end
end Go.Clo

namespace Go.Clo
variable {F:FM} {X1:X} {c' cap off size:Nat} {lo:Bool} {t:J7} {w:World} {x:Operand}
section
variable {β:Type} {P:Program} {d n nx:Nat} {o:Oper} {T:K0 Value} {H:Y0}
theorem W54{c:List Value}{sl:Nat}(hb:BR F t (.cells c sl) w)(hl:N8 (.cells c sl) off cap size=some lo)
  (hc:c'=cap\/(0<t.esz/\cap<=c'/\off+cap*t.esz=t.sz/\t.base+off+c'*t.esz<=t.rsz/\c'<=9223372036854775807)):
  cap<=c'/\(c'≠cap->lo=true/\t.esz=size/\0<size/\off+cap*size=t.sz/\t.base+off+c'*size<=t.rsz/\c'<=9223372036854775807):=by
 obtain⟨c1,e,h1,h2,h3,h4,h5,h6⟩:=hb;rcases hc with rfl | ⟨g1,g2,g3,g4,g5⟩
 .exact⟨Nat.le_refl _,fun h=>absurd rfl h⟩
 .refine⟨g2,fun _ => ?_⟩
  unfold N8 at hl;dsimp only at hl;have E:sl≠0:=by omega
  have:Nat.beq sl 0=false:=by
   cases hq:Nat.beq sl 0 with
   | false=>rfl
   | true=>exact absurd (Nat.eq_of_beq_eq_true hq) E
  rw[this] at hl;simp only[cond_false] at hl
  cases hs:Nat.beq sl size with
  | false=>rw[hs] at hl;cases hl
  | true=>
   rw[hs] at hl;simp only[cond_true,Option.some.injEq] at hl;have he:=Nat.eq_of_beq_eq_true hs;have hz:t.esz=size:=by omega
   rw[hz] at g1 g3 g4;refine⟨?_,hz,g1,g3,g4,g5⟩;rw[<- hl];have:off+cap*size=c.length:=by omega
   simp[this]
theorem J20{blk:C1}(hb:BR F t blk w)(hl:N8 blk off cap size=some lo)
  (hc:c'=cap\/(0<t.esz/\cap<=c'/\off+cap*t.esz=t.sz/\t.base+off+c'*t.esz<=t.rsz/\c'<=9223372036854775807)):
  cap<=c'/\(c'≠cap->lo=true/\t.esz=size/\0<size/\off+cap*size=t.sz/\t.base+off+c'*size<=t.rsz/\c'<=9223372036854775807):=by
 cases blk with
 | cells c sl=>exact W54 hb hl hc
 | map es q=>simp[N8] at hl
 | rom c=>
  obtain⟨c1,e,m,h1,h2,h3,h4,h5,h6⟩:=hb;rcases hc with rfl | ⟨g1,g2,g3,g4,g5⟩
  .exact⟨Nat.le_refl _,fun h=>absurd rfl h⟩
  .omega
theorem U63{t:TypeId}{lo hi mx:Option Operand}{L1 H1 M1:Option X}{e:TypeId}{i:TypeInfo}(ho:o.op = .slice t x lo hi mx)(hx:N0 n x=some X1)
  (Z:B8 n lo=some L1)(a0:B8 n hi=some H1)(a1:B8 n mx=some M1)(hu:P.underlying t=some (.slice e))(V:P.info? e=some i)(z:β)(k:Value->β):
  M9 P (.sl X1 i.size L1 H1 M1) T H z k=z\/∃ v,M9 P (.sl X1 i.size L1 H1 M1) T H z k=k v/\RV P d n nx o T H v:=by
 show rSl X1 i.size L1 H1 M1 T H z k=z\/∃ v,rSl X1 i.size L1 H1 M1 T H z k=k v/\_;unfold rSl;rw[G2,C15,C15,C15]
 split
 .rename_i len cap hv
  split
  .rename_i r hr
   rw[E7];refine .inr ⟨r,rfl,fun F a2 w ht _ => ?_⟩;have h1:=evX ht hx;rw[hv] at h1;have he:=h1.sliceN_inv;obtain⟨m,hh,l,em,eh,el,hr⟩:=B23 hr;obtain⟨J,c1,c2⟩:=Z18 (P:=P) (OV.of ht Z) (OV.of ht a0) (OV.of ht a1) (Nat.le_refl cap) em eh el true w;have hm:(if (M1.map (ev T)).isNone then cap else m)=m:=by
    cases hM:M1.map (ev T) with
    | none=>simp[c1 hM]
    | some _=>simp
   rw[hm] at J;dsimp only at hr;subst hr;refine⟨.slice none (hh-l) (m-l),?_,.sliceN _ _⟩;simp only[execOp,ho,Instr.sliceAt,Instr.slice,Sem.run_bind,run_underlying hu,Result.andThen_ok,he,Sem.run_pure,J,E3 V];simp
  .exact .inl rfl
 .rename_i b o' len cap hv
  rw[Y4]
  cases hg:J0 H b with
  | none=>exact .inl rfl
  | some blk=>
   dsimp only[Option.elim_some];unfold slB
   split
   .rename_i a7 a4
    split
    .rename_i r hr
     rw[E7];refine .inr ⟨r,rfl,fun F a2 w ht hb => ?_⟩;have h1:=evX ht hx;rw[hv] at h1;obtain⟨_,tt,c',hF,he,hc⟩:=h1.slice_inv;obtain⟨m,hh,l,em,eh,el,a9,a3,hr⟩:=B23 hr
     .obtain⟨W,O⟩:=J20 (hb.get hF hg) a4 hc
      obtain⟨J,c1,c2⟩:=Z18 (P:=P) (OV.of ht Z) (OV.of ht a0) (OV.of ht a1) W em eh el true w;subst hr;generalize hM:(if (M1.map (ev T)).isNone then c' else m)=m' at J;refine⟨.slice (some (if m'=l then ⟨tt.blk,tt.base+o',none⟩ else ⟨tt.blk,tt.base+(o'+l*i.size),none⟩)) (hh-l) (m'-l),?_,?_⟩
      .simp only[execOp,ho,Instr.sliceAt,Instr.slice,Sem.run_bind,run_underlying hu,Result.andThen_ok,he,Sem.run_pure,J,E3 V]
       by_cases E:m'=l<;>simp[E,X11,Nat.add_assoc]
      .by_cases Q:m'=m
       .rw[Q]
        by_cases E:m=l
        .simp only[E,if_true];exact .slice hF (.inl rfl)
        .simp only[E,if_false];exact .slice hF (.inl rfl)
       .have U:M1.map (ev T)=none:=by
         cases hq:M1.map (ev T) with
         | none=>rfl
         | some q=>rw[hq] at hM;simp at hM;exact absurd hM.symm Q
        rw[U] at hM;simp at hM;subst hM;have a6:=c1 U;subst a6;obtain⟨q1,q2,q3,q4,q5,q7⟩:=O Q;have a5:c'≠l:=by omega
        simp only[a5,if_false]
        by_cases E:m=l
        .have a8:l=0:=by
          rcases Nat.eq_zero_or_pos l with h0 | h0
          .exact h0
          .exact absurd ⟨q1,U,E,by omega⟩ a3
         subst a8;subst E;simp only[if_true,Nat.zero_mul,Nat.add_zero,Nat.sub_self,Nat.sub_zero];exact .slice hF (.inr ⟨by omega,by omega,by simpa using q4,by rw[q2];exact q5,q7⟩)
        .simp only[E,if_false]
         have e1:o'+l*i.size+(m-l)*i.size=o'+m*i.size:=by
          have:l*i.size+(m-l)*i.size=m*i.size:=by rw[<- Nat.add_mul];congr 1;omega
          omega
         have e2:o'+l*i.size+(c'-l)*i.size=o'+c'*i.size:=by
          have:l*i.size+(c'-l)*i.size=c'*i.size:=by rw[<- Nat.add_mul];congr 1;omega
          omega
         refine .slice hF (.inr ⟨by omega,by omega,by rw[q2,e1];exact q4,?_,by omega⟩);rw[q2];have q6:tt.base+o'+c'*i.size<=tt.rsz:=q5;clear hc q5 q4 O;generalize c'*i.size=A at *
         generalize (c'-l)*i.size=B at *
         generalize l*i.size=D at *
         omega
    .exact .inl rfl
   .exact .inl rfl
 .exact .inl rfl
theorem C26{c:Call}{t:TypeId}{kd:Nat}{dd:TypeDesc}(ho:o.op = .call c)(hc:c.callee = .builtin .len)(V:c.argTypes.toList=[t])(ha:c.args.toList=[x])(hx:N0 n x=some X1)
  (hu:P.underlying t=some dd)(Q:(kd=0/\∃ e,dd = .slice e)\/(kd=1/\dd = .string)\/(kd=2/\∃ a b,dd = .map a b))(z:β)(k:Value->β):
  M9 P (.len X1 kd) T H z k=z\/∃ v,M9 P (.len X1 kd) T H z k=k v/\RV P d n nx o T H v:=by
 have Z:c.argTypes = #[t]:=Array.toList_inj.1 (by simpa using V);have U:c.args = #[x]:=Array.toList_inj.1 (by simpa using ha);have E:∀(a:Act) (w:World),(execOp a.eval o).run P w=((Builtin.len_ #[t] o.type #[a.eval x]).run P w).andThen fun v w => .ok (.value v) w:=by
  intro a w;simp[execOp,ho,resolve,hc,invoke,builtin,Z,U]
 have O:x ∈ o.op.operands:=by rw[ho];simp[Op.operands,Call.operands,hc,U]
 show U53 X1 kd T H z k=z\/∃ v,U53 X1 kd T H z k=k v/\_;unfold U53;rw[G2]
 split
 .rename_i a nn c' hv
  refine .inr ⟨_,rfl,fun F J w ht _ => ?_⟩;obtain⟨e,rfl⟩:∃ e,dd = .slice e:=by rcases Q with ⟨_,h⟩ | ⟨h,_⟩ | ⟨h,_⟩<;>first | exact h | cases h
  have h1:=evX ht hx O;rw[hv] at h1;generalize hq:J.eval x=q at h1;refine⟨.int .i64 (.ofNat nn),?_,.int _ _⟩;rw[E,hq]
  cases h1<;>simp[Builtin.len_,run_underlying hu,goInt]
 .rename_i s hv
  rw[G1];refine .inr ⟨_,rfl,fun F J w ht _ => ?_⟩;obtain rfl:dd = .string:=by rcases Q with ⟨h,_⟩ | ⟨_,h⟩ | ⟨h,_⟩<;>first | exact h | cases h
  have h1:=evX ht hx O;rw[hv] at h1;generalize hq:J.eval x=q at h1;refine⟨.int .i64 (.ofNat s.size),?_,.int _ _⟩;rw[E,hq]
  cases h1;simp[Builtin.len_,run_underlying hu,goInt]
 .rename_i hv
  refine .inr ⟨_,rfl,fun F J w ht _ => ?_⟩;obtain⟨a,b,rfl⟩:∃ a b,dd = .map a b:=by rcases Q with ⟨h,_⟩ | ⟨h,_⟩ | ⟨_,h⟩<;>first | exact h | cases h
  have h1:=evX ht hx O;rw[hv] at h1;generalize hq:J.eval x=q at h1;refine⟨.int .i64 (.ofNat 0),?_,.int _ _⟩;rw[E,hq]
  cases h1;simp[Builtin.len_,run_underlying hu,goInt]
 .rename_i r hv
  rw[Y4]
  cases hg:J0 H r with
  | none=>exact .inl rfl
  | some blk=>
   dsimp only[Option.elim_some]
   split
   .rename_i l cl
    rw[G1];refine .inr ⟨_,rfl,fun F J w ht hb => ?_⟩;obtain⟨a,b,rfl⟩:∃ a b,dd = .map a b:=by rcases Q with ⟨h,_⟩ | ⟨h,_⟩ | ⟨_,h⟩<;>first | exact h | cases h
    have h1:=evX ht hx O;rw[hv] at h1;generalize hq:J.eval x=q at h1
    cases h1 with
    | map hF=>
     obtain⟨_,es',hw,W⟩:=hb.get hF hg;refine⟨.int .i64 (.ofNat l.length),?_,.int _ _⟩;rw[E,hq];have:=W.length;simp[Builtin.len_,run_underlying hu,goInt,M7 hw,this]
   .exact .inl rfl
 .exact .inl rfl
theorem U34{i:IR}(hI:W18 P n o=some (.r i))(z:β)(k:Value->β):
  M9 P i T H z k=z\/∃ v,M9 P i T H z k=k v/\RV P d n nx o T H v:=by
 have h:=(E20 hI).resolve_right (by simp);clear hI;unfold G19 at h
 split at h
 case h_13=>
  rename_i t x lo hi mx ho
  split at h
  .rename_i h1 h2 h3 h4 h5
   split at h
   .rename_i E;cases h;exact U63 ho h1 h2 h3 h4 h5 E z k
   .cases h
  .split at h<;>cases h
  .cases h
  .cases h
 case h_16=>
  rename_i t x ho
  split at h
  .rename_i h1 h2;cases h;exact N62 ho h1 h2 z k
  .cases h
 case h_17=>
  rename_i t x ix ok ho
  split at h
  .rename_i h1 h2 h3
   split at h
   .rename_i h4 h5
    split at h
    .rename_i zz h6
     cases hf:X7 zz with
     | false=>rw[hf] at h;cases h
     | true=>rw[hf] at h;cases h;exact Q63 ho h1 h2 h3 h4 h5 h6 hf z k
    .cases h
   .cases h
  .cases h
 case h_18=>
  rename_i src dst x ho
  split at h
  .rename_i h1 h2 h3;cases h;exact M48 ho h1 h3 h2 z k
  .rename_i h1 h2 h3
   split at h
   .rename_i h4;cases h;exact G57 ho h1 h2 h4 h3 z k
   .cases h;exact J32 ho h1 z k
  .cases h;exact J32 ho ‹_› z k
  .cases h
 case h_26=>
  rename_i c ho
  split at h
  case h_4=>
   rename_i hc
   split at h
   .rename_i t x h1 h2
    split at h
    .cases h;rename_i g1 g2;exact C26 ho hc h1 h2 g1 g2 (.inl ⟨rfl,_,rfl⟩) z k
    .cases h;rename_i g1 g2;exact C26 ho hc h1 h2 g1 g2 (.inr (.inl ⟨rfl,rfl⟩)) z k
    .cases h;rename_i g1 g2;exact C26 ho hc h1 h2 g1 g2 (.inr (.inr ⟨rfl,_,_,rfl⟩)) z k
    .cases h
   .cases h
  all_goals first
   | (cases h;done)
   | (split at h<;>cases h;done)
   | (repeat' (first | (cases h;done) | split at h))
   | skip
  all_goals first
   | (rw[Bool.cond_eq_ite] at h;split at h<;>cases h;done)
   | (rw[Option.map_eq_some_iff] at h;obtain⟨_,_,h⟩:=h;cases h;done)
 all_goals first
  | (cases h;done)
  | (split at h<;>cases h;done)
  | (repeat' (first | (cases h;done) | split at h))
  | skip
 all_goals first
  | (rw[Bool.cond_eq_ite] at h;split at h<;>cases h;done)
  | (rw[Option.map_eq_some_iff] at h;obtain⟨_,_,h⟩:=h;cases h;done)
end
end Go.Clo

namespace Go.Clo
variable {P:Program}
def Q0.real(q:Nat):Q0->Value
 | .ptr => .pointer (some ⟨q,0,none⟩)
 | .slice l c => .slice (some ⟨q,0,none⟩) l c
 | .map => .map (some q)
def W55(F:FM)(b:C1)(E:Obj):Prop:=
 match b with
 | .cells c sl=>sl=0/\∃ c' e,E = .cells c' e (0,0)/\VL F c c'.toList
 | .map es k=>es=[]/\E = .map #[] k
 | .rom _=>False
def AV(P:Program)(d n:Nat)(o:Oper)(T:K0 Value)(b:C1)(y:Q0):Prop:=
 ∀(F:FM) (a:Act) (w:World),OR n o F T a->∃ E,(execOp a.eval o).run P w = .ok (.value (y.real w.heap.size)) (w.alloc E)/\W55 F b E
theorem G33{z:List Value}(hz:0<z.length):∀(len i:Nat),(U3 z len)[i]? = if i<len*z.length then z[i%z.length]? else none
 | 0,i=>by simp[U3]
 | len+1,i=>by
  simp only[U3];rw[List.getElem?_append]
  by_cases h:i<z.length
  .have:i<(len+1)*z.length:=by rw[Nat.add_mul];omega
   simp[h,this,Nat.mod_eq_of_lt h]
  .have hm:(i-z.length)%z.length=i%z.length:=(Nat.mod_eq_sub_mod (by omega)).symm
   rw[G33 hz len (i-z.length)];have:(i-z.length<len*z.length)<->(i<(len+1)*z.length):=by rw[Nat.add_mul];omega
   simp[h,this,hm]
theorem B16(z:Array Value)(len:Nat):((Array.range (len*z.size)).map (fun i=>z[i%z.size]!)).toList=U3 z.toList len:=by
 rcases Nat.eq_zero_or_pos z.size with h0 | h0
 .have:z = #[]:=Array.eq_empty_of_size_eq_zero h0
  subst this;have:∀ len,U3 ([]:List Value) len=[]:=by
   intro len;induction len with
   | zero=>rfl
   | succ n ih=>simp[U3,ih]
  simp[this]
 .apply List.ext_getElem?
  intro i;rw[G33 (by simpa using h0)]
  by_cases hi:i<len*z.size
  .have hm:i%z.size<z.size:=Nat.mod_lt _ h0
   simp[hi,hm,getElem!_pos]
  .simp[hi]
theorem VL.repeat{F:FM}{z z':List Value}(h:VL F z z'):∀ n,VL F (U3 z n) (U3 z' n)
 | 0 => .nil
 | n+1=>h.append (h.repeat n)
theorem W12(e:TypeId)(cells:Array Value)(w:World):(newRow e cells).run P w = .ok ⟨w.heap.size,0,none⟩ (w.alloc (.cells cells e (0,0))):=by
 simp[newRow,newObj,Sem.run]
theorem D29(e:TypeId)(v:Value)(w:World):(newVar e v).run P w = .ok ⟨w.heap.size,0,none⟩ (w.alloc (.cells v.cells e (0,0))):=W12 e v.cells w
theorem E19{t:TypeId}{i:TypeInfo}{v:Value}(hi:P.info? t=some i)(hz:i.zero=some v)(w:World):(zeroValue t).run P w = .ok v w:=by
 simp[zeroValue,K8 hi,hz]
section
variable {β:Type} {P:Program} {d n:Nat} {o:Oper} {T:K0 Value}
theorem W57{i:IA}(hI:W18 P n o=some (.a i))(z:β)(k:C1->Q0->β):
  evA i T z k=z\/∃ b y,evA i T z k=k b y/\AV P d n o T b y:=by
 have h:=(E20 hI).resolve_right (by simp);clear hI;unfold G19 at h
 split at h
 case h_19=>
  rename_i e ho
  cases hz:M10 P e with
  | none=>rw[hz] at h;cases h
  | some zero=>
   rw[hz] at h;cases h;obtain⟨it,v,J,U,rfl,Q,Z,O⟩:=X14 hz;simp only[evA];rw[V2];refine .inr ⟨_,_,rfl,fun F a w ht=>⟨.cells v.cells e (0,0),?_,rfl,_,_,rfl,X12 Q F⟩⟩;simp[execOp,ho,Instr.alloc,E19 J U,D29,Q0.real]
 case h_20=>
  rename_i e x ho
  cases hx:N0 n x with
  | none=>rw[hx] at h;cases h
  | some y=>
   rw[hx] at h;cases h;simp only[evA];rw[G2]
   cases a5:Z0 (ev T y).cells.toList with
   | false=>exact .inl rfl
   | true=>
    dsimp only[cond_true];rw[V2];refine .inr ⟨_,_,rfl,fun F a w ht=>⟨.cells (a.eval x).cells e (0,0),?_,rfl,_,_,rfl,(evX ht hx).cells (G28 a5)⟩⟩;simp[execOp,ho,Instr.box,D29,Q0.real]
 case h_21=>
  rename_i t len parts ho
  split at h
  .rename_i e ps hu a7
   split at h
   .rename_i zero inf hz hi
    cases hb:Nat.ble (len*inf.size) 16777216 with
    | false=>rw[hb] at h;cases h
    | true=>
     rw[hb] at h;cases h;obtain⟨it,v,J,U,rfl,Q,Z,O⟩:=X14 hz;rw[hi] at J;cases J;simp only[evA];rw[J45]
     split
     .rename_i cs hf
      cases a5:Z0 cs with
      | false=>exact .inl rfl
      | true=>
       dsimp only[cond_true];rw[V2];refine .inr ⟨_,_,rfl,fun F a w ht => ?_⟩;have ad:len*inf.size<=16777216:=Nat.le_of_ble_eq_true hb;have V:v.cells.size=inf.size:=by simpa using O
       have E:∃ zz:Array Value,((len*inf.size=0/\zz = #[])\/(len*inf.size≠0/\zz=v.cells)) /\
         ((Array.range (len*inf.size)).map (fun i=>zz[i%zz.size]!)).toList=U3 v.cells.toList len:=by
        by_cases h0:len*inf.size=0
        .refine⟨#[],.inl ⟨h0,rfl⟩,?_⟩
         rw[h0];have:=B16 v.cells len;rw[V,h0] at this;simp at this ⊢;exact this
        .refine⟨v.cells,.inr ⟨h0,rfl⟩,?_⟩
         rw[<- V];exact B16 v.cells len
       obtain⟨zz,a0,W⟩:=E;obtain⟨r',hr,hl⟩:=B24 (pl':=fun k=>some (k*inf.size,inf.size)) (fun i p h=>h) (G62 ht a7 (by rw[ho];intro p hp;simp only[Op.operands];exact Array.mem_def.2 (by simp;exact⟨p.1,by simpa using hp⟩))) (cells':=(Array.range (len*inf.size)).map (fun i=>zz[i%zz.size]!))
        (by rw[W];exact(X12 Q F).repeat len) hf
       refine⟨.cells r' e (0,0),?_,rfl,_,_,rfl,hl⟩;have a3:¬ (len*inf.size > 2^24):=by simp;omega
       have a4:Instr.fill (fun i=>some (i*inf.size,inf.size)) ((Array.range (len*inf.size)).map (fun i=>zz[i%zz.size]!)) (parts.map fun(i,x)=>(i,a.eval x)).toList=some r':=by
        rw[X27];exact hr
       rcases a0 with ⟨h0,rfl⟩ | ⟨h0,rfl⟩
       .simp only[execOp,ho,Instr.buildSlice,Sem.run_bind,run_underlying hu,Result.andThen_ok,E3 hi,a3,if_false,Sem.run_pure]
        rw[if_pos h0];simp only[Sem.run_bind,Sem.run_pure,Result.andThen_ok,a4,W12,Q0.real]
       .simp only[execOp,ho,Instr.buildSlice,Sem.run_bind,run_underlying hu,Result.andThen_ok,E3 hi,a3,if_false,Sem.run_pure]
        rw[if_neg h0];simp only[Sem.run_bind,E19 hi U,Sem.run_pure,Result.andThen_ok,a4,W12,Q0.real]
     .exact .inl rfl
   .cases h
  .cases h
 case h_22=>
  rename_i t l c ho
  split at h
  .rename_i l1 c1 e ac a8 hu
   split at h
   .rename_i zero inf hz hi
    cases hb:Nat.ble inf.bytes 100000 with
    | false=>rw[hb] at h;cases h
    | true=>
     rw[hb] at h;cases h;obtain⟨it,v,J,U,rfl,Q,Z,O⟩:=X14 hz;rw[hi] at J;cases J;simp only[evA];rw[G2,G2]
     split
     .rename_i lv cv ab a9
      cases a2:(Nat.ble lv cv&&Nat.ble cv 1000000) with
      | false=>exact .inl rfl
      | true=>
       dsimp only[cond_true];rw[V2];refine .inr ⟨_,_,rfl,fun F a w ht => ?_⟩;simp only[Bool.and_eq_true,Nat.ble_eq] at a2;obtain⟨g1,g2⟩:=a2;have a6:inf.bytes<=100000:=Nat.le_of_ble_eq_true hb;have e1:=evX ht ac;have e2:=evX ht a8;rw[ab] at e1;rw[a9] at e2;have e1:=e1.int_inv;have e2:=e2.int_inv;have w1:IntKind.i64.wrap (Int.ofNat lv)=(lv:Int):=IntWalk.i64_in _ (by simp;omega);have w2:IntKind.i64.wrap (Int.ofNat cv)=(cv:Int):=IntWalk.i64_in _ (by simp;omega);have V:v.cells.size=inf.size:=by simpa using O
       have E:∃ zz:Array Value,((cv*inf.size=0/\zz = #[])\/(cv*inf.size≠0/\zz=v.cells)) /\
         ((Array.range (cv*inf.size)).map (fun i=>zz[i%zz.size]!)).toList=U3 v.cells.toList cv:=by
        by_cases h0:cv*inf.size=0
        .refine⟨#[],.inl ⟨h0,rfl⟩,?_⟩
         rw[h0];have:=B16 v.cells cv;rw[V,h0] at this;simp at this ⊢;exact this
        .refine⟨v.cells,.inr ⟨h0,rfl⟩,?_⟩
         rw[<- V];exact B16 v.cells cv
       obtain⟨zz,a0,W⟩:=E;refine⟨.cells ((Array.range (cv*inf.size)).map (fun i=>zz[i%zz.size]!)) e (0,0),?_,rfl,_,_,rfl,by rw[W];exact(X12 Q F).repeat cv⟩;have aa:inf.bytes*cv<=100000000000:=Nat.le_trans (Nat.mul_le_mul a6 g2) (by decide);have t1:(decide ((cv:Int)<0) || decide ((inf.bytes:Int)*(cv:Int) > 2^48))=false:=by
        have hp:(inf.bytes:Int)*(cv:Int)<=100000000000:=by omega
        have hq:(2:Int)^48=281474976710656:=by decide
        rw[hq,decide_eq_false (by omega),decide_eq_false (by omega)]
        rfl
       have t2:¬ (lv:Int)<0:=by omega
       have t3:¬ (lv:Int) > (cv:Int):=by omega
       have a1:(askRoom (cv*inf.bytes)).run P w = .ok () w:=by
        have:¬ cv*inf.bytes > roomBytes:=by
         have:cv*inf.bytes=inf.bytes*cv:=Nat.mul_comm _ _;simp only[roomBytes];omega
        simp[askRoom,this]
       simp only[execOp,ho,Instr.makeSlice,Sem.run_bind,run_underlying hu,Result.andThen_ok,e1,e2,asInt,asIntOf,Sem.run_pure,K8 hi,w1,w2];simp only[t1,Bool.false_or,t2,t3,decide_false,Bool.or_false,Bool.false_eq_true,if_false,Sem.run_bind,Int.toNat_natCast,a1,Result.andThen_ok,E3 hi];rcases a0 with ⟨h0,rfl⟩ | ⟨h0,rfl⟩
       .rw[if_pos h0]
        simp only[Sem.run_bind,Sem.run_pure,Result.andThen_ok,W12,Q0.real]
       .rw[if_neg h0]
        simp only[Sem.run_bind,E19 hi U,Sem.run_pure,Result.andThen_ok,W12,Q0.real]
     .exact .inl rfl
   .cases h
  .cases h
 case h_23=>
  rename_i t r ho
  split at h
  .rename_i r1 mk mv hr hu
   cases h
   simp only[evA];rw[C15]
   split
   .rename_i hv
    refine .inr ⟨_,_,rfl,fun F a w ht=>⟨.map #[] 0,?_,rfl,rfl⟩⟩;rcases OV.of ht hr with ⟨_,h2⟩ | ⟨_,_,h2,_⟩
    .simp[execOp,ho,h2,Instr.makeMap,newObj,Sem.run,Q0.real]
    .rw[hv] at h2;cases h2
   .rename_i kk q hv
    refine .inr ⟨_,_,rfl,fun F a w ht=>⟨.map #[] 0,?_,rfl,rfl⟩⟩;rcases OV.of ht hr with ⟨h1,_⟩ | ⟨v1,v2,h1,h2,h3⟩
    .rw[hv] at h1;cases h1
    .rw[hv] at h1;cases h1
     have h3:=h3.int_inv;subst h3;simp[execOp,ho,h2,Instr.makeMap,run_underlying hu,asInt,asIntOf,newObj,Sem.run,Q0.real]
   .exact .inl rfl
  .cases h
 all_goals first
  | (cases h;done)
  | (split at h<;>cases h;done)
  | (repeat' (first | (cases h;done) | split at h))
  | skip
 all_goals first
  | (rw[Bool.cond_eq_ite] at h;split at h<;>cases h;done)
  | (rw[Option.map_eq_some_iff] at h;obtain⟨_,_,h⟩:=h;cases h;done)
end
end Go.Clo
