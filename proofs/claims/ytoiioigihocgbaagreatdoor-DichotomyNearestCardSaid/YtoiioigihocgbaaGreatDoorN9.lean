/-
  The closed executor: the order that a region's edges leave open.
  The closed executor: heaps with blocks beside.
  The closed executor: a region's run in the order of the text,as a record.
  The closed executor: a region's operations in whatever order: the state.
-/
import Derived.Test.YtoiioigihocgbaaGreatDoorN8
set_option linter.all false
noncomputable section
namespace Go.Clo
variable {i:Nat} {listed:Array Bool} {ops:List Oper}
theorem V40{β:Type}:∀(ops:List Oper) (acc:List Nat) (f:List Nat->β),∃ ml,D26 acc ops f=f (acc++ml)/\ml.length=ops.length /\
  ∀ i o,ops[i]? = some o->ml[i]? = some (Q1 (acc++ml.take i) o.after.toList 0)
 | [],acc,f=>⟨[],by simp[D26],rfl,fun i o h=>by simp at h⟩
 | o :: ops,acc,f=>by
  obtain⟨ml,h1,h2,h3⟩:=V40 ops (acc++[Q1 acc o.after.toList 0]) f;refine⟨Q1 acc o.after.toList 0 :: ml,by simp[D26,G1,h1],by simp[h2],fun i o' hi => ?_⟩
  cases i with
  | zero=>simp at hi;subst hi;simp
  | succ i=>simpa using h3 i o' (by simpa using hi)
theorem Z55(ops:List Oper):(U1 ops).length=ops.length/\∀ i o,ops[i]? = some o->(U1 ops)[i]? = some (Q1 ((U1 ops).take i) o.after.toList 0):=by
 obtain⟨ml,h1,h2,h3⟩:=V40 ops [] id;have:U1 ops=ml:=by unfold U1;rw[h1];simp
 rw[this];exact⟨h2,fun i o hi=>by simpa using h3 i o hi⟩
theorem C2:∀(es:List Edge)(acc:List Nat)(m j:Nat),(Q1 acc es m).testBit j=true->m.testBit j=true\/∃ e ∈ es,Region.binds .any e=true/\(e.on=j\/∃ x,acc[e.on]? = some x/\x.testBit j=true)
 | [],acc,m,j,h => .inl h
 | e :: es,acc,m,j,h=>by
  simp only[Q1] at h
  cases hb:Region.binds .any e with
  | false=>
   rw[hb] at h;rcases C2 es acc m j h with h | ⟨e',he',hx⟩
   .exact .inl h
   .exact .inr ⟨e',by simp[he'],hx⟩
  | true=>
   rw[hb] at h;rcases C2 es acc _ j h with h | ⟨e',he',hx⟩
   .simp only[Nat.testBit_or,Bool.or_eq_true] at h
    rcases h with (h | h) | h
    .exact .inl h
    .rw[Nat.testBit_two_pow] at h
     exact .inr ⟨e,by simp,hb,.inl (by simpa using h)⟩
    .refine .inr ⟨e,by simp,hb,.inr ?_⟩
     rw[Q8] at h
     cases hx:acc[e.on]? with
     | none=>rw[hx] at h;simp at h
     | some x=>rw[hx] at h;exact⟨x,rfl,h⟩
   .exact .inr ⟨e',by simp[he'],hx⟩
theorem G46{j:Nat}(h:D2 (U1 ops) i j=true):
  ∃ o e,ops[i]? = some o/\e ∈ o.after/\Region.binds .any e=true/\(e.on=j\/(e.on<i/\D2 (U1 ops) e.on j=true)):=by
 obtain⟨h1,h2⟩:=Z55 ops;unfold D2 at h;rw[Q8] at h
 cases hm:(U1 ops)[i]? with
 | none=>rw[hm] at h;cases h
 | some m=>
  rw[hm] at h;dsimp only at h;have hi:i<ops.length:=by
   rcases Nat.lt_or_ge i ops.length with g | g
   .exact g
   .simp[h1,g] at hm
  have ho:ops[i]? = some ops[i]:=by simp[hi]
  have:=h2 i _ ho;rw[hm] at this
  cases this
  rcases C2 _ _ _ _ h with h | ⟨e,he,hb,hx⟩
  .simp at h
  .refine⟨ops[i],e,ho,by simpa using he,hb,?_⟩
   rcases hx with hx | ⟨x,hx,hxb⟩
   .exact .inl hx
   .have E:e.on<i:=by
     rcases Nat.lt_or_ge e.on i with g | g
     .exact g
     .simp[List.getElem?_take,Nat.not_lt.2 g] at hx
    refine .inr ⟨E,?_⟩;simp[E] at hx;unfold D2;rw[Q8,hx];exact hxb
structure R12 (ops:List Oper) (i:Nat) (o:Oper):Prop where
 one:∀ j oj d,ops[j]? = some oj->oj.dst=some d->i≠j->o.dst≠some d/\(d ∈ J17 ops o->D2 (U1 ops) i j=true\/D2 (U1 ops) j i=true)
 self:∀ d,o.dst=some d->d ∉ J17 ops o
 edge:∀ e ∈ o.after,Region.binds .any e=true->e.on<i
theorem D28{ops:List Oper}:∀(suf:List Oper) (i0:Nat),E13 (U1 ops) ops suf i0=true->∀ k o,suf[k]? = some o->R12 ops (i0+k) o
 | [],i0,_,k,o,hk=>by simp at hk
 | o :: suf,i0,h,k,o',hk=>by
  simp only[E13,Bool.and_eq_true] at h;obtain⟨⟨⟨⟨h1,h2⟩,h3⟩,h4⟩,h5⟩:=h
  cases k with
  | succ k=>
   have:=D28 suf (i0+1) h5 k o' (by simpa using hk);rwa [show i0+1+k=i0+(k+1) by omega] at this
  | zero=>
   simp at hk;subst hk;refine⟨fun j oj d hj hd E => ?_,fun d hd => ?_,fun e he hb => ?_⟩
   .rw[List.all_eq_true] at h1
    have:=h1 (oj,j) (by
     rw[List.mem_iff_getElem?];exact⟨j,by simp[List.getElem?_zipIdx,hj]⟩)
    simp only[hd,Bool.or_eq_true,Bool.and_eq_true] at this;rcases this with this | ⟨g1,g2⟩
    .exact absurd (Nat.eq_of_beq_eq_true this) E
    .refine⟨fun e => ?_,fun hm => ?_⟩
     .rw[e] at g1;simp at g1
     .rcases g2 with (g2 | g2) | g2
      .simp[hm] at g2
      .exact .inl g2
      .exact .inr g2
   .rw[hd] at h3
    simpa using h3
   .rw[List.all_eq_true] at h4
    have:=h4 e (by simpa using he);simp[hb] at this;simpa using this
theorem V36(J:∀ i o,ops[i]? = some o->R12 ops i o):∀(i j:Nat),D2 (U1 ops) i j=true->j<i:=by
 intro i
 induction i using Nat.strongRecOn with
 | _ i ih=>
  intro j h;obtain⟨o,e,ho,he,hb,hx⟩:=G46 h;have E:=(J i o ho).edge e he hb;rcases hx with rfl | ⟨_,hx⟩
  .exact E
  .have:=ih e.on E j hx
   omega
def J61(ops:List Oper)(D:Nat->Bool):Prop:=∀ i o,ops[i]? = some o->D i=true->∀ e ∈ o.after,Region.binds .any e=true->D e.on=true
theorem Y33(J:∀ i o,ops[i]? = some o->R12 ops i o){D:Nat->Bool}(hc:J61 ops D):∀(i j:Nat),(∀ o,ops[i]? = some o->∀ e ∈ o.after,Region.binds .any e=true->D e.on=true)->D2 (U1 ops) i j=true->D j=true:=by
 intro i
 induction i using Nat.strongRecOn with
 | _ i ih=>
  intro j hd h;obtain⟨o,e,ho,he,hb,hx⟩:=G46 h;have O:=(J i o ho).edge e he hb;have hl:=hd o ho e he hb;rcases hx with rfl | ⟨_,hx⟩
  .exact hl
  .exact ih e.on O j (fun o' E e' U Q=>hc e.on o' E hl e' U Q) hx
theorem K35{ops:Array Oper}(h:i ∈ Region.ready .any ops listed):i<ops.size/\listed.getD i true=false/\∀ o,ops[i]? = some o->∀ e ∈ o.after,Region.binds .any e=true->listed.getD e.on false=true:=by
 simp only[Region.ready,List.mem_filter,List.mem_range,Bool.and_eq_true,Bool.not_eq_true'] at h;obtain⟨h1,h2,h3⟩:=h;refine⟨h1,h2,fun o ho e he hb => ?_⟩;rw[ho] at h3;simp only[Option.map_some,Option.getD_some,Array.all_eq_true_iff_forall_mem] at h3;have:=h3 e he;simpa [hb] using this
theorem N54{ops:Array Oper}(hs:listed.size=ops.size)(J:∀ i o,ops[i]? = some o->∀ e ∈ o.after,Region.binds .any e=true->e.on<i)(h:Region.ready .any ops listed=[]):∀ i,i<ops.size->listed.getD i false=true:=by
 intro i
 induction i using Nat.strongRecOn with
 | _ i ih=>
  intro hi
  cases hl:listed.getD i false with
  | true=>rfl
  | false=>
   exfalso;have E:i ∈ Region.ready .any ops listed:=by
    simp only[Region.ready,List.mem_filter,List.mem_range,Bool.and_eq_true,Bool.not_eq_true'];refine⟨hi,?_,?_⟩
    .have Q:i<listed.size:=by omega
     simp[Q] at hl ⊢;exact hl
    .have ho:ops[i]? = some ops[i]:=by simp[hi]
     rw[ho];simp only[Option.map_some,Option.getD_some,Array.all_eq_true_iff_forall_mem];intro e he
     cases hb:Region.binds .any e with
     | false=>rfl
     | true=>
      have O:=J i _ ho e he hb;have:=ih e.on O (by omega);rw[this];rfl
   rw[h] at E
   cases E
end Go.Clo

namespace Go.Clo
variable {F:FM} {nx:Nat} {w:World}
theorem HR.sub{H H':Y0}(hr:HR F H nx w)(hs:∀ i b,J0 H' i=some b->J0 H i=some b):HR F H' nx w:=
 ⟨fun i b hi hg=>hr.blk i b hi (hs i b hg),fun i j bi bj ti tj hi hj gi gj=>hr.inj i j bi bj ti tj hi hj (hs i bi gi) (hs j bj gj),hr.fresh,fun i hi=>by
  cases hg:J0 H' i with
  | none=>rfl
  | some b=>exact absurd (hs i b hg) (by rw[hr.top i hi];simp),hr.gl.step (fun _ _ _=>rfl) (fun b ⟨i,k,t,hi,hg,E,hF,e⟩ => .inl ⟨i,k,t,hi,hs i k hg,E,hF,e⟩)⟩
theorem N2.beside{X J:Y0}{F':FM}{a1:Y0}{nx':Nat}{w':World}(hr:HR F X nx w)(Q:∀ i b,i<nx->J0 J i=some b->J0 X i=some b)
  (E:N2 F J nx w F' a1 nx' w'){X':Y0}
  (hX:∀ i,J0 X' i=if i<nx/\J0 J i=none/\(J0 X i).isSome=true then J0 X i else J0 a1 i):
  N2 F X nx w F' X' nx' w':=by
 have a2:∀ b,Own F J nx b->Own F X nx b:=by
  rintro b ⟨i,k,t,hi,hg,a0,hF,e⟩;exact⟨i,k,t,hi,Q i k hi hg,a0,hF,e⟩
 have V:∀ i b,i<nx->J0 J i=none->J0 X i=some b->∃ t,F i=some t/\F' i=some t/\t.blk<w.heap.size/\¬ Own F J nx t.blk/\BR F' t b w':=by
  intro i b hi hn hg;obtain⟨t,hF,hb⟩:=hr.blk i b hi hg;have O:¬ Own F J nx t.blk:=by
   rintro⟨j,k,u,hj,a4,a0,ae,e⟩;rcases hr.inj j i k b u t hj hi (Q j k hj a4) hg ae hF e with this | this
   .subst this
    rw[hn] at a4;cases a4
   .rw[a0] at this;cases this.1
  have Z:F' i=some t:=by rw[E.ext i hi];exact hF
  refine⟨t,hF,Z,hb.lt,O,hb.mono (fun q u hq => ?_) (E.frame _ hb.lt O)⟩;rcases Nat.lt_or_ge q nx with g | g
  .rw[E.ext q g];exact hq
  .rw[hr.fresh q g] at hq;cases hq
 have a3:∀ b,Own F' X' nx' b->Own F X nx b\/w.heap.size<=b:=by
  rintro b ⟨i,k,t,hi,hg,a0,hF,rfl⟩;rw[hX i] at hg
  split at hg
  .rename_i hc
   obtain⟨h1,h2,_⟩:=hc;obtain⟨t',aa,Z,_⟩:=V i k h1 h2 hg;rw[Z] at hF;cases hF;exact .inl ⟨i,k,t,h1,hg,a0,aa,rfl⟩
  .exact(E.own _ ⟨i,k,t,hi,hg,a0,hF,rfl⟩).imp (a2 _) id
 refine⟨E.le,E.ext,E.os,E.tape,E.output,E.size,fun b hb O=>E.frame b hb (fun h=>O (a2 b h)),a3,?_,?_,?_⟩
 .intro i hi hn
  have ad:J0 J i=none:=by
   cases hg:J0 J i with
   | none=>rfl
   | some b=>rw[Q i b hi hg] at hn;cases hn
  rw[hX i,if_neg (by simp[hn])];exact E.keep i hi ad
 .intro i b hg ac
  rw[hX i] at hg
  split at hg
  .rename_i hc;exact⟨hc.1,hg⟩
  .obtain⟨h1,h2⟩:=E.rom i b hg ac
   exact⟨h1,Q i b h1 h2⟩
 .refine⟨?_,?_,E.hr.fresh,fun i hi=>by rw[hX i,if_neg (by have:=E.le;omega)];exact E.hr.top i hi,hr.gl.step (fun b hb O=>E.frame b hb (fun h=>O (a2 b h))) a3⟩
  .intro i b hi hg
   rw[hX i] at hg
   split at hg
   .rename_i hc
    obtain⟨t,_,Z,_,_,hb⟩:=V i b hc.1 hc.2.1 hg;exact⟨t,Z,hb⟩
   .exact E.hr.blk i b hi hg
  ·
   have a7:∀ i j bi bj ti tj,i<nx->j<nx'->J0 J i=none->J0 X i=some bi->J0 a1 j=some bj->F' i=some ti->F' j=some tj->ti.blk=tj.blk->¬ (j<nx/\J0 J j=none/\(J0 X j).isSome=true)->bi.isRom=true/\bj.isRom=true:=by
    intro i j bi bj ti tj hi hj hn gi gj fi fj e U;obtain⟨t,hF,Z,ag,O,_⟩:=V i bi hi hn gi;rw[Z] at fi;cases fi;have a6:bj.isRom=true:=by
     cases a9:bj.isRom with
     | true=>rfl
     | false=>
      exfalso;rcases E.own tj.blk ⟨j,bj,tj,hj,gj,a9,fj,rfl⟩ with h | h
      .rw[<- e] at h;exact O h
      .omega
    refine⟨?_,a6⟩
    cases ab:bi.isRom with
    | true=>rfl
    | false=>
     exfalso;obtain⟨h1,h2⟩:=E.rom j bj gj a6;have a5:F j=some tj:=by rw[<- E.ext j h1];exact fj
     rcases hr.inj i j bi bj _ tj hi h1 gi (Q j bj h1 h2) hF a5 e with h | h
     .subst h;rw[hn] at h2;cases h2
     .rw[ab] at h;cases h.1
   intro i j bi bj ti tj hi hj gi gj fi fj e;rw[hX i] at gi;rw[hX j] at gj
   split at gi<;>split at gj
   .rename_i W U
    have a8:F i=some ti:=by rw[<- E.ext i W.1];exact fi
    have a5:F j=some tj:=by rw[<- E.ext j U.1];exact fj
    exact hr.inj i j bi bj ti tj W.1 U.1 gi gj a8 a5 e
   .rename_i W U
    exact .inr (a7 i j bi bj ti tj W.1 hj W.2.1 gi gj fi fj e U)
   .rename_i W U
    exact .inr (a7 j i bj bi tj ti U.1 hi U.2.1 gj gi fj fi e.symm W).symm
   .exact E.hr.inj i j bi bj ti tj hi hj gi gj fi fj e
theorem N2.addAt{F0:FM}{H0:Y0}{N:Nat}{w0:World}{X:Y0}(J:N2 F0 H0 N w0 F X nx w){q:Nat}(hq:q<nx)(hN:N<=q)(hF:F q=none){b:C1}{Q:Obj}(hn:W55 F b Q):
  ∃ t,t.blk=w.heap.size/\t.base=0/\N2 F0 H0 N w0 (upd F q t) (hs X q (some b)) nx (w.alloc Q):=by
 have hr:=J.hr;have O:∀ i,J0 (hs X q (some b)) i=if i=q then some b else J0 X i:=fun i=>N7 X q i _
 have a6:b.isRom=false:=by cases b<;>first | rfl | exact hn.elim
 have V:∀ t:J7,t.blk=w.heap.size->BR (upd F q t) t b (w.alloc Q)->N2 F0 H0 N w0 (upd F q t) (hs X q (some b)) nx (w.alloc Q):=by
  intro t ht hb;have a5:=M19 hF t;refine⟨J.le,fun i hi=>by rw[M5 F t (by omega)];exact J.ext i hi,J.os,J.tape,J.output,Nat.le_trans J.size (by simp),?_,?_,?_,?_,?_⟩
  .intro k hk a4
   rw[Y14 w Q k (Nat.lt_of_lt_of_le hk J.size)];exact J.frame k hk a4
  .rintro k ⟨i,kb,u,hi,hg,W,E,rfl⟩
   rw[O i] at hg
   by_cases e:i=q
   .subst e;rw[Y6] at E;cases E;exact .inr (by rw[ht];exact J.size)
   .rw[if_neg e] at hg;rw[M5 F t e] at E
    exact J.own _ ⟨i,kb,u,hi,hg,W,E,rfl⟩
  .intro i hi a0
   rw[O i,if_neg (by omega)];exact J.keep i hi a0
  .intro i bi hg Z
   rw[O i] at hg
   by_cases e:i=q
   .subst e;rw[if_pos rfl] at hg;cases hg;rw[a6] at Z;cases Z
   .rw[if_neg e] at hg;exact J.rom i bi hg Z
  .refine⟨?_,?_,?_,fun i hi=>by rw[O,if_neg (by omega)];exact hr.top i hi,hr.gl.step (fun k hk _=>Y14 w Q k hk) (by
    rintro k ⟨i,kb,u,hi,hg,W,E,rfl⟩;rw[O i] at hg
    by_cases e:i=q
    .subst e;rw[Y6] at E;cases E;exact .inr (by omega)
    .rw[if_neg e] at hg;rw[M5 F t e] at E
     exact .inl ⟨i,kb,u,hi,hg,W,E,rfl⟩)⟩
   .intro i kb hi hg
    rw[O i] at hg
    by_cases e:i=q
    .subst e;rw[if_pos rfl] at hg;cases hg;exact⟨t,Y6 _ _ _,hb⟩
    .rw[if_neg e] at hg
     obtain⟨u,E,U⟩:=hr.blk i kb hi hg;exact⟨u,by rw[M5 F t e];exact E,U.mono a5 (Y14 w Q _ U.lt)⟩
   .intro i j bi bj ti tj hi hj gi gj fi fj e
    rw[O i] at gi;rw[O j] at gj
    by_cases ei:i=q<;>by_cases ej:j=q
    .exact .inl (by rw[ei,ej])
    .exfalso
     subst ei;rw[Y6] at fi;cases fi;rw[if_neg ej] at gj;rw[M5 F t ej] at fj;obtain⟨u,a2,a3⟩:=hr.blk j bj hj gj;rw[fj] at a2;cases a2;have:=a3.lt;omega
    .exfalso
     subst ej;rw[Y6] at fj;cases fj;rw[if_neg ei] at gi;rw[M5 F t ei] at fi;obtain⟨u,E,U⟩:=hr.blk i bi hi gi;rw[fi] at E;cases E;have:=U.lt;omega
    .rw[if_neg ei] at gi;rw[if_neg ej] at gj;rw[M5 F t ei] at fi;rw[M5 F t ej] at fj
     exact hr.inj i j bi bj ti tj hi hj gi gj fi fj e
   .intro i hi
    rw[M5 F t (by omega)];exact hr.fresh i hi
 cases b with
 | cells c sl=>
  obtain⟨rfl,c',e,rfl,a1⟩:=hn;refine⟨⟨w.heap.size,0,c.length,0,c'.size⟩,rfl,rfl,V _ rfl ?_⟩;refine⟨c',e,E16 w _,rfl,rfl,rfl,by have:=a1.length;simp at this;simp[this],?_⟩;have hl:=a1.length;simp only[List.drop_zero];rw[List.take_of_length_le (by omega)];exact a1.mono (M19 hF _)
 | map es k=>
  obtain⟨rfl,rfl⟩:=hn;exact⟨⟨w.heap.size,0,0,0,0⟩,rfl,rfl,V _ rfl ⟨rfl,#[],E16 w _,.nil⟩⟩
 | rom c=>exact hn.elim
def J5(N:Nat)(p:Nat->Bool)(q:Nat):List (Nat × C1)->Option C1
 | []=>none
 | (j,b) :: l=>if N+j=q/\p j=true then some b else J5 N p q l
def X8(N:Nat)(p:Nat->Bool)(H:Y0):List (Nat × C1)->Y0
 | []=>H
 | (j,b) :: l=>X8 N p (cond (p j) (hs H (N+j) (some b)) H) l
def X17(L:Nat):List (Nat × C1)->Prop
 | []=>True
 | (j,_) :: l=>j<L/\(∀ q ∈ l,q.1≠j)/\X17 L l
theorem Y38{N:Nat}{p:Nat->Bool}{j:Nat}:∀ {l:List (Nat × C1)},(∀ q ∈ l,q.1≠j)->J5 N p (N+j) l=none
 | [],_=>rfl
 | (j',b) :: l,h=>by
  have h1:j'≠j:=h (j',b) (by simp);simp only[J5];rw[if_neg (by rintro⟨e,_⟩;exact h1 (by omega))];exact Y38 fun q hq=>h q (by simp[hq])
theorem Y10{N L:Nat}{p:Nat->Bool}:∀ {l:List (Nat × C1)} {H:Y0},X17 L l->∀ q,J0 (X8 N p H l) q=(J5 N p q l).or (J0 H q)
 | [],H,_,q=>by simp[X8,J5]
 | (j,b) :: l,H,hk,q=>by
  obtain⟨h1,h2,h3⟩:=hk;simp only[X8,J5]
  cases hp:p j with
  | false=>
   rw[Y10 h3 q];simp
  | true=>
   rw[Y10 h3 q];simp only[cond_true];rw[N7]
   by_cases e:q=N+j
   .subst e
    rw[Y38 h2];simp
   .have e':¬ (N+j=q):=fun h=>e h.symm
    simp[e,e']
theorem W11{N:Nat}{p:Nat->Bool}{q:Nat}{b:C1}:∀ {l:List (Nat × C1)},J5 N p q l=some b->∃ j,(j,b) ∈ l/\N+j=q/\p j=true
 | [],h=>by simp[J5] at h
 | (j,b') :: l,h=>by
  simp only[J5] at h
  split at h
  .rename_i hc;cases h;exact⟨j,by simp,hc.1,hc.2⟩
  .obtain⟨j',h1,h2⟩:=W11 h
   exact⟨j',by simp[h1],h2⟩
theorem N15{N L:Nat}{p:Nat->Bool}{j:Nat}{b:C1}:∀ {l:List (Nat × C1)},X17 L l->(j,b) ∈ l->p j=true->J5 N p (N+j) l=some b
 | (j',b') :: l,hk,hm,hp=>by
  obtain⟨_,h2,h3⟩:=hk;simp only[J5];rcases List.mem_cons.1 hm with e | hm
  .cases e;simp[hp]
  .have:j≠j':=h2 (j,b) hm
   rw[if_neg (by rintro⟨e,_⟩;omega)];exact N15 h3 hm hp
theorem Q18{β:Type}{ms:List Nat}{N i:Nat}{es:List Nat}(f:Y0->β):∀(as:List (Nat × C1)) (H:Y0),U13 ms N es i H f as=f (X8 N (fun j=>D2 ms i j && !Y3 ms es j) H as)
 | [],H=>rfl
 | (j,b) :: as,H=>by
  simp only[U13,X8];rcases Bool.eq_false_or_eq_true (D2 ms i j && !Y3 ms es j) with h | h
  .rw[h];simp only[cond_true];rw[G4,Q18 f as]
  .rw[h];simp only[cond_false];rw[Q18 f as H]
theorem N23{β:Type}{ms:List Nat}{N:Nat}{es:List Nat}(f:Y0->β):∀(as:List (Nat × C1)) (H:Y0),Z13 ms N es H f as=f (X8 N (fun j => !Y3 ms es j) H as)
 | [],H=>rfl
 | (j,b) :: as,H=>by
  simp only[Z13,X8];rcases Bool.eq_false_or_eq_true (Y3 ms es j) with h | h
  .rw[h];simp only[cond_true,Bool.not_true,cond_false];rw[N23 f as H]
  .rw[h];simp only[cond_false,Bool.not_false,cond_true];rw[G4,N23 f as]
end Go.Clo

namespace Go.Clo
inductive Inf where
 | u
 | p
 | r (i:IR)
 | a (b:C1)
 | e (H:Y0) (nx:Nat)
structure D3 where
 T:K0 Value
 v:Value
 inf:Inf
def D1:List D3->List Nat
 | []=>[]
 | r :: l=>match r.inf with
  | .e _ _=>l.length :: D1 l
  | _=>D1 l
def B3:List D3->List (Nat × C1)
 | []=>[]
 | r :: l=>match r.inf with
  | .a b=>(l.length,b) :: B3 l
  | _=>B3 l
def hR(H0:Y0):List D3->Y0
 | []=>H0
 | r :: l=>match r.inf with
  | .e H _=>H
  | _=>hR H0 l
def nR(n0:Nat):List D3->Nat
 | []=>n0
 | r :: l=>match r.inf with
  | .e _ nx=>nx
  | _=>nR n0 l
def MsR(H0:Y0):List D3->List Y0
 | []=>[]
 | r :: l=>match r.inf with
  | .e _ _=>hR H0 l :: MsR H0 l
  | _=>MsR H0 l
def rsR:List D3->List Rd
 | []=>[]
 | r :: l=>match r.inf with
  | .r i=>⟨l.length,i,r.T,r.v⟩ :: rsR l
  | _=>rsR l
def C10(ops:List Oper)(T0:K0 Value):List D3->Nat->Value
 | [],t=>(tg T0 t).getD undef
 | r :: l,t=>if (ops[l.length]?).bind (·.dst)=some t then r.v else C10 ops T0 l t
structure M63 (P:Program) (d n:Nat) (ops:List Oper) (N:Nat) (H0:Y0) (n0:Nat) (T0:K0 Value) (r:D3) (l:List D3) (o:Oper) (s:S):Prop where
 ho:ops[l.length]? = some o
 hs:K16 P n ops o=some s
 hT:∀ t,t<n->(tg r.T t).getD undef=C10 ops T0 l t
 what:match r.inf with
  | .u=>r.v=undef/\∀ F a,GR s.guard F r.T a->Region.wanted o (yielded ops.toArray a.tmps)=false
  | .p=>(∀ F a,GR s.guard F r.T a->Region.wanted o (yielded ops.toArray a.tmps)=true)/\PV P d n o r.T r.v
  | .r i=>(∀ F a,GR s.guard F r.T a->Region.wanted o (yielded ops.toArray a.tmps)=true)/\s.i = .r i
  | .a b=>(∀ F a,GR s.guard F r.T a->Region.wanted o (yielded ops.toArray a.tmps)=true)/\∃ y,AV P d n o r.T b y/\r.v=y.val (N+l.length)
  | .e H' nx'=>(∀ F a,GR s.guard F r.T a->Region.wanted o (yielded ops.toArray a.tmps)=true) /\
    EV P d n o r.T (X8 N (fun j=>D2 (U1 ops) l.length j && !Y3 (U1 ops) (D1 l) j) (hR H0 l) (B3 l)) (nR n0 l) r.v H' nx'/\∀ e ∈ D1 l,D2 (U1 ops) l.length e=true
def B11(P:Program)(d n:Nat)(ops:List Oper)(N:Nat)(H0:Y0)(n0:Nat)(T0:K0 Value):List D3->Prop
 | []=>True
 | r :: l=>(∃ o s,M63 P d n ops N H0 n0 T0 r l o s)/\B11 P d n ops N H0 n0 T0 l
section
variable {β:Type} {P:Program} {d n:Nat} {ops:List Oper} {N:Nat} {H0:Y0} {n0:Nat} {T0:K0 Value}
theorem Q22{rc:List D3}{T:K0 Value}{o:Oper}(ho:ops[rc.length]? = some o)(hn:n<=2^d)(hw:WF d T)(hT:∀ t,t<n->(tg T t).getD undef=C10 ops T0 rc t)(E:∀ q,o.dst=some q->q<n)(v:Value)(inf:Inf)(k:K0 Value->β):
  ∃ T',E4 d o.dst v T k=k T'/\WF d T'/\∀ t,t<n->(tg T' t).getD undef=C10 ops T0 (⟨T,v,inf⟩ :: rc) t:=by
 cases hd:o.dst with
 | none=>
  refine⟨T,rfl,hw,fun t ht => ?_⟩;rw[hT t ht];simp[C10,ho,hd]
 | some q=>
  have hq:=E q hd;refine⟨ts d T q v,Z15 d T q v k,U16 d T q v hw,fun t ht => ?_⟩;rw[K21 d T q t v hw (Nat.lt_of_lt_of_le hq hn) (Nat.lt_of_lt_of_le ht hn)];simp only[C10,ho,hd,Option.bind_some]
  by_cases e:t=q
  .subst e;simp
  .have e':¬ (some q=some t):=by simp;exact fun h=>e h.symm
   rw[if_neg e,if_neg e'];exact hT t ht
theorem N55(call:Z3 β)(ms:List Nat)(z:β)(k:K0 Value->Y0->Nat->List Y0->List Nat->List (Nat × C1)->List Rd->β)(g:Option (Nat × Bool))(dst:Option Nat)(op:I)(l:List S)(i:Nat)(T:K0 Value)(H:Y0)(nx:Nat)(Ms:List Y0)(es:List Nat)(as:List (Nat × C1))(rs:List Rd):
  Z4 P d call ms N z k (⟨g,dst,op⟩ :: l) i T H nx Ms es as rs=V8 g T z
  (match op with
   | .p op=>X4 P op T z fun v=>E4 d dst v T fun T=>Z4 P d call ms N z k l (i+1) T H nx Ms es as rs
   | .r op=>U13 ms N es i H (fun h=>M9 P op T h z fun v=>E4 d dst v T fun T'=>Z4 P d call ms N z k l (i+1) T' H nx Ms es as (⟨i,op,T,v⟩ :: rs)) as
   | .a op=>evA op T z fun b y=>M2 (N+i) fun q=>M0 (y.val q) fun v=>E4 d dst v T fun T=>Z4 P d call ms N z k l (i+1) T H nx Ms es ((i,b) :: as) rs
   | .e op=>cond (es.all fun e=>D2 ms i e)
    (U13 ms N es i H (fun h=>evE op call T h nx z fun v H' nx=>E4 d dst v T fun T=>Z4 P d call ms N z k l (i+1) T H' nx (H :: Ms) (i :: es) as rs) as) z)
  (E4 d dst undef T fun T=>Z4 P d call ms N z k l (i+1) T H nx Ms es as rs):=rfl
theorem U32{call:Z3 β}(O:E11 P call)(hn:n<=2^d)(z:β)(k:K0 Value->Y0->Nat->List Y0->List Nat->List (Nat × C1)->List Rd->β):
  ∀(suf:List Oper) (l:List S) (rc:List D3) (T:K0 Value),R3 P n ops suf=some l->(∀ j,j<suf.length->suf[j]? = ops[rc.length+j]?)->B11 P d n ops N H0 n0 T0 rc->WF d T->(∀ t,t<n->(tg T t).getD undef=C10 ops T0 rc t) ->
  Z4 P d call (U1 ops) N z k l rc.length T (hR H0 rc) (nR n0 rc) (MsR H0 rc) (D1 rc) (B3 rc) (rsR rc)=z \/
  ∃ E T',E.length=rc.length+suf.length/\B11 P d n ops N H0 n0 T0 E/\WF d T'/\(∀ t,t<n->(tg T' t).getD undef=C10 ops T0 E t) /\
   Z4 P d call (U1 ops) N z k l rc.length T (hR H0 rc) (nR n0 rc) (MsR H0 rc) (D1 rc) (B3 rc) (rsR rc)=k T' (hR H0 E) (nR n0 E) (MsR H0 E) (D1 E) (B3 E) (rsR E)
 | [],l,rc,T,h,_,hall,hw,hT=>by
  simp[R3] at h;subst h;exact .inr ⟨rc,T,rfl,hall,hw,hT,by simp[Z4]⟩
 | o :: suf,l,rc,T,h,hsuf,hall,hw,hT=>by
  simp only[R3] at h
  cases hs:K16 P n ops o with
  | none=>simp[hs] at h
  | some s=>cases hl:R3 P n ops suf with
   | none=>simp[hs,hl] at h
   | some l'=>
    simp[hs,hl] at h;subst h;have ho:ops[rc.length]? = some o:=by have:=hsuf 0 (by simp);simpa using this.symm
    have U:∀(inf:Inf) (v:Value) j,j<suf.length->suf[j]? = ops[((⟨T,v,inf⟩:D3) :: rc).length+j]? := fun inf v j hj=>by
     have:=hsuf (j+1) (by simp;omega);simp at this ⊢;rw[this];congr 1;omega
    obtain⟨hg,hd,Q,hi⟩:=M16 hs;obtain⟨g,dst,i⟩:=s;dsimp only at hg hd hi;subst hd;have next:∀(inf:Inf) (v:Value) (T':K0 Value),(∃ o s,M63 P d n ops N H0 n0 T0 ⟨T,v,inf⟩ rc o s)->WF d T'->(∀ t,t<n->(tg T' t).getD undef=C10 ops T0 (⟨T,v,inf⟩ :: rc) t) ->
      Z4 P d call (U1 ops) N z k l' (rc.length+1) T' (hR H0 (⟨T,v,inf⟩ :: rc)) (nR n0 (⟨T,v,inf⟩ :: rc)) (MsR H0 (⟨T,v,inf⟩ :: rc)) (D1 (⟨T,v,inf⟩ :: rc)) (B3 (⟨T,v,inf⟩ :: rc)) (rsR (⟨T,v,inf⟩ :: rc))=z \/
      ∃ E J,E.length=rc.length+(o :: suf).length/\B11 P d n ops N H0 n0 T0 E/\WF d J/\(∀ t,t<n->(tg J t).getD undef=C10 ops T0 E t) /\
       Z4 P d call (U1 ops) N z k l' (rc.length+1) T' (hR H0 (⟨T,v,inf⟩ :: rc)) (nR n0 (⟨T,v,inf⟩ :: rc)) (MsR H0 (⟨T,v,inf⟩ :: rc)) (D1 (⟨T,v,inf⟩ :: rc)) (B3 (⟨T,v,inf⟩ :: rc)) (rsR (⟨T,v,inf⟩ :: rc))=k J (hR H0 E) (nR n0 E) (MsR H0 E) (D1 E) (B3 E) (rsR E):=by
     intro inf v T' hf W Z;rcases U32 O hn z k suf l' (⟨T,v,inf⟩ :: rc) T' hl (U inf v) ⟨hf,hall⟩ W Z with h | ⟨E,J,h1,h2,h3,h4,h5⟩
     .exact .inl h
     .exact .inr ⟨E,J,by simp at h1 ⊢;omega,h2,h3,h4,h5⟩
    rw[N55];rcases B28 hg T z _ _ with e | ⟨e,hw1⟩ | ⟨e,hw1⟩
    .exact .inl e
    .rw[e]
     cases i with
     | p ip=>
      dsimp only;rcases K61 (P:=P) (d:=d) (T:=T) hi z _ with h | ⟨v,h,hp⟩
      .exact .inl h
      .rw[h]
       obtain⟨T',e1,e2,e3⟩:=Q22 (T0:=T0) ho hn hw hT Q v .p (fun T=>Z4 P d call (U1 ops) N z k l' (rc.length+1) T (hR H0 rc) (nR n0 rc) (MsR H0 rc) (D1 rc) (B3 rc) (rsR rc));rw[e1];exact next .p v T' ⟨o,_,ho,hs,hT,hw1,hp⟩ e2 e3
     | r ir=>
      dsimp only;rw[Q18];rcases U34 (P:=P) (d:=d) (nx:=0) (T:=T) (H:=X8 N (fun j=>D2 (U1 ops) rc.length j && !Y3 (U1 ops) (D1 rc) j) (hR H0 rc) (B3 rc)) hi z _ with h | ⟨v,h,hp⟩
      .exact .inl h
      .rw[h]
       obtain⟨T',e1,e2,e3⟩:=Q22 (T0:=T0) ho hn hw hT Q v (.r ir) (fun T'=>Z4 P d call (U1 ops) N z k l' (rc.length+1) T' (hR H0 rc) (nR n0 rc) (MsR H0 rc) (D1 rc) (B3 rc) (⟨rc.length,ir,T,v⟩ :: rsR rc));rw[e1];exact next (.r ir) v T' ⟨o,_,ho,hs,hT,hw1,rfl⟩ e2 e3
     | a ia=>
      dsimp only;rcases W57 (P:=P) (d:=d) (T:=T) hi z _ with h | ⟨b,y,h,hp⟩
      .exact .inl h
      .rw[h,G1,Y5]
       obtain⟨T',e1,e2,e3⟩:=Q22 (T0:=T0) ho hn hw hT Q (y.val (N+rc.length)) (.a b) (fun T=>Z4 P d call (U1 ops) N z k l' (rc.length+1) T (hR H0 rc) (nR n0 rc) (MsR H0 rc) (D1 rc) ((rc.length,b) :: B3 rc) (rsR rc));rw[e1];exact next (.a b) _ T' ⟨o,_,ho,hs,hT,hw1,y,hp,rfl⟩ e2 e3
     | e ie=>
      dsimp only
      cases V:(D1 rc).all fun e=>D2 (U1 ops) rc.length e with
      | false=>exact .inl rfl
      | true=>
       dsimp only[cond_true];rw[Q18];rcases C60 (P:=P) (d:=d) (T:=T) (nx:=nR n0 rc) (H:=X8 N (fun j=>D2 (U1 ops) rc.length j && !Y3 (U1 ops) (D1 rc) j) (hR H0 rc) (B3 rc)) hi O z _ with h | ⟨v,H',nx',h,hp⟩
       .exact .inl h
       .rw[h]
        obtain⟨T',e1,e2,e3⟩:=Q22 (T0:=T0) ho hn hw hT Q v (.e H' nx') (fun T=>Z4 P d call (U1 ops) N z k l' (rc.length+1) T H' nx' (hR H0 rc :: MsR H0 rc) (rc.length :: D1 rc) (B3 rc) (rsR rc));rw[e1];exact next (.e H' nx') v T' ⟨o,_,ho,hs,hT,hw1,hp,fun e he=>by rw[List.all_eq_true] at V;exact V e he⟩ e2 e3
    .rw[e]
     obtain⟨T',e1,e2,e3⟩:=Q22 (T0:=T0) ho hn hw hT Q undef .u (fun T=>Z4 P d call (U1 ops) N z k l' (rc.length+1) T (hR H0 rc) (nR n0 rc) (MsR H0 rc) (D1 rc) (B3 rc) (rsR rc));rw[e1];exact next .u undef T' ⟨o,_,ho,hs,hT,rfl,hw1⟩ e2 e3
end
end Go.Clo

namespace Go.Clo
variable {a b:Value} {β:Type}
theorem U71{a b:Value}:∀(n:Nat),(∀ a b,veq n a b=true->a=b)/\(∀ a b,D25 n a b=true->a=b):=by
 intro n
 induction n with
 | zero=>exact⟨fun a b h=>by simp[veq] at h,fun a b h=>by simp[D25] at h⟩
 | succ n ih=>
  obtain⟨J,E⟩:=ih;refine⟨fun a b h => ?_,fun a b h => ?_⟩
  .unfold veq at h
   split at h
   .simp at h;rw[h]
   .rw[Bool.and_eq_true,Q26] at h;rw[J33 h.1];simp at h;rw[h.2]
   .rw[Bool.and_eq_true] at h;have:=Nat.eq_of_beq_eq_true h.2;simp at h;rw[h.1,this]
   .simp at h;rw[h]
   .simp at h;rw[h]
   .rw[Bool.and_eq_true,Bool.and_eq_true] at h
    have e1:=Nat.eq_of_beq_eq_true h.1.2;have e2:=Nat.eq_of_beq_eq_true h.2;simp at h;rw[h.1.1,e1,e2]
   .simp at h;rw[h]
   .rfl
   .rfl
   .rw[Bool.and_eq_true,Bool.and_eq_true] at h
    have e1:=Array.toList_inj.1 (E _ _ h.1.2);have e2:=Array.toList_inj.1 (E _ _ h.2);simp at h;rw[h.1.1,e1,e2]
   .rw[Bool.and_eq_true] at h
    rw[Nat.eq_of_beq_eq_true h.1,J _ _ h.2]
   .rw[Array.toList_inj.1 (E _ _ h)]
   .rw[Array.toList_inj.1 (E _ _ h)]
   .cases h
  .unfold D25 at h
   split at h
   .rfl
   .rw[Bool.and_eq_true] at h
    rw[J _ _ h.1,E _ _ h.2]
   .cases h
theorem B69{n:Nat}(h:veq n a b=true):a=b:=(U71 (a:=a) (b:=b) n).1 a b h
theorem K19:∀{l:List D3}{e:Nat},e ∈ D1 l->e<l.length
 | [],e,h=>by simp[D1] at h
 | r :: l,e,h=>by
  simp only[D1] at h
  split at h
  .rcases List.mem_cons.1 h with rfl | h
   .simp
   .have:=K19 h;simp;omega
  .have:=K19 h;simp;omega
theorem Q13:∀(l:List D3),X17 l.length (B3 l)
 | []=>trivial
 | r :: l=>by
  have ih:=Q13 l;have up:∀ {m:List (Nat × C1)} {a b:Nat},a<=b->X17 a m->X17 b m:=by
   intro m
   induction m with
   | nil=>intros;trivial
   | cons x m E=>intro a b J h;obtain⟨h1,h2,h3⟩:=h;exact⟨by omega,h2,E J h3⟩
  have low:∀ {m:List (Nat × C1)} {a:Nat},X17 a m->∀ q ∈ m,q.1<a:=by
   intro m
   induction m with
   | nil=>intro a _ q hq;cases hq
   | cons x m E=>
    intro a h q hq;obtain⟨h1,h2,h3⟩:=h;rcases List.mem_cons.1 hq with rfl | hq
    .exact h1
    .exact E h3 q hq
  simp only[B3]
  split
  .refine⟨by simp,fun q hq => ?_,up (by simp) ih⟩
   have:=low ih q hq;omega
  .exact up (by simp) ih
theorem Z37{P:Program}{ms:List Nat}{N:Nat}{as:List (Nat × C1)}{r:Rd}{H0:Y0}:∀(rc:List D3) (E:List Nat),E22 P ms N as r (D1 rc) (MsR H0 rc) (hR H0 rc) E=true->∀(pre l':List D3),rc=pre++l' ->
  (∀ e,e ∈ D1 rc->e ∉ D1 l'->D2 ms r.i e=false)->(∀ e ∈ E,D2 ms r.i e=false)->(∀ e ∈ D1 l',D2 ms e r.i=false) ->
  M9 P r.r r.T (X8 N (fun j=>D2 ms r.i j && !Y3 ms (D1 l') j) (hR H0 l') as) false (fun v=>veq 64 v r.v)=true
 | rc,E,h,[],l',e,_,h2,h3=>by
  simp at e;subst e;rw[E22.eq_def] at h;rw[Bool.and_eq_true] at h;have c1:((D1 rc).any (fun e=>D2 ms e r.i) || E.any (fun e=>D2 ms r.i e))=false:=by
   rw[Bool.or_eq_false_iff];refine⟨?_,?_⟩
   .rw[List.any_eq_false];intro x hx;simp[h3 x hx]
   .rw[List.any_eq_false];intro x hx;simp[h2 x hx]
  have:=h.1;rw[c1] at this;simp only[cond_false] at this;rw[Q18] at this;exact this
 | [],E,h,p :: pre,l',e,_,_,_=>by simp at e
 | r0 :: l,E,h,p :: pre,l',e,h1,h2,h3=>by
  simp at e;obtain⟨rfl,rfl⟩:=e
  cases J:r0.inf with
  | e H' nx'=>
   simp only[D1,MsR,hR,J] at h;rw[E22.eq_def] at h;rw[Bool.and_eq_true] at h;have hb:=h.2;dsimp only at hb;have O:D2 ms r.i (pre++l').length=false:=h1 _ (by simp[D1,J]) (fun hm=>by have:=K19 hm;simp at this;omega);rw[O] at hb;simp only[cond_false] at hb;refine Z37 (pre++l') _ hb pre l' rfl (fun e he hn=>h1 e (by simp[D1,J,he]) hn) ?_ h3;intro e he;rcases List.mem_cons.1 he with rfl | he
   .exact O
   .exact h2 e he
  | _=>
   simp only[D1,MsR,hR,J] at h;exact Z37 (pre++l') E h pre l' rfl (fun e he hn=>h1 e (by simp[D1,J,he]) hn) h2 h3
def R41(P:Program)(d n:Nat)(ops:List Oper)(N:Nat)(H0:Y0)(rc:List D3):Prop:=
 ∀ r ∈ rsR rc,∀(pre l':List D3),rc=pre++l'->(∀ e,e ∈ D1 rc->e ∉ D1 l'->D2 (U1 ops) r.i e=false)->(∀ e ∈ D1 l',D2 (U1 ops) e r.i=false) ->
  ∀(nx:Nat) (o:Oper),W18 P n o=some (.r r.r)->RV P d n nx o r.T (X8 N (fun j=>D2 (U1 ops) r.i j && !Y3 (U1 ops) (D1 l') j) (hR H0 l') (B3 rc)) r.v
def W34(P:Program)(E:E12 β):Prop:=∀(d n:Nat) (ops:List Oper) (N:Nat) (H0:Y0) (rc:List D3) (y z:β),
 E (U1 ops) N (B3 rc) (rsR rc) (D1 rc) (MsR H0 rc) (hR H0 rc) y z=z \/
 (E (U1 ops) N (B3 rc) (rsR rc) (D1 rc) (MsR H0 rc) (hR H0 rc) y z=y/\R41 P d n ops N H0 rc)
theorem Z67(P:Program):W34 (β:=β) P (D43 P):=by
 intro d n ops N H0 rc y z;unfold D43
 cases O:(rsR rc).all fun r=>E22 P (U1 ops) N (B3 rc) r (D1 rc) (MsR H0 rc) (hR H0 rc) [] with
 | false=>exact .inl rfl
 | true=>
  refine .inr ⟨rfl,fun r hr pre l' J h1 h2 nx o hc => ?_⟩;have E:=Z37 rc [] (List.all_eq_true.1 O r hr) pre l' J h1 (by simp) h2;rcases U34 (P:=P) (d:=d) (n:=n) (nx:=nx) (o:=o) (T:=r.T) (H:=X8 N (fun j=>D2 (U1 ops) r.i j && !Y3 (U1 ops) (D1 l') j) (hR H0 l') (B3 rc)) hc false (fun v=>veq 64 v r.v) with h | ⟨v,h,hrv⟩
  .rw[h] at E;cases E
  .rw[h] at E
   have Q:=B69 E;rw[<- Q];exact hrv
def W9(ops:List Oper)(T0:K0 Value)(D:Nat->Bool):List D3->Nat->Value
 | [],t=>(tg T0 t).getD undef
 | r :: l,t=>if D l.length=true/\(ops[l.length]?).bind (·.dst)=some t then r.v else W9 ops T0 D l t
theorem Y37{ops:List Oper}{T0:K0 Value}{D:Nat->Bool}{t:Nat}:∀ {l:List D3},(∀ j,j<l.length->(ops[j]?).bind (·.dst)=some t->D j=true)->W9 ops T0 D l t=C10 ops T0 l t
 | [],_=>rfl
 | r :: l,h=>by
  simp only[W9,C10]
  by_cases hd:(ops[l.length]?).bind (·.dst)=some t
  .have:=h l.length (by simp) hd
   simp[hd,this]
  .rw[if_neg (fun hc=>hd hc.2),if_neg hd]
   exact Y37 fun j hj=>h j (by simp;omega)
theorem Y39{ops:List Oper}{T0:K0 Value}{D:Nat->Bool}{t:Nat}{l:List D3}:∀ {pre:List D3},(∀ j,l.length<=j->j<(pre++l).length->(ops[j]?).bind (·.dst)=some t->D j=false)->W9 ops T0 D (pre++l) t=W9 ops T0 D l t
 | [],_=>rfl
 | r :: pre,h=>by
  simp only[List.cons_append,W9];rw[if_neg]
  .exact Y39 fun j h1 h2 h3=>h j h1 (by simp at h2 ⊢;omega) h3
  .rintro⟨h1,h2⟩
   have:=h (pre++l).length (by simp) (by simp) h2;rw[h1] at this;cases this
theorem Z45{ops:List Oper}{T0:K0 Value}{D D':Nat->Bool}{i:Nat}(hD:∀ j,D' j=if j=i then true else D j){r:D3}{l:List D3}(hl:l.length=i){t:Nat}(E:∀ j,j≠i->(ops[i]?).bind (·.dst)=some t->(ops[j]?).bind (·.dst)≠some t)(J:D i=false):
  ∀ {pre:List D3},W9 ops T0 D' (pre++r :: l) t=if (ops[i]?).bind (·.dst)=some t then r.v else W9 ops T0 D (pre++r :: l) t
 | []=>by
  simp only[List.nil_append,W9,hl,J];have h1:D' i=true:=by simp[hD]
  have h2:W9 ops T0 D' l t=W9 ops T0 D l t:=by
   have:∀ m:List D3,m.length<=i->W9 ops T0 D' m t=W9 ops T0 D m t:=by
    intro m
    induction m with
    | nil=>intro _;rfl
    | cons x m ih=>
     intro hm;simp at hm;simp only[W9];have:D' m.length=D m.length:=by rw[hD,if_neg (by omega)]
     rw[this,ih (by omega)]
   exact this l (by omega)
  simp[h1,h2]
 | p :: pre=>by
  have ih:=Z45 hD hl E J (pre:=pre) (T0:=T0) (r:=r);simp only[List.cons_append,W9];have O:(pre++r :: l).length≠i:=by simp;omega
  have:D' (pre++r :: l).length=D (pre++r :: l).length:=by rw[hD,if_neg O]
  rw[this,ih]
  by_cases hi:(ops[i]?).bind (·.dst)=some t
  .have:=E _ O hi
   rw[if_pos hi,if_neg (fun hc=>this hc.2),if_pos hi]
  .rw[if_neg hi,if_neg hi]
theorem B11.suf{P:Program}{d n:Nat}{ops:List Oper}{N:Nat}{H0:Y0}{n0:Nat}{T0:K0 Value}:∀ {pre l:List D3},B11 P d n ops N H0 n0 T0 (pre++l)->B11 P d n ops N H0 n0 T0 l
 | [],_,h=>h
 | _ :: _,_,h=>B11.suf h.2
theorem V46:∀{rc:List D3}{i:Nat},i<rc.length->∃ pre r l,rc=pre++r :: l/\l.length=i
 | [],i,h=>by simp at h
 | r :: l,i,h=>by
  by_cases e:l.length=i
  .exact⟨[],r,l,rfl,e⟩
  .obtain⟨pre,r',l',h1,h2⟩:=V46 (rc:=l) (i:=i) (by simp at h;omega)
   exact⟨r :: pre,r',l',by rw[h1];rfl,h2⟩
end Go.Clo
