/-
  The closed executor: all operations with an effect.
  The closed executor: operations with an effect,joined;a region in its order.
  The closed executor: one operation;a region in its order.
-/
import Derived.Test.YtoiioigihocgbaaGreatDoorN7
set_option linter.all false
namespace Go.Clo
theorem B49{H:Y0}{size m b o' len cap:Nat}{s:Option Nat}{z:Option (List Value)}{l:List Value}(h:Z5 H size m (.slice (some ⟨b,o',s⟩) len cap) none some=some l):
  s=none/\∃ blk c,J0 H b=some blk/\blk.row=some c/\G5 (m*size) (c.drop o')=some l:=by
 unfold Z5 B19 at h
 cases s with
 | some q=>simp at h
 | none=>
  dsimp only at h;rw[Y4] at h
  cases hg:J0 H b with
  | none=>simp[hg] at h
  | some blk=>
   rw[hg] at h
   cases blk with
   | map es c=>simp at h
   | cells c sl=>
    dsimp only[Option.elim_some] at h
    split at h
    .rename_i l' hl
     rw[V2] at h
     cases h
     exact⟨rfl,_,c,rfl,rfl,hl⟩
    .cases h
   | rom c=>
    dsimp only[Option.elim_some] at h
    split at h
    .rename_i l' hl
     rw[V2] at h
     cases h
     exact⟨rfl,_,c,rfl,rfl,hl⟩
    .cases h
theorem X26{β:Type}(H:Y0)(size m:Nat)(x:Value)(z:β)(k:List Value->β):Z5 H size m x z k=(Z5 H size m x none some).elim z k:=by
 unfold Z5
 split
 .unfold B19
  split
  .rw[Y4,Y4]
   cases J0 H _ with
   | none=>rfl
   | some blk=>
    cases blk with
    | map es c=>rfl
    | cells c sl=>
     dsimp only[Option.elim_some]
     split
     .rw[V2,V2];rfl
     .rfl
    | rom c=>
     dsimp only[Option.elim_some]
     split
     .rw[V2,V2];rfl
     .rfl
  .rfl
 .rfl
 .rw[C20,C20];rfl
 .rfl
section
variable {β:Type} {P:Program} {d n nx:Nat} {o:Oper} {T:K0 Value} {H:Y0}
theorem Z58{c:Call}{s x:Operand}{t u e:TypeId}{ud:TypeDesc}{tl:List TypeId}{xl:List Operand}{S1 X1:X}{i:TypeInfo}{z0:List Value}(ho:o.op = .call c)(hc:c.callee = .builtin .append)
  (ag:c.argTypes.toList=t :: u :: tl)(ha:c.args.toList=s :: x :: xl)(hs:N0 n s=some S1)(hx:N0 n x=some X1)(hu:P.underlying t=some (.slice e))(ad:P.underlying u=some ud)(ah:∀ k,ud ≠ .int k)
  (c4:M10 P e=some z0)(hi:P.info? e=some i)(ba:0<i.size)(call:Z3 β)(z:β)(k:Value->Y0->Nat->β):
  evE (.app S1 X1 i.size i.bytes) call T H nx z k=z\/∃ v H' nx',evE (.app S1 X1 i.size i.bytes) call T H nx z k=k v H' nx'/\EV P d n o T H nx v H' nx':=by
 have a9:s ∈ o.op.operands:=by rw[ho];simp only[Op.operands,Call.operands,hc];exact Array.mem_def.2 (by simp[ha])
 have a2:x ∈ o.op.operands:=by rw[ho];simp only[Op.operands,Call.operands,hc];exact Array.mem_def.2 (by simp[ha])
 obtain⟨it,zv,b5,bv,c9,ce,bz,b4⟩:=X14 c4;rw[hi] at b5;cases b5;have bk:zv.cells.size=i.size:=by rw[c9] at b4;simpa using b4
 show(W4 T S1 fun vs=>W4 T X1 fun vx=>Z22 H nx i.size i.bytes vs vx z k)=z\/∃ v H' nx',(W4 T S1 fun vs=>W4 T X1 fun vx=>Z22 H nx i.size i.bytes vs vx z k)=k v H' nx'/\_;rw[G2,G2];unfold Z22
 split
 .rename_i base E O m a5 ae
  rw[G1]
  cases hb:(Nat.ble ((2*(E+m)+1000)*i.bytes) 281474976710656&&Nat.ble (E+m) 1000000000) with
  | false=>exact .inl rfl
  | true=>
   dsimp only[cond_true];simp only[Bool.and_eq_true,Nat.ble_eq] at hb;obtain⟨bf,c3⟩:=hb;have aj:=R21 (H:=H) (nx:=nx) (size:=i.size) (m:=m) (x:=ev T X1) (none:Option (List Value)) some;rw[X26]
   cases az:Z5 H i.size m (ev T X1) none some with
   | none=>exact .inl rfl
   | some new=>
    have W:∀(F:FM) (P:Program) (x':Value) (w:World),VR F (ev T X1) x'->HB F H nx w->∃ l',(∀ w2:World,w2.heap=w.heap->(Builtin.firstCells i.size m x').run P w2 = .ok l'.toArray w2)/\VL F new l':=by
     rcases aj with h | ⟨l,h,hp⟩
     .rw[az] at h;cases h
     .rw[az] at h;cases h;exact hp
    dsimp only[Option.elim_some]
    cases ay:Z0 new with
    | false=>exact .inl rfl
    | true=>
     dsimp only[cond_true]
     cases a1:Nat.ble (E+m) O with
     | true=>
      dsimp only[cond_true];have a1:E+m<=O:=Nat.le_of_ble_eq_true a1;unfold C42
      split
      .cases cg:Nat.beq m 0 with
       | false=>exact .inl rfl
       | true=>
        refine .inr ⟨_,_,_,rfl,fun F a w K Q ht hr hk => ?_⟩;have h1:=evX ht hs a9;rw[a5] at h1;have he:=h1.sliceN_inv;obtain⟨a3,a4,a0⟩:=W F P (a.eval x) w (evX ht hx a2) hr.hb;obtain⟨al,ar,q0,q1,q2,q3,a7⟩:=X24 (P:=P) ho hc ag ha a w;rw[he] at q2;have U:=Z17 q0 q1 hu ad ah hi q2 q3 (Y16 ae (evX ht hx a2) w) (a4 w rfl) a1 o.type;refine C3 (v := .slice none (E+m) O) (w':=w) ?_ (hk _ F w (.sliceN _ _) (N2.refl hr));rw[a7,U];rfl
      .rename_i b o'
       rw[G1];rcases M20 (F:=fun _=>none) (H:=H) (nx:=nx) (b:=b) (o':=o'+E*i.size) (vs:=new) none z (fun H'=>k (.slice (some ⟨b,o',none⟩) (E+m) O) H' nx) with h | ⟨H',h,hp⟩
       .exact .inl h
       .refine .inr ⟨_,H',nx,h,fun F a w K Q ht hr hk => ?_⟩
        have h1:=evX ht hs a9;rw[a5] at h1;obtain⟨_,tt,c',hF,he,a6⟩:=h1.slice_inv;have cd:O<=c':=by rcases a6 with h | ⟨_,h,_⟩<;>omega
        obtain⟨a3,a4,a0⟩:=W F P (a.eval x) w (evX ht hx a2) hr.hb;obtain⟨al,ar,q0,q1,q2,q3,a7⟩:=X24 (P:=P) ho hc ag ha a w;rw[he] at q2;have U:=Z17 q0 q1 hu ad ah hi q2 q3 (Y16 ae (evX ht hx a2) w) (a4 w rfl) (by omega) o.type;obtain⟨w',aq,Z⟩:=hp F P w tt a3 hr hF a0 (K14 a0 ay);refine C3 (v := .slice (some ⟨tt.blk,tt.base+o',none⟩) (E+m) c') (w':=w') ?_ (hk _ F w' (.slice hF a6) Z);rw[a7,U];dsimp only;rw[X11,Nat.add_assoc,aq]
        rfl
      .exact .inl rfl
     | false=>
      dsimp only[cond_false];have bd:¬ E+m<=O:=fun h=>by rw[Nat.ble_eq_true_of_le h] at a1;cases a1
      rw[X26];have av:=R21 (H:=H) (nx:=nx) (size:=i.size) (m:=E) (x:=ev T S1) (none:Option (List Value)) some
      cases ac:Z5 H i.size E (ev T S1) none some with
      | none=>exact .inl rfl
      | some ao=>
       have ak:∀(F:FM) (P:Program) (x':Value) (w:World),VR F (ev T S1) x'->HB F H nx w->∃ l',(∀ w2:World,w2.heap=w.heap->(Builtin.firstCells i.size E x').run P w2 = .ok l'.toArray w2)/\VL F ao l':=by
        rcases av with h | ⟨l,h,hp⟩
        .rw[ac] at h;cases h
        .rw[ac] at h;cases h;exact hp
       dsimp only[Option.elim_some];rw[V2]
       cases aa:Nat.beq (ao++new).length ((E+m)*i.size) with
       | false=>exact .inl rfl
       | true=>
        dsimp only[cond_true];have aa:=Nat.eq_of_beq_eq_true aa;have U44:∀(F:FM) (a:Act) (w:World) (K:Act->World->Prop) (Q:Exit->Act->World->Prop) (H2:Y0),OR n o F T a->HR F H nx w->N2 F H nx w F H2 nx w ->
          (∀ J c',a.eval s = .slice J E c'->∃ aw,a.eval s = .slice J E aw/\aw<E+m) ->
          (∀ v' F' w',VR F' (.slice (some ⟨nx,0,none⟩) (E+m) (E+m)) v'->N2 F H nx w F' (Go.Clo.hs H2 nx (some (.cells (ao++new) i.size))) (nx+1) w'->K (a.put o.dst v') w')->o.wp P a w K Q:=by
         intro F a w K Q H2 ht hr ai bu hk;have h0:=evX ht hs a9;have h1:=h0;rw[a5] at h1;have ap:∃ J c',a.eval s = .slice J E c':=by
          generalize a.eval s=qq at h1
          cases h1<;>exact⟨_,_,rfl⟩
         obtain⟨J,c0,c6⟩:=ap;obtain⟨c',he,bg⟩:=bu J c0 c6;obtain⟨ax,c8,bt⟩:=ak F P (a.eval s) w h0 hr.hb;obtain⟨a3,a4,a0⟩:=W F P (a.eval x) w (evX ht hx a2) hr.hb;have bx:∀ q,(Builtin.firstCells i.size E (.slice J E c')).run P { w with drawn:=q } = .ok ax.toArray { w with drawn:=q }:=by
          intro q;rw[<- he];exact c8 _ rfl
         have c7:∀ q,(Builtin.firstCells i.size m (a.eval x)).run P { w with drawn:=q } = .ok a3.toArray { w with drawn:=q }:=fun q=>a4 _ rfl
         obtain⟨al,ar,q0,q1,q2,q3,a7⟩:=X24 (P:=P) ho hc ag ha a w;rw[he] at q2;obtain⟨bc,⟨b3,bo⟩,U⟩:=K37 q0 q1 hu ad ah hi bv q2 q3 (Y16 ae (evX ht hx a2) w) bg bf c3 bx c7 o.type;obtain⟨F',Z,au⟩:=X58 (e:=e) (zv:=zv) ai.hr bt a0 (w.drawn+1) aa ba bk b3 bo;exact C3 (by rw[a7,U];rfl) (hk _ F' _ au (ai.trans Z))
        unfold D22
        split
        .unfold K11
         rw[G1,G1,G4];refine .inr ⟨_,_,_,rfl,fun F a w K Q ht hr hk=>U44 F a w K Q H ht hr (N2.refl hr) ?_ hk⟩;intro J c' he;have h1:=evX ht hs a9;rw[a5] at h1;have V:=h1.sliceN_inv;rw[V] at he;cases he;exact⟨_,V,by omega⟩
        .rename_i b o'
         rw[Y4]
         cases hg:J0 H b with
         | none=>exact .inl rfl
         | some blk=>
          dsimp only[Option.elim_some]
          split
          .rename_i a8
           unfold K11;rw[G1,G1,G4];refine .inr ⟨_,_,_,rfl,fun F a w K Q ht hr hk=>U44 F a w K Q H ht hr (N2.refl hr) ?_ hk⟩;intro J c' he;have h1:=evX ht hs a9;rw[a5] at h1;obtain⟨_,tt,c2,hF,V,a6⟩:=h1.slice_inv;rw[V] at he;cases he
           .obtain⟨_,ab⟩:=J20 (hr.hb.get hF hg) a8 a6
            have:c'=O:=by
             rcases Nat.decEq c' O with h | h
             .have:=(ab h).1;cases this
             .exact h
            exact⟨_,V,by omega⟩
          .rename_i a8
           rw[G4];unfold K11;rw[G1,G1,G4];refine .inr ⟨_,_,_,rfl,fun F a w K Q ht hr hk => ?_⟩;have h1:=evX ht hs a9;rw[a5] at h1;obtain⟨_,tt,c2,hF,V,a6⟩:=h1.slice_inv
           by_cases bh:c2<E+m
           .refine U44 F a w K Q _ ht hr (N2.kill hr (hr.hb.lt hF)) ?_ hk
            intro J c' he;rw[V] at he;cases he;exact⟨_,V,bh⟩
           .cases blk with
            | map es q=>simp[N8] at a8
            | rom cc=>
             obtain⟨_,ab⟩:=J20 (hr.hb.get hF hg) a8 a6;simp[N8] at a8
            | cells cc sl=>
             obtain⟨_,ab⟩:=J20 (hr.hb.get hF hg) a8 a6;obtain⟨_,g2,g3,g4,g5,g6⟩:=ab (by omega);have ap:sl=i.size:=by
              obtain⟨_,_,_,_,_,h4,_⟩:=hr.hb.get hF hg;omega
             subst ap;rw[a5] at ac;obtain⟨_,ca,cf,b8,an,bw⟩:=B49 (z:=none) ac;rw[hg] at b8;cases b8;cases an;obtain⟨a3,a4,a0⟩:=W F P (a.eval x) w (evX ht hx a2) hr.hb;obtain⟨F',w',aq,Z,au⟩:=B46 P hr hg hF bw a0 (K14 a0 ay) aa ba (by omega) g5 g6;obtain⟨al,ar,q0,q1,q2,q3,a7⟩:=X24 (P:=P) ho hc ag ha a w;rw[V] at q2;have U:=Z17 q0 q1 hu ad ah hi q2 q3 (Y16 ae (evX ht hx a2) w) (a4 w rfl) (by omega) o.type;refine C3 (v := .slice (some ⟨tt.blk,tt.base+o',none⟩) (E+m) c2) (w':=w') ?_ (hk _ F' w' au Z);rw[a7,U];dsimp only;rw[X11,aq]
             rfl
          .exact .inl rfl
        .exact .inl rfl
 .exact .inl rfl
end
end Go.Clo

namespace Go.Clo
variable {X1:X} {c:Call} {d n:Nat} {e t:TypeId} {x:Operand} {β:Type}
section
variable {β:Type} {P:Program} {d n nx:Nat} {o:Oper} {T:K0 Value} {H:Y0}
theorem C52{s:Operand}{tl:List TypeId}{xl:List Operand}{S1:X}{i:TypeInfo}(ho:o.op = .call c)(hc:c.callee = .builtin .copy)
  (a7:c.argTypes.toList=t :: tl)(ha:c.args.toList=s :: x :: xl)(hs:N0 n s=some S1)(hx:N0 n x=some X1)(hu:P.underlying t=some (.slice e))(hi:P.info? e=some i)(call:Z3 β)(z:β)(k:Value->Y0->Nat->β):
  evE (.copy S1 X1 i.size) call T H nx z k=z\/∃ v H' nx',evE (.copy S1 X1 i.size) call T H nx z k=k v H' nx'/\EV P d n o T H nx v H' nx':=by
 have a4:s ∈ o.op.operands:=by rw[ho];simp only[Op.operands,Call.operands,hc];exact Array.mem_def.2 (by simp[ha])
 have O:x ∈ o.op.operands:=by rw[ho];simp only[Op.operands,Call.operands,hc];exact Array.mem_def.2 (by simp[ha])
 have a6:∀(a:Act) (w:World),(execOp a.eval o).run P w=((Builtin.copy_ c.argTypes o.type (c.args.map a.eval)).run P w).andThen fun v w => .ok (.value v) w:=by
  intro a w;simp[execOp,ho,resolve,hc,invoke,builtin]
 have q0:c.argTypes[0]? = some t:=by rw[<- Array.getElem?_toList,a7];rfl
 have q1:∀ a:Act,(c.args.map a.eval)[0]? = some (a.eval s):=fun a=>by rw[Array.getElem?_map,<- Array.getElem?_toList,ha];rfl
 have q2:∀ a:Act,(c.args.map a.eval)[1]? = some (a.eval x):=fun a=>by rw[Array.getElem?_map,<- Array.getElem?_toList,ha];rfl
 show B41 S1 X1 i.size call T H nx z k=z\/∃ v H' nx',B41 S1 X1 i.size call T H nx z k=k v H' nx'/\_;unfold B41;rw[G2,G2]
 split
 .rename_i base E cap m a2 W
  rw[G1];have a9:=R21 (H:=H) (nx:=nx) (size:=i.size) (m:=Nat.min m E) (x:=ev T X1) (none:Option (List Value)) some;rw[X26]
  cases a5:Z5 H i.size (Nat.min m E) (ev T X1) none some with
  | none=>exact .inl rfl
  | some cs=>
   have a1:∀(F:FM) (P:Program) (x':Value) (w:World),VR F (ev T X1) x'->HB F H nx w->∃ l',(∀ w2:World,w2.heap=w.heap->(Builtin.firstCells i.size (Nat.min m E) x').run P w2 = .ok l'.toArray w2)/\VL F cs l':=by
    rcases a9 with h | ⟨l,h,hp⟩
    .rw[a5] at h;cases h
    .rw[a5] at h;cases h;exact hp
   dsimp only[Option.elim_some]
   cases a8:Z0 cs with
   | false=>exact .inl rfl
   | true=>
    dsimp only[cond_true]
    split
    .refine .inr ⟨_,_,_,rfl,fun F a w K Q ht hr hk => ?_⟩
     have h1:=evX ht hs a4;rw[a2] at h1;have he:=h1.sliceN_inv;obtain⟨a3,U,V⟩:=a1 F P (a.eval x) w (evX ht hx O) hr.hb;refine C3 (v := .int .i64 (.ofNat (Nat.min m E))) (w':=w) ?_ (hk _ F w (.int _ _) (N2.refl hr));rw[a6];have J:=q1 a;rw[he] at J;simp only[Builtin.copy_,q0,J,q2 a,Sem.run_bind,run_underlying hu,Result.andThen_ok,Y16 W (evX ht hx O) w,E3 hi,U w rfl,Sem.run_pure,goInt]
     rfl
    .rename_i a0
     obtain⟨b,o',s'⟩:=a0
     cases s' with
     | some s0=>exact .inl (by unfold U12;rfl)
     | none=>
     rcases M20 (F:=fun _=>none) (H:=H) (nx:=nx) (b:=b) (o':=o') (vs:=cs) none z (fun H=>k (.int .i64 (.ofNat (Nat.min m E))) H nx) with h | ⟨H',h,hp⟩
     .exact .inl h
     .refine .inr ⟨_,H',nx,h,fun F a w K Q ht hr hk => ?_⟩
      have h1:=evX ht hs a4;rw[a2] at h1;obtain⟨_,tt,c',hF,he,_⟩:=h1.slice_inv;obtain⟨a3,U,V⟩:=a1 F P (a.eval x) w (evX ht hx O) hr.hb;obtain⟨w',aa,Z⟩:=hp F P w tt a3 hr hF V (K14 V a8);refine C3 (v := .int .i64 (.ofNat (Nat.min m E))) (w':=w') ?_ (hk _ F w' (.int _ _) Z);rw[a6];have J:=q1 a;rw[he] at J;simp only[Builtin.copy_,q0,J,q2 a,Sem.run_bind,run_underlying hu,Result.andThen_ok,Y16 W (evX ht hx O) w,E3 hi,U w rfl,Sem.run_pure,goInt,aa]
      rfl
 .exact .inl rfl
theorem D55{kt et:TypeId}(ho:o.op = .call c)(hc:c.callee = .builtin .clear)
  (U:c.argTypes.toList=[t])(ha:c.args.toList=[x])(hx:N0 n x=some X1)(hu:P.underlying t=some (.map kt et))(call:Z3 β)(z:β)(k:Value->Y0->Nat->β):
  evE (.clrM X1) call T H nx z k=z\/∃ v H' nx',evE (.clrM X1) call T H nx z k=k v H' nx'/\EV P d n o T H nx v H' nx':=by
 have J:x ∈ o.op.operands:=by rw[ho];simp only[Op.operands,Call.operands,hc];exact Array.mem_def.2 (by simp[ha])
 have O:∀(a:Act) (w:World),(execOp a.eval o).run P w=((Builtin.clear_ c.argTypes o.type (c.args.map a.eval)).run P w).andThen fun v w => .ok (.value v) w:=by
  intro a w;simp[execOp,ho,resolve,hc,invoke,builtin]
 have q0:c.argTypes[0]? = some t:=by rw[<- Array.getElem?_toList,U];rfl
 have q1:∀ a:Act,(c.args.map a.eval)[0]? = some (a.eval x):=fun a=>by rw[Array.getElem?_map,<- Array.getElem?_toList,ha];rfl
 show Y42 X1 call T H nx z k=z\/∃ v H' nx',Y42 X1 call T H nx z k=k v H' nx'/\_;unfold Y42;rw[G2]
 split
 .rename_i hv
  refine .inr ⟨undef,H,nx,rfl,fun F a w K Q ht hr hk => ?_⟩;have h1:=evX ht hx J;rw[hv] at h1;have he:a.eval x = .map none:=by
   generalize a.eval x=q at h1
   cases h1;rfl
  refine C3 (v := .tuple #[]) (w':=w) ?_ (hk _ F w (VR.undef F) (N2.refl hr));rw[O];have E:=q1 a;rw[he] at E;simp only[Builtin.clear_,q0,E,Sem.run_bind,run_underlying hu,Result.andThen_ok,Sem.run_pure]
 .rename_i r hv
  rw[Y4]
  cases hg:J0 H r with
  | none=>exact .inl rfl
  | some blk=>
   dsimp only[Option.elim_some]
   split
   .rename_i es clock
    rw[G4];refine .inr ⟨undef,_,nx,rfl,fun F a w K Q ht hr hk => ?_⟩;have h1:=evX ht hx J;rw[hv] at h1;obtain⟨tt,hF,he⟩:∃ tt,F r=some tt/\a.eval x = .map (some tt.blk):=by
     generalize a.eval x=q at h1
     cases h1 with
     | map hF=>exact⟨_,hF,rfl⟩
    obtain⟨V,es',hw,Z⟩:=hr.hb.get hF hg;have W:=K31 (c:=clock) hr hF hg rfl V (es:=[]) (es' := #[]) .nil;refine C3 (v := .tuple #[]) ?_ (hk _ F _ (VR.undef F) W);rw[O];have E:=q1 a;rw[he] at E;simp only[Builtin.clear_,q0,E,Sem.run_bind,run_underlying hu,Result.andThen_ok,Sem.run_pure,M7 hw,R15 hw]
   .exact .inl rfl
 .exact .inl rfl
theorem M53{zero:List Value}(ho:o.op = .call c)(hc:c.callee = .builtin .clear)
  (a0:c.argTypes.toList=[t])(ha:c.args.toList=[x])(hx:N0 n x=some X1)(hu:P.underlying t=some (.slice e))(hz:M10 P e=some zero)(call:Z3 β)(z:β)(k:Value->Y0->Nat->β):
  evE (.clrS X1 zero) call T H nx z k=z\/∃ v H' nx',evE (.clrS X1 zero) call T H nx z k=k v H' nx'/\EV P d n o T H nx v H' nx':=by
 have J:x ∈ o.op.operands:=by rw[ho];simp only[Op.operands,Call.operands,hc];exact Array.mem_def.2 (by simp[ha])
 have O:∀(a:Act) (w:World),(execOp a.eval o).run P w=((Builtin.clear_ c.argTypes o.type (c.args.map a.eval)).run P w).andThen fun v w => .ok (.value v) w:=by
  intro a w;simp[execOp,ho,resolve,hc,invoke,builtin]
 have q0:c.argTypes[0]? = some t:=by rw[<- Array.getElem?_toList,a0];rfl
 have q1:∀ a:Act,(c.args.map a.eval)[0]? = some (a.eval x):=fun a=>by rw[Array.getElem?_map,<- Array.getElem?_toList,ha];rfl
 obtain⟨it,zv,a2,a3,rfl,Z,a6,a7⟩:=X14 hz;show W42 X1 zv.cells.toList call T H nx z k=z\/∃ v H' nx',W42 X1 zv.cells.toList call T H nx z k=k v H' nx'/\_;unfold W42;rw[G2]
 split
 .rename_i m cp hv
  refine .inr ⟨undef,H,nx,rfl,fun F a w K Q ht hr hk => ?_⟩;have h1:=evX ht hx J;rw[hv] at h1;have he:=h1.sliceN_inv;refine C3 (v := .tuple #[]) (w':=w) ?_ (hk _ F w (VR.undef F) (N2.refl hr));rw[O];have E:=q1 a;rw[he] at E;simp only[Builtin.clear_,q0,E,Sem.run_bind,run_underlying hu,Result.andThen_ok,Sem.run_pure]
 .rename_i b o' m cp hv
  cases hm:Nat.beq m 0 with
  | true=>
   have W:m=0:=Nat.eq_of_beq_eq_true hm;subst W;refine .inr ⟨undef,H,nx,rfl,fun F a w K Q ht hr hk => ?_⟩;have h1:=evX ht hx J;rw[hv] at h1;obtain⟨_,tt,c',hF,he,_⟩:=h1.slice_inv;refine C3 (v := .tuple #[]) (w':=w) ?_ (hk _ F w (VR.undef F) (N2.refl hr));rw[O];have E:=q1 a;rw[he] at E;simp only[Builtin.clear_,q0,E,Sem.run_bind,run_underlying hu,Result.andThen_ok,Sem.run_pure]
  | false=>
   have W:m≠0:=fun e=>by subst e;simp at hm
   simp only[cond_false]
   cases a1:Z0 (U3 zv.cells.toList m) with
   | false=>exact .inl rfl
   | true=>
    simp only[cond_true];rcases M20 (F:=fun _=>none) (H:=H) (nx:=nx) (b:=b) (o':=o') (vs:=U3 zv.cells.toList m) none z (fun H=>k undef H nx) with h | ⟨H',h,hp⟩
    .exact .inl h
    .refine .inr ⟨_,H',nx,h,fun F a w K Q ht hr hk => ?_⟩
     have h1:=evX ht hx J;rw[hv] at h1;obtain⟨_,tt,c',hF,he,_⟩:=h1.slice_inv;have V:VL F (U3 zv.cells.toList m) (U3 zv.cells.toList m):=VL.repeat (X12 Z F) m;obtain⟨w',a5,U⟩:=hp F P w tt _ hr hF V (K14 V a1);refine C3 (v := .tuple #[]) (w':=w') ?_ (hk _ F w' (VR.undef F) U);rw[O];have E:=q1 a;rw[he] at E;have a4:(Builtin.zeroCells zv.cells m).toList=U3 zv.cells.toList m:=B16 zv.cells m;obtain⟨m',rfl⟩:∃ m',m=m'+1:=⟨m-1,by omega⟩
     simp only[Builtin.clear_,q0,E,Sem.run_bind,run_underlying hu,Result.andThen_ok,Sem.run_pure,E19 a2 a3,a4,a5]
 .exact .inl rfl
theorem C60 {i : IE} (hI : W18 P n o = some (.e i)) {call : Z3 β} (hcall : E11 P call) (z : β) (k : Value -> Y0 -> Nat -> β) :
    evE i call T H nx z k = z \/ ∃ v H' nx', evE i call T H nx z k = k v H' nx' /\ EV P d n o T H nx v H' nx' := by
  have h := (E20 hI).resolve_right (by simp)
  clear hI
  unfold G19 at h
  split at h
  case h_24 =>
    rename_i t x v ho
    split at h
    · rename_i h1 h2 h3; cases h; exact W63 ho h1 h2 h3 call z k
    · cases h
  case h_25 =>
    rename_i t m key v ho
    split at h
    · rename_i h1 h2 h3 h4
      cases hk : P.underlying _ with
      | none => rw [hk] at h; cases h
      | some kd => rw [hk] at h; cases h; exact V41 ho (.inl rfl) h1 h2 h3 h4 hk call z k
    · cases h
  case h_28 =>
    rename_i t m key v ho
    split at h
    · rename_i h1 h2 h3 h4
      cases hk : P.underlying _ with
      | none => rw [hk] at h; cases h
      | some kd => rw [hk] at h; cases h; exact V41 ho (.inr rfl) h1 h2 h3 h4 hk call z k
    · cases h
  case h_26 =>
    rename_i c ho
    split at h
    case h_1 =>
      rename_i f hc
      split at h
      · rename_i h1 h2; cases h; exact Y54 ho hc h1 h2 hcall z k
      · cases h
    case h_2 =>
      rename_i hc
      split at h
      · rename_i t u tl s x xl h1 h2
        split at h
        · rename_i g1 g2 g3 g4
          split at h
          · rename_i z0 inf g5 g6
            split at h
            · cases h
            · rename_i hud
              cases hb : Nat.blt 0 inf.size with
              | false => rw [hb] at h; cases h
              | true => rw [hb] at h; cases h; exact Z58 ho hc h1 h2 g1 g2 g3 g4 (fun k' e => hud k' e) g5 g6 (by simpa using hb) call z k
          · cases h
        · cases h
      · cases h
    case h_3 =>
      rename_i hc
      split at h
      · rename_i t tl s x xl h1 h2
        split at h
        · rename_i g1 g2 g3
          cases hk : P.info? _ with
          | none => rw [hk] at h; cases h
          | some inf => rw [hk] at h; cases h; exact C52 ho hc h1 h2 g1 g2 g3 hk call z k
        · cases h
      · cases h
    all_goals first
      | (cases h; done)
      | (split at h <;> cases h; done)
      | (rename_i hc; split at h
         · rename_i t x h1 h2
           split at h
           · rename_i g1 g2; cases h; exact D55 ho hc h1 h2 g1 g2 call z k
           · rename_i g1 g2
             cases hz : M10 P _ with
             | none => rw [hz] at h; cases h
             | some zero => rw [hz] at h; cases h; exact M53 ho hc h1 h2 g1 g2 hz call z k
           · cases h
         · cases h
         done)
      | (repeat' (first | (cases h; done) | split at h))
      | skip
    all_goals first
      | (rw [Bool.cond_eq_ite] at h; split at h <;> cases h; done)
      | (rw [Option.map_eq_some_iff] at h; obtain ⟨_, _, h⟩ := h; cases h; done)
  all_goals first
    | (cases h; done)
    | (split at h <;> cases h; done)
    | (repeat' (first | (cases h; done) | split at h))
    | skip
  all_goals first
    | (rw [Bool.cond_eq_ite] at h; split at h <;> cases h; done)
    | (rw [Option.map_eq_some_iff] at h; obtain ⟨_, _, h⟩ := h; cases h; done)
end
theorem TR.put{d:Nat}{F:FM}{T:K0 Value}{n:Nat}{a:Act}(ht:TR d F T n a.tmps){t:Nat}(J:t<n){v v':Value}(hv:VR F v v'):TR d F (ts d T t v) n (a.put (some t) v').tmps:=by
 have E:∀ j,j<n->j<2^d:=fun j hj=>Nat.lt_of_lt_of_le hj ht.le
 refine⟨U16 d T t v ht.wf,by simp[Act.put,ht.size],ht.le,fun j hj => ?_⟩;rw[K21 d T t j v ht.wf (E t J) (E j hj)]
 by_cases e:j=t
 .subst e
  simp[Act.put,ht.size,hj];exact hv
 .have:=ht.get j hj
  simp only[e,if_false];have e2:(a.put (some t) v').tmps.getD j undef=a.tmps.getD j undef:=by
   simp[Act.put,Array.getElem?_setIfInBounds_ne (Ne.symm e)]
  rw[e2];exact this
def U8(n:Nat)(W:List Nat)(T T':K0 Value):Prop:=∀ j,j<n->j ∉ W->(tg T' j).getD undef=(tg T j).getD undef
theorem U8.refl(n:Nat)(W:List Nat)(T:K0 Value):U8 n W T T:=fun _ _ _=>rfl
theorem U8.trans{n:Nat}{W W':List Nat}{T T1 T2:K0 Value}(h:U8 n W T T1)(h':U8 n W' T1 T2):U8 n (W++W') T T2:=fun j hj hn=>by
 rw[List.mem_append] at hn;exact(h' j hj (fun h=>hn (.inr h))).trans (h j hj (fun h=>hn (.inl h)))
theorem U8.mono{W W':List Nat}{T T1:K0 Value}(h:U8 n W T T1)(hs:∀ j ∈ W,j ∈ W'):U8 n W' T T1:=fun j hj hn=>h j hj (fun hh=>hn (hs j hh))
theorem Z66{t:Nat}{T:K0 Value}(hn:n<=2^d)(ht:t<n)(hw:WF d T)(v:Value):U8 n [t] T (ts d T t v):=fun j hj E=>by
 rw[K21 d T t j v hw (by omega) (by omega),if_neg (by simpa using E)]
theorem R14{dst:Option Nat}{v:Value}{T:K0 Value}(k:K0 Value->β):
  ∃ T',E4 d dst v T k=k T'/\(WF d T->WF d T'/\∀ n,n<=2^d->(∀ t,dst=some t->t<n)->U8 n dst.toList T T')/\∀(F:FM) (n:Nat) (a:Act) (v':Value),(∀ t,dst=some t->t<n)->TR d F T n a.tmps->VR F v v'->TR d F T' n (a.put dst v').tmps:=by
 cases dst with
 | none=>exact⟨T,rfl,fun h=>⟨h,fun n _ _=>U8.refl _ _ _⟩,fun F n a v' _ ht _=>ht⟩
 | some t=>
  refine⟨ts d T t v,Z15 d T t v k,fun h=>⟨U16 d T t v h,fun n hn E=>Z66 hn (E t rfl) h v⟩,fun F n a v' E ht hv=>ht.put (E t rfl) hv⟩
def GR(g:Option (Nat × Bool))(F:FM)(T:K0 Value)(a:Act):Prop:=∀ t E,g=some (t,E)->t<a.tmps.size/\VR F ((tg T t).getD undef) (a.tmps.getD t undef)
theorem B28{ops:List Oper}{o:Oper}{g:Option (Nat × Bool)}(hg:W16 n ops o.guard=some g)(T:K0 Value)(z Q no:β):
  V8 g T z Q no=z\/(V8 g T z Q no=Q/\∀(F:FM) (a:Act),GR g F T a->Region.wanted o (yielded ops.toArray a.tmps)=true) \/
  (V8 g T z Q no=no/\∀(F:FM) (a:Act),GR g F T a->Region.wanted o (yielded ops.toArray a.tmps)=false):=by
 cases O:o.guard with
 | none=>
  rw[O] at hg;simp[W16] at hg;subst hg;exact .inr (.inl ⟨rfl,fun F a _=>by simp[Region.wanted,O]⟩)
 | some jw=>
  obtain⟨j,E⟩:=jw;rw[O] at hg;simp only[W16] at hg
  cases hj:nth ops j with
  | none=>simp[hj] at hg
  | some oj=>
   cases hd:oj.dst with
   | none=>simp[hj,hd] at hg
   | some t=>
    simp only[hj,hd] at hg
    cases hb:Nat.blt t n with
    | false=>rw[hb] at hg;cases hg
    | true=>
     rw[hb] at hg;cases hg;have hy:∀(F:FM) (a:Act),GR (some (t,E)) F T a->∃ v',VR F ((tg T t).getD undef) v'/\yielded ops.toArray a.tmps j=(match v' with | .bool b=>some b | _=>none):=by
      intro F a ht;obtain⟨U,J⟩:=ht t E rfl;refine⟨a.tmps.getD t undef,J,?_⟩;rw[Q8] at hj;simp only[yielded,List.getElem?_toArray,hj,Option.bind_some,hd,Array.getElem?_eq_getElem U];have:a.tmps.getD t undef=a.tmps[t]:=by simp[U]
      rw[this]
      cases a.tmps[t]<;>rfl
     unfold V8;dsimp only;rw[J11]
     cases hv:tg T t with
     | none=>
      refine .inr (.inr ⟨rfl,fun F a ht => ?_⟩);obtain⟨v',J,he⟩:=hy F a ht;rw[hv] at J
      cases J
      simp[Region.wanted,O,he]
     | some v=>
      dsimp only[Option.elim_some]
      split
      .rename_i b
       rw[E14];have key:∀(F:FM) (a:Act),GR (some (t,E)) F T a->Region.wanted o (yielded ops.toArray a.tmps)=cond b E (!E):=by
        intro F a ht;obtain⟨v',J,he⟩:=hy F a ht;rw[hv] at J;have:=VR.bool_inv J;subst this;simp only[Region.wanted,O,he]
        cases b<;>cases E<;>rfl
       cases hc:cond b E (!E) with
       | true=>exact .inr (.inl ⟨rfl,fun F a ht=>by rw[key F a ht,hc]⟩)
       | false=>exact .inr (.inr ⟨rfl,fun F a ht=>by rw[key F a ht,hc]⟩)
      .exact .inl rfl
      .rename_i V W
       refine .inr (.inr ⟨rfl,fun F a ht => ?_⟩);obtain⟨v',J,he⟩:=hy F a ht;rw[hv] at J;simp only[Option.getD_some] at J;have:∀ b,v' ≠ .bool b:=by
        intro b hb;subst hb
        cases J
        .exact W _ rfl
        .exact V b rfl
       simp only[Region.wanted,O,he]
       cases v'<;>first | rfl | exact absurd rfl (this _)
end Go.Clo

namespace Go.Clo
variable {n:Nat} {o:Oper} {ops:List Oper} {s:S}
theorem D8(a:Act)(dst:Option Tmp)(v:Value):(a.put dst v).defers=a.defers:=by cases dst<;>rfl
theorem E63{t:Option Tmp}{r:Option Nat}(h:E42 n t=some r):r=t/\∀ q,t=some q->q<n:=by
 cases t with
 | none=>simp[E42] at h;exact⟨h.symm,fun q hq=>by cases hq⟩
 | some t=>
  simp only[E42] at h
  cases hb:Nat.blt t n with
  | false=>rw[hb] at h;cases h
  | true=>rw[hb] at h;cases h;exact⟨rfl,fun q hq=>by cases hq;simpa using hb⟩
theorem M16{P:Program}(h:K16 P n ops o=some s):W16 n ops o.guard=some s.guard/\s.dst=o.dst/\(∀ q,o.dst=some q->q<n)/\W18 P n o=some s.i:=by
 unfold K16 at h
 split at h
 .rename_i g d i h1 h2 h3
  cases h
  obtain⟨e1,e2⟩:=E63 h2;exact⟨h1,e1,e2,h3⟩
 .cases h
theorem TR.gr{d:Nat}{F:FM}{T:K0 Value}{a:Act}(ht:TR d F T n a.tmps){g:Option (Nat × Bool)}(hg:W16 n ops o.guard=some g):GR g F T a:=by
 intro t O e;subst e;have E:t<n:=by
  cases J:o.guard with
  | none=>rw[J] at hg;simp[W16] at hg
  | some jw=>
   obtain⟨j,w⟩:=jw;rw[J] at hg;simp only[W16] at hg
   split at hg
   .split at hg
    .rename_i t' _
     cases hb:Nat.blt t' n with
     | false=>rw[hb] at hg;cases hg
     | true=>rw[hb] at hg;cases hg;simpa using hb
    .cases hg
   .cases hg
 exact⟨by rw[ht.size];exact E,ht.get t E⟩
def E69(P:Program)(d n:Nat)(ops:List Oper)(o:Oper)(T:K0 Value)(H:Y0)(nx:Nat)(T':K0 Value)(H':Y0)(nx':Nat):Prop:=
 ∀(F:FM) (a:Act) (w:World) (K:Act->World->Prop) (Q:Exit->Act->World->Prop),TR d F T n a.tmps->HR F H nx w ->
  (∀ F' a' w',TR d F' T' n a'.tmps->N2 F H nx w F' H' nx' w'->a'.defers=a.defers->K a' w') ->
  if Region.wanted o (yielded ops.toArray a.tmps) then o.wp P a w K Q\/(o.asks P a w/\LetsOut Q) else K (a.put o.dst undef) w
section
variable {β:Type} {P:Program} {d n:Nat} {ops:List Oper}
theorem R53(hs:K16 P n ops o=some s)(hn:n<=2^d){call:Z3 β}(W:E11 P call)(T:K0 Value)(H:Y0)(nx:Nat)(z:β)(k:K0 Value->Y0->Nat->β):
  U18 P d call s T H nx z k=z\/∃ T' H' nx',U18 P d call s T H nx z k=k T' H' nx'/\(WF d T->WF d T'/\U8 n s.dst.toList T T')/\E69 P d n ops o T H nx T' H' nx':=by
 obtain⟨hg,hd,J,hi⟩:=M16 hs;obtain⟨g,dst,i⟩:=s;dsimp only at hg hd hi;subst hd;show V8 g T z (V30 i P d o.dst call T H nx z k) (E4 d o.dst undef T fun T=>k T H nx)=z\/∃ T' H' nx',V8 g T z (V30 i P d o.dst call T H nx z k) (E4 d o.dst undef T fun T=>k T H nx)=k T' H' nx'/\_;rcases B28 hg T z (V30 i P d o.dst call T H nx z k) (E4 d o.dst undef T fun T=>k T H nx) with e | ⟨e,hw⟩ | ⟨e,hw⟩
 .exact .inl e
 .rw[e]
  cases i with
  | p i=>
   show C54 i P d o.dst call T H nx z k=z\/∃ T' H' nx',C54 i P d o.dst call T H nx z k=k T' H' nx'/\_;unfold C54;rcases K61 (P:=P) (d:=d) (T:=T) hi z (fun v=>E4 d o.dst v T fun T=>k T H nx) with h | ⟨v,h,hp⟩
   .exact .inl h
   .obtain⟨T',O,E,hT⟩:=R14 (d:=d) (dst:=o.dst) (v:=v) (T:=T) (fun T=>k T H nx)
    refine .inr ⟨T',H,nx,by rw[h,O],fun h=>⟨(E h).1,(E h).2 n hn J⟩,fun F a w K Q ht hr hk => ?_⟩;rw[if_pos (hw F a (ht.gr hg))];obtain⟨v',U,hv⟩:=hp F a w (ht.or o);exact .inl (C3 U (hk F _ w (hT F n a v' J ht hv) (N2.refl hr) (D8 a _ _)))
  | r i=>
   show K56 i P d o.dst call T H nx z k=z\/∃ T' H' nx',K56 i P d o.dst call T H nx z k=k T' H' nx'/\_;unfold K56;rcases U34 (P:=P) (d:=d) (T:=T) (H:=H) (nx:=nx) hi z (fun v=>E4 d o.dst v T fun T=>k T H nx) with h | ⟨v,h,hp⟩
   .exact .inl h
   .obtain⟨T',O,E,hT⟩:=R14 (d:=d) (dst:=o.dst) (v:=v) (T:=T) (fun T=>k T H nx)
    refine .inr ⟨T',H,nx,by rw[h,O],fun h=>⟨(E h).1,(E h).2 n hn J⟩,fun F a w K Q ht hr hk => ?_⟩;rw[if_pos (hw F a (ht.gr hg))];obtain⟨v',U,hv⟩:=hp F a w (ht.or o) hr.hb;exact .inl (C3 U (hk F _ w (hT F n a v' J ht hv) (N2.refl hr) (D8 a _ _)))
  | a i=>
   show Z42 i P d o.dst call T H nx z k=z\/∃ T' H' nx',Z42 i P d o.dst call T H nx z k=k T' H' nx'/\_;unfold Z42
   .rcases W57 (P:=P) (d:=d) (T:=T) hi z (J36 d o.dst T H nx k) with h | ⟨b,y,h,hp⟩
    .exact .inl h
    .unfold J36 at h
     rw[G4,G1,E7] at h;obtain⟨T',O,E,hT⟩:=R14 (d:=d) (dst:=o.dst) (v:=y.val nx) (T:=T) (fun T=>k T (Go.Clo.hs H nx (some b)) (nx+1));rw[O] at h;refine .inr ⟨T',_,nx+1,h,fun h=>⟨(E h).1,(E h).2 n hn J⟩,fun F a w K Q ht hr hk => ?_⟩;rw[if_pos (hw F a (ht.gr hg))];obtain⟨a0,U,Z⟩:=hp F a w (ht.or o);obtain⟨t,e1,e2,V⟩:=N2.new hr Z;have hv:VR (upd F nx t) (y.val nx) (y.real w.heap.size):=by rw[<- e1];exact Q0.vr (Y6 F nx t) e2 y
     exact .inl (C3 U (hk _ _ _ (hT _ n a _ J (ht.mono (V.fle hr)) hv) V (D8 a _ _)))
  | e i=>
   show N53 i P d o.dst call T H nx z k=z\/∃ T' H' nx',N53 i P d o.dst call T H nx z k=k T' H' nx'/\_;unfold N53;rcases C60 (P:=P) (d:=d) (T:=T) (H:=H) (nx:=nx) hi W z (fun v H nx=>E4 d o.dst v T fun T=>k T H nx) with h | ⟨v,H',nx',h,hp⟩
   .exact .inl h
   .obtain⟨T',O,E,hT⟩:=R14 (d:=d) (dst:=o.dst) (v:=v) (T:=T) (fun T=>k T H' nx')
    refine .inr ⟨T',H',nx',by rw[h,O],fun h=>⟨(E h).1,(E h).2 n hn J⟩,fun F a w K Q ht hr hk => ?_⟩;rw[if_pos (hw F a (ht.gr hg))];refine .inl (hp F a w K Q (ht.or o) hr fun v' F' w' hv V => ?_);exact hk F' _ w' (hT F' n a v' J (ht.mono (V.fle hr)) hv) V (D8 a _ _)
 .rw[e]
  obtain⟨T',O,E,hT⟩:=R14 (d:=d) (dst:=o.dst) (v:=undef) (T:=T) (fun T=>k T H nx);refine .inr ⟨T',H,nx,O,fun h=>⟨(E h).1,(E h).2 n hn J⟩,fun F a w K Q ht hr hk => ?_⟩;rw[if_neg (by simp[hw F a (ht.gr hg)])];exact hk F _ w (hT F n a undef J ht (VR.undef F)) (N2.refl hr) (D8 a _ _)
def Q10:List S->List Nat
 | []=>[]
 | s :: l=>s.dst.toList++Q10 l
theorem D37(hn:n<=2^d){call:Z3 β}(J:E11 P call)(z:β)(k:K0 Value->Y0->Nat->β):∀(suf:List Oper) (l:List S) (i:Nat),R3 P n ops suf=some l->(∀ j,j<suf.length->suf[j]? = ops[i+j]?)->∀(T:K0 Value) (H:Y0) (nx:Nat),
  C9 P d call z k l T H nx=z\/∃ T' H' nx',C9 P d call z k l T H nx=k T' H' nx'/\(WF d T->WF d T'/\U8 n (Q10 l) T T') /\
   ∀(F:FM) (a:Act) (w:World) (Q:Exit->Act->World->Prop) (E:List Nat),TR d F T n a.tmps->HR F H nx w ->
    (∀ F' a' w',TR d F' T' n a'.tmps->N2 F H nx w F' H' nx' w'->a'.defers=a.defers->wpOps P ops.toArray Q E a' w')->wpOps P ops.toArray Q (List.range' i suf.length++E) a w
 | [],l,i,h,_,T,H,nx=>by
  simp[R3] at h;subst h;exact .inr ⟨T,H,nx,rfl,fun h=>⟨h,U8.refl _ _ _⟩,fun F a w Q E ht hr hk=>by simpa using hk F a w ht (N2.refl hr) rfl⟩
 | o :: suf,l,i,h,hsuf,T,H,nx=>by
  simp only[R3] at h
  cases hs:K16 P n ops o with
  | none=>simp[hs] at h
  | some s=>cases hl:R3 P n ops suf with
   | none=>simp[hs,hl] at h
   | some l'=>
    simp[hs,hl] at h;subst h;show U18 P d call s T H nx z (C9 P d call z k l')=z\/∃ T' H' nx',U18 P d call s T H nx z (C9 P d call z k l')=k T' H' nx'/\_;rcases R53 (d:=d) hs hn J T H nx z (C9 P d call z k l') with h1 | ⟨T1,H1,nx1,h1,hw1,hok⟩
    .exact .inl h1
    .rw[h1]
     rcases D37 hn J z k suf l' (i+1) hl (fun j hj=>by have:=hsuf (j+1) (by simp;omega);simpa [Nat.add_assoc,Nat.add_comm 1 j] using this) T1 H1 nx1 with h2 | ⟨T2,H2,nx2,h2,hw2,hp⟩
     .exact .inl h2
     .refine .inr ⟨T2,H2,nx2,h2,fun h=>⟨(hw2 (hw1 h).1).1,(hw1 h).2.trans (hw2 (hw1 h).1).2⟩,fun F a w Q E ht hr hk => ?_⟩
      simp only[List.length_cons,List.range'_succ,List.cons_append];rw[wpOps_cons];unfold wpOp;have ho:ops.toArray[i]? = some o:=by have:=hsuf 0 (by simp);simpa using this.symm
      simp only[ho];refine hok F a w _ Q ht hr fun F' a' w' W V a0 => ?_
      exact hp F' a' w' Q E W V.hr fun F2 a2 w2 Z U O=>hk F2 a2 w2 Z (V.trans U) (O.trans a0)
theorem W58(hn:n<=2^d){call:Z3 β}(E:E11 P call)(z:β)(k:K0 Value->Y0->Nat->β)(suf:List Oper)(l:List S)(i:Nat)(h:R3 P n ops suf=some l)(J:∀ j,suf[j]? = ops[i+j]?)(T:K0 Value)(H:Y0)(nx:Nat):
  C9 P d call z k l T H nx=z\/∃ T' H' nx',C9 P d call z k l T H nx=k T' H' nx'/\(WF d T->WF d T'/\U8 n (Q10 l) T T') /\
   ∀(F:FM) (a:Act) (w:World) (Q:Exit->Act->World->Prop),TR d F T n a.tmps->HR F H nx w ->
    (∀ F' a' w',TR d F' T' n a'.tmps->N2 F H nx w F' H' nx' w'->a'.defers=a.defers->Q .normal a' w')->wpOps P ops.toArray Q (List.range' i suf.length) a w:=by
 rcases D37 hn E z k suf l i h (fun j _=>J j) T H nx with h1 | ⟨T',H',nx',h1,h2,h3⟩
 .exact .inl h1
 .exact .inr ⟨T',H',nx',h1,h2,fun F a w Q ht hr hk=>by simpa using h3 F a w Q [] ht hr hk⟩
end
end Go.Clo
