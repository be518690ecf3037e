/-
  The closed executor: a region's operations in whatever order: one operation.
  The closed executor: a region's operations in whatever order.
  The closed executor: a region that draws its order.
-/
import Derived.Test.YtoiioigihocgbaaGreatDoorN9
set_option linter.all false
namespace Go.Clo
variable {b:C1} {i t:Nat} {l pre pre0:List D3} {o:Oper} {r:D3}
theorem G17{E l':List D3}{r':D3}(h:pre++r :: l=E++r' :: l')(hl:l.length=l'.length):r=r'/\l=l':=by
 have h2:(r :: l)=(r' :: l'):=by
  have:=congrArg (fun x=>x.drop (pre.length)) h;have hp:pre.length=E.length:=by have:=congrArg List.length h;simp at this;omega
  simp at this;rw[hp] at this;simpa using this
 cases h2;exact⟨rfl,rfl⟩
theorem E18:∀{rc:List D3}{j:Nat}{b:C1},(j,b) ∈ B3 rc->∃ pre r l,rc=pre++r :: l/\l.length=j/\r.inf = .a b
 | [],j,b,h=>by simp[B3] at h
 | r :: l,j,b,h=>by
  have E:(j,b) ∈ B3 l->∃ pre r' l',r :: l=pre++r' :: l'/\l'.length=j/\r'.inf = .a b:=by
   intro h;obtain⟨pre,r',l',h1,h2,h3⟩:=E18 h;exact⟨r :: pre,r',l',by rw[h1];rfl,h2,h3⟩
  simp only[B3] at h
  split at h
  .rename_i b' hb
   rcases List.mem_cons.1 h with e | h
   .cases e;exact⟨[],r,l,rfl,rfl,hb⟩
   .exact E h
  .exact E h
theorem U64{pre:List D3}{r:D3}(h:r.inf = .a b):(l.length,b) ∈ B3 (pre++r :: l):=by
 induction pre with
 | nil=>simp[B3,h]
 | cons x pre ih=>
  simp only[List.cons_append,B3]
  split
  .exact List.mem_cons_of_mem _ ih
  .exact ih
theorem V66{j:Nat}(h:(j,b) ∈ B3 (pre++l))(hj:j<l.length):(j,b) ∈ B3 l:=by
 induction pre with
 | nil=>exact h
 | cons x pre ih=>
  simp only[List.cons_append,B3] at h
  split at h
  .rcases List.mem_cons.1 h with e | h
   .cases e;simp at hj;omega
   .exact ih h
  .exact ih h
theorem X69{q:Nat × C1}(h:q ∈ B3 l):q ∈ B3 (pre++l):=by
 induction pre with
 | nil=>exact h
 | cons x pre ih=>
  simp only[List.cons_append,B3]
  split
  .exact List.mem_cons_of_mem _ ih
  .exact ih
theorem Y28:∀{rc:List D3}{e:Nat},e ∈ D1 rc->∃ pre r l H nx,rc=pre++r :: l/\l.length=e/\r.inf = .e H nx
 | [],e,h=>by simp[D1] at h
 | r :: l,e,h=>by
  have E:e ∈ D1 l->∃ pre r' l' H nx,r :: l=pre++r' :: l'/\l'.length=e/\r'.inf = .e H nx:=by
   intro h;obtain⟨pre,r',l',H,nx,h1,h2,h3⟩:=Y28 h;exact⟨r :: pre,r',l',H,nx,by rw[h1];rfl,h2,h3⟩
  simp only[D1] at h
  split at h
  .rename_i H nx hb
   rcases List.mem_cons.1 h with rfl | h
   .exact⟨[],r,l,H,nx,rfl,rfl,hb⟩
   .exact E h
  .exact E h
theorem N47{q:Nat}(h:q ∈ D1 l):q ∈ D1 (pre++l):=by
 induction pre with
 | nil=>exact h
 | cons x pre ih=>
  simp only[List.cons_append,D1]
  split
  .exact List.mem_cons_of_mem _ ih
  .exact ih
theorem X66{e:Nat}(h:e ∈ D1 (pre++l))(hj:e<l.length):e ∈ D1 l:=by
 induction pre with
 | nil=>exact h
 | cons x pre ih=>
  simp only[List.cons_append,D1] at h
  split at h
  .rcases List.mem_cons.1 h with e | h
   .subst e;simp at hj;omega
   .exact ih h
  .exact ih h
theorem N17{H0:Y0}{n0:Nat}:∀ {E l:List D3},(∀ e ∈ D1 (E++l),e<l.length)->D1 (E++l)=D1 l/\hR H0 (E++l)=hR H0 l/\nR n0 (E++l)=nR n0 l
 | [],l,_=>⟨rfl,rfl,rfl⟩
 | r :: E,l,h=>by
  cases J:r.inf with
  | e H' nx'=>
   have:=h (E++l).length (by simp[D1,J]);simp at this;omega
  | _=>
   have h':∀ e ∈ D1 (E++l),e<l.length:=fun e he=>h e (by simp[D1,J,he])
   obtain⟨h1,h2,h3⟩:=N17 (H0:=H0) (n0:=n0) h';simp[D1,hR,nR,J,h1,h2,h3]
theorem X18{N:Nat}{p p':Nat->Bool}{q:Nat}:∀ {l:List (Nat × C1)},(∀ x ∈ l,N+x.1=q->p x.1=p' x.1)->J5 N p q l=J5 N p' q l
 | [],_=>rfl
 | (j,b) :: l,h=>by
  simp only[J5];have ih:=X18 (p:=p) (p':=p') (q:=q) (l:=l) fun x hx=>h x (by simp[hx])
  rw[ih]
  by_cases e:N+j=q
  .have:=h (j,b) (by simp) e
   simp only at this;rw[this]
  .rw[if_neg (fun hc=>e hc.1),if_neg (fun hc=>e hc.1)]
structure Inv (n:Nat) (ops:List Oper) (N:Nat) (H0:Y0) (T0:K0 Value) (rc:List D3) (F0:FM) (w0:World) (ds:List Deferred) (D:Nat->Bool) (a:Act) (w:World) (F:FM) (X:Y0) (l':List D3):Prop where
 suf:∃ pre,rc=pre++l'
 done:∀ e ∈ D1 l',D e=true
 todo:∀ e ∈ D1 rc,e ∉ D1 l'->D e=false
 size:a.tmps.size=n
 slots:∀ t,t<n->VR F (W9 ops T0 D rc t) (a.tmps.getD t undef)
 heap:∀ q,J0 X q=(J5 N (fun j=>D j && !Y3 (U1 ops) (D1 l') j) q (B3 rc)).or (J0 (hR H0 l') q)
 free:∀ j,j<ops.length->Y3 (U1 ops) (D1 l') j=false->J0 (hR H0 l') (N+j)=none
 stp:N2 F0 H0 N w0 F X (nR (N+ops.length) l') w
 res:∀ j,j<ops.length->D j=false->F (N+j)=none
 nx:N+ops.length<=nR (N+ops.length) l'
 defers:a.defers=ds
section
variable {P:Program} {d n:Nat} {ops:List Oper} {N:Nat} {H0:Y0} {T0:K0 Value} {rc:List D3} {F0:FM} {w0:World} {ds:List Deferred} {D:Nat->Bool} {a:Act} {w:World} {F:FM} {X:Y0} {l':List D3}
theorem Inv.sees(hI:Inv n ops N H0 T0 rc F0 w0 ds D a w F X l')(J:rc.length=ops.length)(hp:∀ j,D2 (U1 ops) i j=true->D j=true){as:List (Nat × C1)}{L:Nat}(hL:L<=ops.length)(hk:X17 L as)(has:∀ q ∈ as,q ∈ B3 rc):
  ∀ q b,J0 (X8 N (fun j=>D2 (U1 ops) i j && !Y3 (U1 ops) (D1 l') j) (hR H0 l') as) q=some b->J0 X q=some b:=by
 intro q b hg;rw[Y10 (L:=L) hk q] at hg;rw[hI.heap q];have U:X17 ops.length (B3 rc):=by rw[<- J];exact Q13 rc
 cases O:J5 N (fun j=>D2 (U1 ops) i j && !Y3 (U1 ops) (D1 l') j) q as with
 | some b'=>
  rw[O] at hg;simp at hg;subst hg;obtain⟨j,hm,rfl,E⟩:=W11 O;rw[Bool.and_eq_true] at E;rw[N15 U (has _ hm) (by rw[hp j E.1,E.2];rfl)]
  rfl
 | none=>
  rw[O] at hg;simp at hg
  cases Q:J5 N (fun j=>D j && !Y3 (U1 ops) (D1 l') j) q (B3 rc) with
  | none=>simpa using hg
  | some b'=>
   exfalso;obtain⟨j,hm,rfl,E⟩:=W11 Q;rw[Bool.and_eq_true] at E;have hj:j<ops.length:=by
    obtain⟨pre,r,l,h1,h2,_⟩:=E18 hm;rw[<- J,h1];simp;omega
   rw[hI.free j hj (by simpa using E.2)] at hg
   cases hg
theorem W60{ops:List Oper}(h:Operand.tmp t ∈ o.op.operands):t ∈ J17 ops o:=by
 unfold J17;apply List.mem_append_left;rw[List.mem_filterMap];exact⟨.tmp t,by simpa using h,rfl⟩
theorem Inv.look{o:Oper}{i:Nat}(E:∀ i o,ops[i]? = some o->R12 ops i o)(W:rc=pre0++r :: l)(hl:l.length=i)(a1:rc.length=ops.length)(ho:ops[i]? = some o)
  (Q:D i=false)(hp:∀ j,D2 (U1 ops) i j=true->D j=true)(a0:∀ i j,D i=true->D2 (U1 ops) i j=true->D j=true)(ht:t ∈ J17 ops o):W9 ops T0 D rc t=C10 ops T0 l t:=by
 have O:=E i o ho;have key:∀ j,j≠i->(ops[j]?).bind (·.dst)=some t->D2 (U1 ops) i j=true\/D2 (U1 ops) j i=true:=by
  intro j hj hd
  cases J:ops[j]? with
  | none=>rw[J] at hd;cases hd
  | some oj=>
   rw[J] at hd;exact(O.one j oj t J (by simpa using hd) (Ne.symm hj)).2 ht
 have V:(ops[i]?).bind (·.dst)≠some t:=by
  rw[ho];intro h;exact O.self t (by simpa using h) ht
 rw[W,Y39 (l:=r :: l)]
 .simp only[W9]
  rw[if_neg (by rw[hl,Q];rintro⟨h,_⟩;cases h)];apply Y37;intro j hj hd;rcases key j (by omega) hd with h | h
  .exact hp j h
  .have:=V36 E _ _ h;omega
 .intro j h1 h2 hd
  have Z:j≠i:=by simp at h1;omega
  rcases key j Z hd with h | h
  .have:=V36 E _ _ h
   simp at h1;omega
  .cases U:D j with
   | false=>rfl
   | true=>have:=a0 j i U h;rw[Q] at this;cases this
theorem Inv.or{o:Oper}{s:S}{i n0:Nat}(hI:Inv n ops N H0 T0 rc F0 w0 ds D a w F X l')(W:∀ i o,ops[i]? = some o->R12 ops i o)(V:rc=pre0++r :: l)(hl:l.length=i)(U:rc.length=ops.length)
  (hf:M63 P d n ops N H0 n0 T0 r l o s)(a0:D i=false)(hp:∀ j,D2 (U1 ops) i j=true->D j=true)(Z:∀ i j,D i=true->D2 (U1 ops) i j=true->D j=true):OR n o F r.T a/\GR s.guard F r.T a:=by
 have ho:ops[i]? = some o:=by rw[<- hl];exact hf.ho
 have O:∀ t,t<n->t ∈ J17 ops o->VR F ((tg r.T t).getD undef) (a.tmps.getD t undef):=by
  intro t J ht;rw[hf.hT t J,<- Inv.look (T0:=T0) W V hl U ho a0 hp Z ht];exact hI.slots t J
 refine⟨?_,?_⟩
 .intro x hx y hc
  cases x with
  | tmp t=>
   simp only[N0] at hc
   cases hb:Nat.blt t n with
   | false=>rw[hb] at hc;cases hc
   | true=>
    rw[hb] at hc;cases hc;rw[E53];exact O t (by simpa using hb) (W60 hx)
  | const v=>
   simp only[N0] at hc
   cases hb:X7 v with
   | false=>rw[hb] at hc;cases hc
   | true=>rw[hb] at hc;cases hc;exact C6 F v hb
  | global g=>simp[N0] at hc
  | func f=>
   simp[N0] at hc;subst hc;exact .func _ rfl (by simp) rfl (by simp)
 .intro t a3 hg
  obtain⟨E,_,_,_⟩:=M16 hf.hs;rw[hg] at E
  cases Q:o.guard with
  | none=>rw[Q] at E;simp[W16] at E
  | some jw=>
   obtain⟨j,a4⟩:=jw;rw[Q] at E;simp only[W16] at E
   split at E
   .rename_i oj a1
    split at E
    .rename_i t' a2
     cases hb:Nat.blt t' n with
     | false=>rw[hb] at E;cases E
     | true=>
      rw[hb] at E;cases E;have J:t<n:=by simpa using hb
      refine⟨by rw[hI.size];exact J,O t J ?_⟩;unfold J17;apply List.mem_append_right;rw[Q];simp[a1,a2]
    .cases E
   .cases E
theorem Inv.put{l:List D3}{r:D3}{pre0:List D3}{o:Oper}{i:Nat}{D':Nat->Bool}(hI:Inv n ops N H0 T0 rc F0 w0 ds D a w F X l')(O:∀ i o,ops[i]? = some o->R12 ops i o)(J:rc=pre0++r :: l)(hl:l.length=i)(ho:ops[i]? = some o)
  (U:D i=false)(hD:∀ j,D' j=if j=i then true else D j){F':FM}(hF:F.le F'){v':Value}(hv:VR F' r.v v'):(a.put o.dst v').tmps.size=n/\∀ t,t<n->VR F' (W9 ops T0 D' rc t) ((a.put o.dst v').tmps.getD t undef):=by
 have Q:=O i o ho;refine⟨by cases hd:o.dst<;>simp[Act.put,hI.size],fun t ht => ?_⟩;rw[J,Z45 hD hl (by
  intro j hj h1 h2;rw[ho] at h1
  cases E:ops[j]? with
  | none=>rw[E] at h2;cases h2
  | some oj=>
   rw[E] at h2;exact(Q.one j oj t E (by simpa using h2) (Ne.symm hj)).1 (by simpa using h1)) U,<- J]
 rw[ho];simp only[Option.bind_some]
 by_cases hd:o.dst=some t
 .rw[if_pos hd,hd]
  have:(a.put (some t) v').tmps.getD t undef=v':=by simp[Act.put,hI.size,ht]
  rw[this];exact hv
 .rw[if_neg hd]
  have:(a.put o.dst v').tmps.getD t undef=a.tmps.getD t undef:=by
   cases hq:o.dst with
   | none=>rfl
   | some q=>
    have:q≠t:=fun e=>hd (by rw[hq,e])
    simp[Act.put,Array.getElem?_setIfInBounds_ne this]
  rw[this];exact(hI.slots t ht).mono hF
end
end Go.Clo

namespace Go.Clo
section
variable {P:Program} {d n:Nat} {ops:List Oper} {N:Nat} {H0:Y0} {T0:K0 Value} {rc:List D3} {F0:FM} {w0:World} {ds:List Deferred} {D D':Nat->Bool} {a:Act} {w:World} {F:FM} {X:Y0} {l':List D3}
theorem Inv.quiet{l:List D3}{r:D3}{O:List D3}{o:Oper}{i:Nat}(hI:Inv n ops N H0 T0 rc F0 w0 ds D a w F X l')(W:∀ i o,ops[i]? = some o->R12 ops i o)(E:rc=O++r :: l)(hl:l.length=i)(ho:ops[i]? = some o)
  (V:D i=false)(hD:∀ j,D' j=if j=i then true else D j)(U:∀ b,r.inf ≠ .a b)(Z:∀ H nx,r.inf ≠ .e H nx){v':Value}(hv:VR F r.v v'):
  Inv n ops N H0 T0 rc F0 w0 ds D' (a.put o.dst v') w F X l':=by
 obtain⟨h1,h2⟩:=hI.put (D':=D') W E hl ho V hD (fun _ _ h=>h) hv;have J:∀ q ∈ B3 rc,q.1≠i:=by
  rintro⟨j,b⟩ hq e;obtain⟨pre,r',l2,g1,g2,g3⟩:=E18 hq;obtain⟨e1,_⟩:=G17 (E.symm.trans g1) (by simp at e;omega);rw[<- e1] at g3;exact U b g3
 have Q:∀ e ∈ D1 rc,e≠i:=by
  intro e he hh;obtain⟨pre,r',l2,H,nx,g1,g2,g3⟩:=Y28 he;obtain⟨e1,_⟩:=G17 (E.symm.trans g1) (by omega);rw[<- e1] at g3;exact Z H nx g3
 have up:∀ j,D j=true->D' j=true:=fun j h=>by rw[hD];split<;>simp[h]
 refine⟨hI.suf,fun e he=>up e (hI.done e he),fun e he hn => ?_,h1,h2,fun q => ?_,hI.free,hI.stp,fun j hj hd => ?_,hI.nx,(D8 a _ _).trans hI.defers⟩
 .rw[hD,if_neg (Q e he)];exact hI.todo e he hn
 .rw[hI.heap q]
  congr 1;apply X18;intro x hx _;simp only[hD,if_neg (J x hx)]
 .refine hI.res j hj ?_
  rw[hD] at hd
  split at hd
  .cases hd
  .exact hd
theorem D21(ms:List Nat)(i:Nat)(es:List Nat)(j:Nat):Y3 ms (i :: es) j=(D2 ms i j || Y3 ms es j):=by simp[Y3]
theorem Y63(a5:∀ i o,ops[i]? = some o->R12 ops i o)(V:rc.length=ops.length)(ab:B11 P d n ops N H0 (N+ops.length) T0 rc)
  (bh:R41 P d n ops N H0 rc)
  (hI:Inv n ops N H0 T0 rc F0 w0 ds D a w F X l'){i:Nat}(hi:i<ops.length)(W:D i=false)(hp:∀ j,D2 (U1 ops) i j=true->D j=true)(ah:∀ i j,D i=true->D2 (U1 ops) i j=true->D j=true)(hD:∀ j,D' j=if j=i then true else D j)
  {K:Act->World->Prop}{Q:Exit->Act->World->Prop}(hK:∀ a' w' F' X' c8,Inv n ops N H0 T0 rc F0 w0 ds D' a' w' F' X' c8->K a' w'):wpOp P ops.toArray Q i K a w:=by
 obtain⟨J,r,l,O,hl⟩:=V46 (rc:=rc) (i:=i) (by omega);have an:B11 P d n ops N H0 (N+ops.length) T0 (r :: l):=B11.suf (pre:=J) (O ▸ ab);obtain⟨⟨o,s,hf⟩,_⟩:=an;have ho:ops[i]? = some o:=by rw[<- hl];exact hf.ho
 obtain⟨ad,a7⟩:=hI.or (P:=P) (d:=d) a5 O hl V hf W hp ah;unfold wpOp;have cf:ops.toArray[i]? = some o:=by simpa using ho
 simp only[cf];have hw:=hf.what
 cases E:r.inf with
 | u=>
  rw[E] at hw;obtain⟨hv,cg⟩:=hw;rw[if_neg (by simp[cg F a a7])];exact hK _ _ F X l' (hI.quiet a5 O hl ho W hD (by simp[E]) (by simp[E]) (by rw[hv];exact VR.undef F))
 | p=>
  rw[E] at hw;obtain⟨U,c3⟩:=hw;rw[if_pos (U F a a7)];obtain⟨v',a1,hv⟩:=c3 F a w ad;exact .inl (C3 a1 (hK _ _ F X l' (hI.quiet a5 O hl ho W hD (by simp[E]) (by simp[E]) hv)))
 | r ir=>
  rw[E] at hw;obtain⟨U,cp⟩:=hw;rw[if_pos (U F a a7)];obtain⟨_,_,_,bt⟩:=M16 hf.hs;rw[cp] at bt;obtain⟨pre,a2⟩:=hI.suf;have aa:(⟨i,ir,r.T,r.v⟩:Rd) ∈ rsR rc:=by
   rw[O];clear hI ab bh a2 hf ad a7 hK O
   induction J with
   | nil=>simp[rsR,E,hl]
   | cons x J ih=>
    simp only[List.cons_append,rsR]
    split
    .exact List.mem_cons_of_mem _ ih
    .exact ih
  have ap:=bh _ aa pre l' a2 (fun e he hn=>by
   cases hb:D2 (U1 ops) i e with
   | false=>rfl
   | true=>have:=hp e hb;rw[hI.todo e he hn] at this;cases this) (fun e he=>by
   cases hb:D2 (U1 ops) e i with
   | false=>rfl
   | true=>have:=ah e i (hI.done e he) hb;rw[W] at this;cases this)
  have bd:=ap (nR (N+ops.length) l') o bt;dsimp only at bd;have b4:=hI.sees V hp (Nat.le_refl _) (by rw[<- V];exact Q13 rc) (fun q hq=>hq);have c6:HB F (X8 N (fun j=>D2 (U1 ops) i j && !Y3 (U1 ops) (D1 l') j) (hR H0 l') (B3 rc)) (nR (N+ops.length) l') w:=
   ⟨fun q b hq hg=>hI.stp.hr.blk q b hq (b4 q b hg),hI.stp.hr.fresh⟩
  obtain⟨v',a1,hv⟩:=bd F a w ad c6;exact .inl (C3 a1 (hK _ _ F X l' (hI.quiet a5 O hl ho W hD (by simp[E]) (by simp[E]) hv)))
 | a b=>
  rw[E] at hw;obtain⟨U,y,c4,bw⟩:=hw;rw[if_pos (U F a a7)];obtain⟨cu,a1,bo⟩:=c4 F a w ad;have ay:F (N+i)=none:=hI.res i hi W;have c9:N+i<nR (N+ops.length) l':=by have:=hI.nx;omega
  obtain⟨t,e1,e2,a4⟩:=hI.stp.addAt c9 (by omega) ay bo;have ao:=M19 ay t;have hv:VR (upd F (N+i) t) r.v (y.real w.heap.size):=by
   rw[bw,hl,<- e1];exact Q0.vr (Y6 F (N+i) t) e2 y
  obtain⟨h1,h2⟩:=hI.put (D':=D') a5 O hl ho W hD ao hv;have aa:(i,b) ∈ B3 rc:=by rw[O,<- hl];exact U64 E
  have ce:Y3 (U1 ops) (D1 l') i=false:=by
   cases hm:Y3 (U1 ops) (D1 l') i with
   | false=>rfl
   | true=>
    unfold Y3 at hm;rw[List.any_eq_true] at hm;obtain⟨e,he,hb⟩:=hm;have:=ah e i (hI.done e he) hb;rw[W] at this;cases this
  have a8:X17 ops.length (B3 rc):=by rw[<- V];exact Q13 rc
  have ba:∀ e ∈ D1 rc,e≠i:=by
   intro e he hh;obtain⟨pre,r',l2,H,nx,g1,g2,g3⟩:=Y28 he;obtain⟨e1,_⟩:=G17 (O.symm.trans g1) (by omega);rw[<- e1,E] at g3
   cases g3
  refine .inl (C3 a1 (hK _ _ (upd F (N+i) t) (hs X (N+i) (some b)) l' ?_));refine⟨hI.suf,fun e he=>by rw[hD];split<;>simp[hI.done e he],fun e he hn=>by rw[hD,if_neg (ba e he)];exact hI.todo e he hn,h1,h2,fun q => ?_,hI.free,a4,fun j hj hd => ?_,hI.nx,(D8 a _ _).trans hI.defers⟩
  .rw[N7]
   by_cases e:q=N+i
   .subst e
    rw[if_pos rfl,N15 a8 aa (by rw[hD,if_pos rfl,ce];rfl)]
    rfl
   .rw[if_neg e,hI.heap q]
    congr 1;apply X18;intro x _ hx;have:x.1≠i:=fun h=>e (by omega)
    simp only[hD,if_neg this]
  .rw[hD] at hd
   split at hd
   .cases hd
   .rename_i ai
    rw[M5 F t (by omega)];exact hI.res j hj hd
 | e H' nx'=>
  rw[E] at hw;obtain⟨U,b5,Z⟩:=hw;rw[if_pos (U F a a7)];obtain⟨pre,a2⟩:=hI.suf;have bx:D1 l'=D1 l/\hR H0 l'=hR H0 l/\nR (N+ops.length) l'=nR (N+ops.length) l:=by
   have ck:∀ e ∈ D1 l,e ∈ D1 l':=by
    intro e he;have ac:e ∈ D1 rc:=by rw[O];exact N47 (pre:=J) (by simp only[D1,E];exact List.mem_cons_of_mem _ he)
    cases Classical.em (e ∈ D1 l') with
    | inl h=>exact h
    | inr h=>
     have h1:=hI.todo e ac h;rw[hl] at Z;have h2:=hp e (Z e he);rw[h1] at h2;cases h2
   have cn:∀ e ∈ D1 l',e<l.length:=by
    intro e he;have av:=hI.done e he;rcases Nat.lt_trichotomy e l.length with h | h | h
    .exact h
    .rw[h,hl,W] at av;cases av
    .exfalso
     have ac:e ∈ D1 rc:=by rw[a2];exact N47 he
     obtain⟨ak,r2,l2,H2,nx2,g1,g2,g3⟩:=Y28 ac;have au:B11 P d n ops N H0 (N+ops.length) T0 (r2 :: l2):=B11.suf (pre:=ak) (g1 ▸ ab);obtain⟨⟨o2,s2,ca⟩,_⟩:=au;have bf:=ca.what;rw[g3] at bf;have ci:i ∈ D1 l2:=by
      have h1:i ∈ D1 (ak++r2 :: l2):=by rw[<- g1,O];exact N47 (pre:=J) (by simp only[D1,E,hl];simp)
      have h2:i ∈ D1 (r2 :: l2):=X66 h1 (by simp;omega);simp only[D1,g3] at h2;rcases List.mem_cons.1 h2 with h2 | h2
      .omega
      .exact h2
     have hb:=bf.2.2 i ci;rw[g2] at hb;have:=ah e i av hb;rw[W] at this;cases this
   have cq:(∃ a6,l'=a6++l)\/(∃ a6,l=a6++l'):=by
    have az:pre++l'=(J++[r])++l:=by rw[<- a2,O];simp
    rcases List.append_eq_append_iff.1 az with ⟨m,h1,h2⟩ | ⟨m,h1,h2⟩
    .exact .inl ⟨m,h2⟩
    .exact .inr ⟨m,h2⟩
   rcases cq with ⟨a6,rfl⟩ | ⟨a6,hm⟩
   .exact N17 cn
   .have h3:∀ e ∈ D1 (a6++l'),e<l'.length:=by
     intro e he;rw[<- hm] at he;exact K19 (ck e he)
    obtain⟨g1,g2,g3⟩:=N17 (H0:=H0) (n0:=N+ops.length) h3;rw[<- hm] at g1 g2 g3;exact⟨g1.symm,g2.symm,g3.symm⟩
  obtain⟨s1,s2,s3⟩:=bx;rw[hl] at b5 Z;have a8:X17 ops.length (B3 rc):=by rw[<- V];exact Q13 rc
  have a9:X17 i (B3 l):=by rw[<- hl];exact Q13 l
  have bz:∀ q ∈ B3 l,q ∈ B3 rc:=by
   intro q hq;rw[O,show J++r :: l=(J++[r])++l by simp];exact X69 hq
  have a3:=hI.sees V hp (L:=i) (by omega) a9 bz;rw[s1,s2] at a3;have bc:HR F (X8 N (fun j=>D2 (U1 ops) i j && !Y3 (U1 ops) (D1 l) j) (hR H0 l) (B3 l)) (nR (N+ops.length) l) w:=by
   rw[<- s3];exact hI.stp.hr.sub (fun q b hg=>a3 q b hg)
  refine .inl (b5 F a w K Q ad bc fun v' F' w' hv a4 => ?_);have ao:=a4.fle bc;obtain⟨h1,h2⟩:=hI.put (D':=D') a5 O hl ho W hD ao hv;have ae:D1 (r :: l)=i :: D1 l:=by simp only[D1,E,hl]
  have b3:hR H0 (r :: l)=H':=by simp only[hR,E]
  have aw:nR (N+ops.length) (r :: l)=nx':=by simp only[nR,E]
  have aj:∀ q ∈ B3 rc,q.1≠i:=by
   rintro⟨j,b⟩ hq e;obtain⟨bu,r',l2,g1,g2,g3⟩:=E18 hq;obtain⟨e1,_⟩:=G17 (O.symm.trans g1) (by simp at e;omega);rw[<- e1,E] at g3
   cases g3
  have bg:N+ops.length<=nR (N+ops.length) l:=by rw[<- s3];exact hI.nx
  have M12:∀ j,j<ops.length->D2 (U1 ops) i j=false->Y3 (U1 ops) (D1 l) j=false ->
    J0 (X8 N (fun j=>D2 (U1 ops) i j && !Y3 (U1 ops) (D1 l) j) (hR H0 l) (B3 l)) (N+j)=none:=by
   intro j hj hb hm;rw[Y10 (L:=i) a9 _];have e1:J0 (hR H0 l) (N+j)=none:=by rw[<- s2];exact hI.free j hj (by rw[s1];exact hm)
   rw[e1]
   cases ag:J5 N (fun j=>D2 (U1 ops) i j && !Y3 (U1 ops) (D1 l) j) (N+j) (B3 l) with
   | none=>rfl
   | some b=>
    obtain⟨j',_,h3,h4⟩:=W11 ag;have:j'=j:=by omega
    subst this;rw[hb] at h4;cases h4
  have ax:∀ q,J0 (X8 N (fun j=>D' j && !Y3 (U1 ops) (D1 (r :: l)) j) H' (B3 rc)) q=(J5 N (fun j=>D' j && !Y3 (U1 ops) (D1 (r :: l)) j) q (B3 rc)).or (J0 H' q):=
   fun q=>Y10 (L:=ops.length) a8 q
  have bv:=N2.beside (X':=X8 N (fun j=>D' j && !Y3 (U1 ops) (D1 (r :: l)) j) H' (B3 rc)) (s3 ▸ hI.stp.hr) (fun q b hq hg=>a3 q b hg) a4 (by
   intro q;rw[ax q]
   cases ag:J5 N (fun j=>D' j && !Y3 (U1 ops) (D1 (r :: l)) j) q (B3 rc) with
   | some b=>
    obtain⟨j,hm,rfl,a0⟩:=W11 ag;rw[Bool.and_eq_true,ae,D21] at a0;have ai:j≠i:=aj _ hm;have hj:j<ops.length:=by
     obtain⟨bu,r3,l3,g1,g2,_⟩:=E18 hm;rw[<- V,g1];simp;omega
    have c7:D j=true:=by have:=a0.1;rw[hD,if_neg ai] at this;exact this
    have aq:D2 (U1 ops) i j=false/\Y3 (U1 ops) (D1 l) j=false:=by
     have:=a0.2;simp at this;exact this
    have bk:J0 X (N+j)=some b:=by
     rw[hI.heap _,N15 a8 hm (by rw[c7,s1,aq.2];rfl)];rfl
    rw[if_pos ⟨by omega,M12 j hj aq.1 aq.2,by rw[bk];rfl⟩,bk]
    rfl
   | none=>
    rw[if_neg]
    .rfl
    .rintro⟨g1,g2,g3⟩
     rw[hI.heap q] at g3
     cases b8:J5 N (fun j=>D j && !Y3 (U1 ops) (D1 l') j) q (B3 rc) with
     | some b=>
      obtain⟨j,hm,rfl,a0⟩:=W11 b8;rw[Bool.and_eq_true,s1] at a0;have ai:j≠i:=aj _ hm;have al:D2 (U1 ops) i j=true:=by
       cases hb:D2 (U1 ops) i j with
       | true=>rfl
       | false=>
        exfalso;have cj:Y3 (U1 ops) (D1 l) j=false:=by simpa using a0.2
        rw[N15 a8 hm (by rw[hD,if_neg ai,a0.1,ae,D21,hb,cj];rfl)] at ag
        cases ag
      have ct:=V36 a5 _ _ al;have cc:(j,b) ∈ B3 l:=by
       refine V66 (pre:=J++[r]) ?_ (by omega);rw[show(J++[r])++l=J++r :: l by simp,<- O];exact hm
      rw[Y10 (L:=i) a9 _,N15 a9 cc (by rw[al];exact a0.2)] at g2
      cases g2
     | none=>
      rw[b8] at g3;rw[Y10 (L:=i) a9 _] at g2;rw[s2] at g3
      cases hg:J0 (hR H0 l) q with
      | none=>rw[hg] at g3;simp at g3
      | some b=>
       rw[hg] at g2
       cases cd:J5 N (fun j=>D2 (U1 ops) i j && !Y3 (U1 ops) (D1 l) j) q (B3 l)<;>rw[cd] at g2<;>cases g2)
  refine hK _ _ F' _ (r :: l) ⟨⟨J,O⟩,?_,?_,h1,h2,fun q=>by rw[ax q,b3],?_,?_,?_,?_,(D8 a _ _).trans hI.defers⟩
  .intro e he
   rw[ae] at he;rcases List.mem_cons.1 he with rfl | he
   .rw[hD,if_pos rfl]
   .rw[hD];split
    .rfl
    .exact hI.done e (by rw[s1];exact he)
  .intro e he hn
   rw[ae] at hn;have co:e≠i:=fun h=>hn (by simp[h])
   rw[hD,if_neg co];exact hI.todo e he (by rw[s1];exact fun h=>hn (List.mem_cons_of_mem _ h))
  .intro j hj hm
   rw[ae,D21] at hm;rw[Bool.or_eq_false_iff] at hm;rw[b3];exact a4.keep _ (by omega) (M12 j hj hm.1 hm.2)
  .rw[aw]
   exact hI.stp.trans (s3 ▸ bv)
  .intro j hj hd
   rw[hD] at hd
   split at hd
   .cases hd
   .rw[a4.ext _ (by omega)];exact hI.res j hj hd
  .rw[aw];exact Nat.le_trans bg a4.le
end
end Go.Clo

namespace Go.Clo
variable {H:Y0} {P:Program} {nx:Nat} {ops:List Oper}
theorem N2.reserve{F:FM}{H:Y0}{nx:Nat}{w:World}(h:HR F H nx w){nx2:Nat}(h1:nx<=nx2):N2 F H nx w F H nx2 w:=by
 refine⟨h1,fun _ _=>rfl,rfl,rfl,rfl,Nat.le_refl _,fun _ _ _=>rfl,?_,fun _ _ h=>h,fun i b hg _=>⟨h.low hg,hg⟩,h.reserve h1⟩;rintro b ⟨i,k,t,hi,hg,E,hF,e⟩;exact .inl ⟨i,k,t,h.low hg,hg,E,hF,e⟩
theorem N2.congr{F:FM}{w:World}{F':FM}{X X2:Y0}{nx':Nat}{w':World}(h:N2 F H nx w F' X nx' w')(he:∀ q,J0 X2 q=J0 X q):N2 F H nx w F' X2 nx' w':=by
 have E:∀ b,Own F' X2 nx' b->Own F' X nx' b:=by
  rintro b ⟨i,k,t,hi,hg,J,hF,e⟩;exact⟨i,k,t,hi,by rw[<- he i];exact hg,J,hF,e⟩
 refine⟨h.le,h.ext,h.os,h.tape,h.output,h.size,h.frame,fun b hb=>h.own b (E b hb),fun i hi hn => ?_,fun i b hg O=>h.rom i b (by rw[<- he i];exact hg) O,h.hr.sub (fun i b hg=>by rw[<- he i];exact hg)⟩;rw[he i];exact h.keep i hi hn
def cnt:Nat->(Nat->Bool)->Nat
 | 0,_=>0
 | k+1,D=>cnt k D+(if D k then 0 else 1)
theorem M40{D D':Nat->Bool}:∀ {k:Nat},(∀ j,j<k->D j=D' j)->cnt k D=cnt k D'
 | 0,_=>rfl
 | k+1,h=>by simp only[cnt];rw[M40 fun j hj=>h j (by omega),h k (by omega)]
theorem G22{D D':Nat->Bool}{i:Nat}(hD:∀ j,D' j=if j=i then true else D j)(hi:D i=false):∀ {k:Nat},i<k->cnt k D'+1=cnt k D
 | 0,h=>by omega
 | k+1,h=>by
  simp only[cnt]
  by_cases e:i=k
  .subst e
   have:D' i=true:=by rw[hD,if_pos rfl]
   rw[this,hi,M40 (D:=D') (D':=D) fun j hj=>by rw[hD,if_neg (by omega)]];simp
  .have:=G22 hD hi (k:=k) (by omega)
   have e2:D' k=D k:=by rw[hD,if_neg (fun h=>e h.symm)]
   rw[e2];omega
theorem Z46{D:Nat->Bool}:∀ {k:Nat},cnt k D=0->∀ i,i<k->D i=true
 | 0,_,i,hi=>by omega
 | k+1,h,i,hi=>by
  simp only[cnt] at h
  by_cases e:i=k
  .subst e
   cases hd:D i with
   | true=>rfl
   | false=>rw[hd] at h;simp at h
  .exact Z46 (k:=k) (by omega) i (by omega)
theorem V50{D:Nat->Bool}(h:∀ i,D i=false):∀ k,cnt k D=k
 | 0=>rfl
 | k+1=>by simp[cnt,V50 h k,h k]
section
variable {P:Program} {d n:Nat} {ops:List Oper} {N:Nat} {H0:Y0} {T0:K0 Value} {rc:List D3} {F0:FM} {w0:World} {ds:List Deferred}
theorem Y51(J:∀ i o,ops[i]? = some o->R12 ops i o)(O:rc.length=ops.length)(V:B11 P d n ops N H0 (N+ops.length) T0 rc)
  (a2:R41 P d n ops N H0 rc){Q:Exit->Act->World->Prop}
  (hQ:∀(D:Nat->Bool) a w F X l',(∀ i,i<ops.length->D i=true)->Inv n ops N H0 T0 rc F0 w0 ds D a w F X l'->Q .normal a w):
  ∀(E:Nat) (listed:Array Bool) (a:Act) (w:World) (F:FM) (X:Y0) (l':List D3),listed.size=ops.length->cnt ops.length (fun i=>listed.getD i false)<=E->J61 ops (fun i=>listed.getD i false) ->
   Inv n ops N H0 T0 rc F0 w0 ds (fun i=>listed.getD i false) a w F X l'->wpAny P .any ops.toArray Q E listed a w
 | 0,listed,a,w,F,X,l',hsz,hc,hcl,hI=>by
  have hd:=Z46 (D:=fun i=>listed.getD i false) (k:=ops.length) (by omega);refine⟨?_,hQ _ a w F X l' hd hI⟩
  cases hr:Region.ready .any ops.toArray listed with
  | nil=>rfl
  | cons i a7=>
   obtain⟨h1,h2,_⟩:=K35 (ops:=ops.toArray) (listed:=listed) (i:=i) (by rw[hr];simp);have:=hd i (by simpa using h1);have hi:i<listed.size:=by simp at h1;omega
   simp[hi] at this h2;rw[this] at h2;cases h2
 | E+1,listed,a,w,F,X,l',hsz,hc,hcl,hI=>by
  refine⟨fun hr => ?_,fun i hi => ?_⟩
  .refine hQ _ a w F X l' (fun i hi => ?_) hI
   exact N54 (ops:=ops.toArray) (by simpa using hsz) (fun i o ho e he hb=>(J i o (by simpa using ho)).edge e he hb) hr i (by simpa using hi)
  .obtain⟨h1,h2,h3⟩:=K35 hi
   have W:i<ops.length:=by simpa using h1
   have a0:i<listed.size:=by omega
   have a1:listed.getD i false=false:=by simp[a0] at h2 ⊢;exact h2
   have U:∀ o,ops[i]? = some o->∀ e ∈ o.after,Region.binds .any e=true->listed.getD e.on false=true:=fun o ho=>h3 o (by simpa using ho)
   have hp:=fun j=>Y33 J hcl i j U
   have Z:∀ i j,listed.getD i false=true->D2 (U1 ops) i j=true->listed.getD j false=true:=by
    intro i j hi hb;exact Y33 J hcl i j (fun o ho e he a4=>hcl i o ho hi e he a4) hb
   have hD:∀ j,(listed.setIfInBounds i true).getD j false=if j=i then true else listed.getD j false:=by
    intro j
    by_cases e:j=i
    .subst e;simp[a0]
    .simp[e,Array.getElem?_setIfInBounds_ne (Ne.symm e)]
   refine Y63 (D:=fun i=>listed.getD i false) (D':=fun j=>(listed.setIfInBounds i true).getD j false) J O V a2 hI W a1 hp Z hD fun a' w' F' X' a3 a6 => ?_
   refine Y51 J O V a2 hQ E _ a' w' F' X' a3 (by simpa using hsz) ?_ ?_ a6
   .have:=G22 (D:=fun i=>listed.getD i false) (D':=fun j=>(listed.setIfInBounds i true).getD j false) hD a1 (k:=ops.length) W
    omega
   .intro q o ho hq e he hb
    dsimp only at hq ⊢;rw[hD] at hq;rw[hD]
    split
    .rfl
    .split at hq
     .rename_i a5;subst a5;exact U o ho e he hb
     .exact hcl q o ho hq e he hb
end
theorem C39{ops:List Oper}{T0:K0 Value}{D:Nat->Bool}(h:∀ i,D i=false){t:Nat}:∀(l:List D3),W9 ops T0 D l t=(tg T0 t).getD undef
 | []=>rfl
 | r :: l=>by simp only[W9,h];simp;exact C39 h l
theorem K18{P:Program}{n:Nat}{ops:List Oper}:∀ {suf:List Oper} {l:List S},R3 P n ops suf=some l->l.length=suf.length
 | [],l,h=>by simp[R3] at h;subst h;rfl
 | o :: suf,l,h=>by
  simp only[R3] at h
  cases hs:K16 P n ops o with
  | none=>simp[hs] at h
  | some s=>cases hl:R3 P n ops suf with
   | none=>simp[hs,hl] at h
   | some l'=>simp[hs,hl] at h;subst h;simp[K18 hl]
theorem N21{P:Program}{n:Nat}{ops:List Oper}:∀ {suf:List Oper} {l:List S},R3 P n ops suf=some l->∀ o ∈ suf,∀ t,o.dst=some t->t ∈ Q10 l
 | [],l,h,o,ho=>by cases ho
 | o' :: suf,l,h,o,ho=>by
  simp only[R3] at h
  cases hs:K16 P n ops o' with
  | none=>simp[hs] at h
  | some s=>cases hl:R3 P n ops suf with
   | none=>simp[hs,hl] at h
   | some l'=>
    simp[hs,hl] at h;subst h;intro t ht;simp only[Q10,List.mem_append];rcases List.mem_cons.1 ho with rfl | ho
    .refine .inl ?_
     rw[(M16 hs).2.1,ht];simp
    .exact .inr (N21 hl o ho t ht)
theorem C24{ops:List Oper}{T0:K0 Value}{W:List Nat}(hW:∀ o ∈ ops,∀ t,o.dst=some t->t ∈ W){j:Nat}(hj:j ∉ W):∀ {l:List D3},C10 ops T0 l j=(tg T0 j).getD undef
 | []=>rfl
 | r :: l=>by
  simp only[C10];rw[if_neg,C24 hW hj];intro h
  cases ho:ops[l.length]? with
  | none=>rw[ho] at h;cases h
  | some o=>rw[ho] at h;exact hj (hW o (List.mem_of_getElem? ho) j h)
theorem N38{d n:Nat}(hm:P.follows .mixedOrders=true)(U:E13 (U1 ops) ops ops 0=true)(hn:n<=2^d)
  {T:K0 Value}{rc:List D3}{T':K0 Value}(E:rc.length=ops.length)(a0:B11 P d n ops nx H (nx+ops.length) T rc)(a3:WF d T')(a4:∀ t,t<n->(tg T' t).getD undef=C10 ops T rc t)(Z:R41 P d n ops nx H rc):
   ∀(id:Nat) (F:FM) (a:Act) (w:World) (Q:Exit->Act->World->Prop),TR d F T n a.tmps->HR F H nx w ->
    (∀ F' a' w',TR d F' T' n a'.tmps->N2 F H nx w F' (X8 nx (fun j => !Y3 (U1 ops) (D1 rc) j) (hR H rc) (B3 rc)) (nR (nx+ops.length) rc) w'->a'.defers=a.defers->Q .normal a' w')->(Code.region id ops.toArray true).wp P Q a w:=by
 have a5:∀ i o,ops[i]? = some o->R12 ops i o:=fun i o ho=>by simpa using D28 ops 0 U i o ho
 intro id F a w Q ht hr hk;refine wp_region_any hm ?_;have a6:HR F H nx { w with drawn:=w.drawn+1 }:=hr.drew _;have J:∀ i,(Array.replicate ops.toArray.size false).getD i false=false:=by
  intro i;simp[Array.getElem?_replicate];split<;>rfl
 refine Y51 (N:=nx) (H0:=H) (T0:=T) (rc:=rc) (F0:=F) (w0:=w) (ds:=a.defers) a5 E a0 Z ?_ _ _ a _ F H [] (by simp) ?_ ?_ ?_
 ·
  intro D a' w' F' X l' hD hI;obtain⟨pre,V⟩:=hI.suf;have W:∀ e ∈ D1 (pre++l'),e<l'.length:=by
   intro e he;rw[<- V] at he
   cases Classical.em (e ∈ D1 l') with
   | inl h=>exact K19 h
   | inr h=>
    have h2:=hI.todo e he h;have h3:=K19 he;rw[hD e (by omega)] at h2;cases h2
  obtain⟨s1,s2,s3⟩:=N17 (H0:=H) (n0:=nx+ops.length) W;rw[<- V] at s1 s2 s3;refine hk F' a' w' ⟨a3,hI.size,hn,fun t O => ?_⟩ ?_ hI.defers
  .rw[a4 t O,<- Y37 (D:=D) (T0:=T) (ops:=ops) fun j hj _=>hD j (by omega)]
   exact hI.slots t O
  .have a2:=hI.stp
   rw[<- s3] at a2;refine a2.congr fun q => ?_
   rw[Y10 (L:=ops.length) (by rw[<- E];exact Q13 rc) q,hI.heap q,s1,s2];congr 1;apply X18;rintro⟨j,b⟩ hx _;obtain⟨a7,r3,l3,g1,g2,_⟩:=E18 hx;have hj:j<ops.length:=by rw[<- E,g1];simp;omega
   simp[hD j hj]
 .have:=V50 (D:=fun i=>(Array.replicate ops.toArray.size false).getD i false) J ops.length
  rw[this];simp
 .intro i o _ hi
  dsimp only at hi;rw[J] at hi;cases hi
 .refine⟨⟨rc,by simp⟩,by simp[D1],fun e _ _=>J e,ht.size,fun t O => ?_,fun q => ?_,fun j hj _=>hr.top _ (by omega),?_,fun j hj _=>hr.fresh _ (by omega),Nat.le_refl _,rfl⟩
  .rw[C39 J];exact ht.get t O
  .have:J5 nx (fun j=>(Array.replicate ops.toArray.size false).getD j false && !Y3 (U1 ops) (D1 []) j) q (B3 rc)=none:=by
    cases hp:J5 nx (fun j=>(Array.replicate ops.toArray.size false).getD j false && !Y3 (U1 ops) (D1 []) j) q (B3 rc) with
    | none=>rfl
    | some b=>
     obtain⟨j,_,_,a1⟩:=W11 hp;rw[J] at a1;cases a1
   rw[this];rfl
  .exact(N2.drew hr (w.drawn+1)).trans (N2.reserve a6 (nx2:=nx+ops.length) (by omega))
theorem V56{β:Type}{d n:Nat}{l:List S}(hm:P.follows .mixedOrders=true)(hl:R3 P n ops ops=some l)(J:E13 (U1 ops) ops ops 0=true)(hn:n<=2^d){call:Z3 β}(O:E11 P call){E:E12 β}(U:W34 P E)
  (T:K0 Value)(H:Y0)(nx:Nat)(z:β)(k:K β)(Z:WF d T):
  Z28 P d call E z (U1 ops) l T H nx k=z\/∃ T' H' nx',Z28 P d call E z (U1 ops) l T H nx k=k T' H' nx'/\(WF d T'/\U8 n (Q10 l) T T') /\
   ∀(id:Nat) (F:FM) (a:Act) (w:World) (Q:Exit->Act->World->Prop),TR d F T n a.tmps->HR F H nx w ->
    (∀ F' a' w',TR d F' T' n a'.tmps->N2 F H nx w F' H' nx' w'->a'.defers=a.defers->Q .normal a' w')->(Code.region id ops.toArray true).wp P Q a w:=by
 unfold Z28;rw[G1,K18 hl];rcases U32 (N:=nx) (H0:=H) (n0:=nx+ops.length) (T0:=T) O hn z (fun T H n Ms es as rs=>E (U1 ops) nx as rs es Ms H (Z13 (U1 ops) nx es H (fun H=>k T H n) as) z) ops l [] T hl (by simp) trivial Z (fun t _=>rfl) with h | ⟨rc,T',h1,hall,hw',hT',h5⟩
 .exact .inl h
 .have W:Z4 P d call (U1 ops) nx z (fun T H n Ms es as rs=>E (U1 ops) nx as rs es Ms H (Z13 (U1 ops) nx es H (fun H=>k T H n) as) z) l 0 T H (nx+ops.length) [] [] [] []=_:=h5
  rw[W];rcases U d n ops nx H rc (Z13 (U1 ops) nx (D1 rc) (hR H rc) (fun H=>k T' H (nR (nx+ops.length) rc)) (B3 rc)) z with h | ⟨h,hrs'⟩
  .exact .inl h
  .rw[h,N23]
   exact .inr ⟨T',_,_,rfl,⟨hw',fun j hj V=>by rw[hT' j hj];exact C24 (N21 hl) V⟩,N38 hm J hn (by simpa using h1) hall hw' hT' hrs'⟩
end Go.Clo
