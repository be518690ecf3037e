/-
  The closed executor: a region's operations in whatever order: one operation.
  The closed executor: a region's operations in whatever order.
  The closed executor: a region that draws its order.
-/
import Derived.Test.YtpiobdofbhkmjaaDoorL10
set_option linter.unusedSimpArgs false
set_option linter.unusedVariables false
set_option linter.unusedSectionVars false
namespace Go.Clo
variable {b:V4} {i t:Nat} {l pre pre0:List R6} {o:Oper} {r:R6}
theorem Z28 {pre' l':List R6} {r':R6} (h:pre++r :: l=pre'++r' :: l') (hl:l.length=l'.length):r=r'/\l=l':=by
 have h2:(r :: l)=(r' :: l'):=by
  have:=congrArg (fun x=>x.drop (pre.length)) h
  have hp:pre.length=pre'.length:=by have:=congrArg List.length h;simp at this;omega
  simp at this
  rw[hp] at this
  simpa using this
 cases h2;exact⟨rfl,rfl⟩
theorem W29:∀ {rc:List R6} {j:Nat} {b:V4},(j,b) ∈ E6 rc->∃ pre r l,rc=pre++r :: l/\l.length=j/\r.inf = .a b
 | [],j,b,h=>by simp[E6] at h
 | r :: l,j,b,h=>by
  have old:(j,b) ∈ E6 l->∃ pre r' l',r :: l=pre++r' :: l'/\l'.length=j/\r'.inf = .a b:=by
   intro h
   obtain⟨pre,r',l',h1,h2,h3⟩:=W29 h
   exact⟨r :: pre,r',l',by rw[h1];rfl,h2,h3⟩
  simp only[E6] at h
  split at h
  .rename_i b' hb
   rcases List.mem_cons.1 h with e | h
   .cases e;exact⟨[],r,l,rfl,rfl,hb⟩
   .exact old h
  .exact old h
theorem B87 {pre:List R6} {r:R6} (h:r.inf = .a b):(l.length,b) ∈ E6 (pre++r :: l):=by
 induction pre with
 | nil=>simp[E6,h]
 | cons x pre ih=>
  simp only[List.cons_append,E6]
  split
  .exact List.mem_cons_of_mem _ ih
  .exact ih
theorem D92 {j:Nat} (h:(j,b) ∈ E6 (pre++l)) (hj:j<l.length):(j,b) ∈ E6 l:=by
 induction pre with
 | nil=>exact h
 | cons x pre ih=>
  simp only[List.cons_append,E6] at h
  split at h
  .rcases List.mem_cons.1 h with e | h
   .cases e;simp at hj;omega
   .exact ih h
  .exact ih h
theorem X94 {q:Nat × V4} (h:q ∈ E6 l):q ∈ E6 (pre++l):=by
 induction pre with
 | nil=>exact h
 | cons x pre ih=>
  simp only[List.cons_append,E6]
  split
  .exact List.mem_cons_of_mem _ ih
  .exact ih
theorem N43:∀ {rc:List R6} {e:Nat},e ∈ U4 rc->∃ pre r l H nx,rc=pre++r :: l/\l.length=e/\r.inf = .e H nx
 | [],e,h=>by simp[U4] at h
 | r :: l,e,h=>by
  have old:e ∈ U4 l->∃ pre r' l' H nx,r :: l=pre++r' :: l'/\l'.length=e/\r'.inf = .e H nx:=by
   intro h
   obtain⟨pre,r',l',H,nx,h1,h2,h3⟩:=N43 h
   exact⟨r :: pre,r',l',H,nx,by rw[h1];rfl,h2,h3⟩
  simp only[U4] at h
  split at h
  .rename_i H nx hb
   rcases List.mem_cons.1 h with rfl | h
   .exact⟨[],r,l,H,nx,rfl,rfl,hb⟩
   .exact old h
  .exact old h
theorem C64 {q:Nat} (h:q ∈ U4 l):q ∈ U4 (pre++l):=by
 induction pre with
 | nil=>exact h
 | cons x pre ih=>
  simp only[List.cons_append,U4]
  split
  .exact List.mem_cons_of_mem _ ih
  .exact ih
theorem K92 {e:Nat} (h:e ∈ U4 (pre++l)) (hj:e<l.length):e ∈ U4 l:=by
 induction pre with
 | nil=>exact h
 | cons x pre ih=>
  simp only[List.cons_append,U4] at h
  split at h
  .rcases List.mem_cons.1 h with e | h
   .subst e;simp at hj;omega
   .exact ih h
  .exact ih h
theorem Q28 {H0:Y0} {n0:Nat}:∀ {mid l:List R6},(∀ e ∈ U4 (mid++l),e<l.length)->U4 (mid++l)=U4 l/\hR H0 (mid++l)=hR H0 l/\nR n0 (mid++l)=nR n0 l
 | [],l,_=>⟨rfl,rfl,rfl⟩
 | r :: mid,l,h=>by
  cases hinf:r.inf with
  | e H' nx'=>
   have:=h (mid++l).length (by simp[U4,hinf])
   simp at this;omega
  | _=>
   have h':∀ e ∈ U4 (mid++l),e<l.length:=fun e he=>h e (by simp[U4,hinf,he])
   obtain⟨h1,h2,h3⟩:=Q28 (H0:=H0) (n0:=n0) h'
   simp[U4,hR,nR,hinf,h1,h2,h3]
theorem W28 {N:Nat} {p p':Nat->Bool} {q:Nat}:∀ {l:List (Nat × V4)},(∀ x ∈ l,N+x.1=q->p x.1=p' x.1)->B10 N p q l=B10 N p' q l
 | [],_=>rfl
 | (j,b) :: l,h=>by
  simp only[B10]
  have ih:=W28 (p:=p) (p':=p') (q:=q) (l:=l) fun x hx=>h x (by simp[hx])
  rw[ih]
  by_cases e:N+j=q
  .have:=h (j,b) (by simp) e
   simp only at this
   rw[this]
  .rw[if_neg (fun hc=>e hc.1),if_neg (fun hc=>e hc.1)]
structure Inv (n:Nat) (ops:List Oper) (N:Nat) (H0:Y0) (T0:U1 Value) (rc:List R6) (F0:FM) (w0:World) (ds:List Deferred) (D:Nat->Bool) (a:Act) (w:World) (F:FM) (X:Y0) (l':List R6):Prop where
 suf:∃ pre,rc=pre++l'
 done:∀ e ∈ U4 l',D e=true
 todo:∀ e ∈ U4 rc,e ∉ U4 l'->D e=false
 size:a.tmps.size=n
 slots:∀ t,t<n->VR F (D15 ops T0 D rc t) (a.tmps.getD t undef)
 heap:∀ q,X0 X q=(B10 N (fun j=>D j && !D5 (Z3 ops) (U4 l') j) q (E6 rc)).or (X0 (hR H0 l') q)
 free:∀ j,j<ops.length->D5 (Z3 ops) (U4 l') j=false->X0 (hR H0 l') (N+j)=none
 stp:U5 F0 H0 N w0 F X (nR (N+ops.length) l') w
 res:∀ j,j<ops.length->D j=false->F (N+j)=none
 nx:N+ops.length<=nR (N+ops.length) l'
 defers:a.defers=ds
section
variable {P:Program} {d n:Nat} {ops:List Oper} {N:Nat} {H0:Y0} {T0:U1 Value} {rc:List R6} {F0:FM} {w0:World} {ds:List Deferred} {D:Nat->Bool} {a:Act} {w:World} {F:FM} {X:Y0} {l':List R6}
theorem Inv.sees (hI:Inv n ops N H0 T0 rc F0 w0 ds D a w F X l') (hlen:rc.length=ops.length) (hp:∀ j,X5 (Z3 ops) i j=true->D j=true) {as:List (Nat × V4)} {L:Nat} (hL:L<=ops.length) (hk:K27 L as) (has:∀ q ∈ as,q ∈ E6 rc):
  ∀ q b,X0 (Z14 N (fun j=>X5 (Z3 ops) i j && !D5 (Z3 ops) (U4 l') j) (hR H0 l') as) q=some b->X0 X q=some b:=by
 intro q b hg
 rw[J16 (L:=L) hk q] at hg
 rw[hI.heap q]
 have hkr:K27 ops.length (E6 rc):=by rw[<- hlen];exact G21 rc
 cases hp1:B10 N (fun j=>X5 (Z3 ops) i j && !D5 (Z3 ops) (U4 l') j) q as with
 | some b'=>
  rw[hp1] at hg
  simp at hg;subst hg
  obtain⟨j,hm,rfl,hpj⟩:=D18 hp1
  rw[Bool.and_eq_true] at hpj
  rw[D24 hkr (has _ hm) (by rw[hp j hpj.1,hpj.2];rfl)]
  rfl
 | none=>
  rw[hp1] at hg
  simp at hg
  cases hp2:B10 N (fun j=>D j && !D5 (Z3 ops) (U4 l') j) q (E6 rc) with
  | none=>simpa using hg
  | some b'=>
   exfalso
   obtain⟨j,hm,rfl,hpj⟩:=D18 hp2
   rw[Bool.and_eq_true] at hpj
   have hj:j<ops.length:=by
    obtain⟨pre,r,l,h1,h2,_⟩:=W29 hm
    rw[<- hlen,h1];simp;omega
   rw[hI.free j hj (by simpa using hpj.2)] at hg
   cases hg
theorem E82 {ops:List Oper} (h:Operand.tmp t ∈ o.op.operands):t ∈ D27 ops o:=by
 unfold D27
 apply List.mem_append_left
 rw[List.mem_filterMap]
 exact⟨.tmp t,by simpa using h,rfl⟩
theorem Inv.look {o:Oper} {i:Nat} (hok:∀ i o,ops[i]? = some o->Z21 ops i o) (hrc:rc=pre0++r :: l) (hl:l.length=i) (hlen:rc.length=ops.length) (ho:ops[i]? = some o)
  (hDi:D i=false) (hp:∀ j,X5 (Z3 ops) i j=true->D j=true) (hcl:∀ i j,D i=true->X5 (Z3 ops) i j=true->D j=true) (ht:t ∈ D27 ops o):D15 ops T0 D rc t=U18 ops T0 l t:=by
 have hso:=hok i o ho
 have key:∀ j,j≠i->(ops[j]?).bind (·.dst)=some t->X5 (Z3 ops) i j=true\/X5 (Z3 ops) j i=true:=by
  intro j hj hd
  cases hoj:ops[j]? with
  | none=>rw[hoj] at hd;cases hd
  | some oj=>
   rw[hoj] at hd
   exact (hso.one j oj t hoj (by simpa using hd) (Ne.symm hj)).2 ht
 have hself:(ops[i]?).bind (·.dst)≠some t:=by
  rw[ho];intro h
  exact hso.self t (by simpa using h) ht
 rw[hrc,G56 (l:=r :: l)]
 .simp only[D15]
  rw[if_neg (by rw[hl,hDi];rintro⟨h,_⟩;cases h)]
  apply E54
  intro j hj hd
  rcases key j (by omega) hd with h | h
  .exact hp j h
  .have:=Z55 hok _ _ h;omega
 .intro j h1 h2 hd
  have hji:j≠i:=by simp at h1;omega
  rcases key j hji hd with h | h
  .have:=Z55 hok _ _ h
   simp at h1;omega
  .cases hDj:D j with
   | false=>rfl
   | true=>have:=hcl j i hDj h;rw[hDi] at this;cases this
theorem Inv.or {o:Oper} {s:S} {i n0:Nat} (hI:Inv n ops N H0 T0 rc F0 w0 ds D a w F X l') (hok:∀ i o,ops[i]? = some o->Z21 ops i o) (hrc:rc=pre0++r :: l) (hl:l.length=i) (hlen:rc.length=ops.length)
  (hf:M86 P d n ops N H0 n0 T0 r l o s) (hDi:D i=false) (hp:∀ j,X5 (Z3 ops) i j=true->D j=true) (hcl:∀ i j,D i=true->X5 (Z3 ops) i j=true->D j=true):OR n o F r.T a/\GR s.guard F r.T a:=by
 have ho:ops[i]? = some o:=by rw[<- hl];exact hf.ho
 have slot:∀ t,t<n->t ∈ D27 ops o->VR F ((tg r.T t).getD undef) (a.tmps.getD t undef):=by
  intro t htn ht
  rw[hf.hT t htn,<- Inv.look (T0:=T0) hok hrc hl hlen ho hDi hp hcl ht]
  exact hI.slots t htn
 refine⟨?_,?_⟩
 .intro x hx y hc
  cases x with
  | tmp t=>
   simp only[Q2] at hc
   cases hb:Nat.blt t n with
   | false=>rw[hb] at hc;cases hc
   | true=>
    rw[hb] at hc;cases hc
    rw[G76]
    exact slot t (by simpa using hb) (E82 hx)
  | const v=>
   simp only[Q2] at hc
   cases hb:C11 v with
   | false=>rw[hb] at hc;cases hc
   | true=>rw[hb] at hc;cases hc;exact K11 F v hb
  | global g=>simp[Q2] at hc
  | func f=>
   simp[Q2] at hc;subst hc
   exact .func _ rfl (by simp) rfl (by simp)
 .intro t want hg
  obtain⟨hcg,_,_,_⟩:=J26 hf.hs
  rw[hg] at hcg
  cases hgd:o.guard with
  | none=>rw[hgd] at hcg;simp[E25] at hcg
  | some jw=>
   obtain⟨j,wnt⟩:=jw
   rw[hgd] at hcg
   simp only[E25] at hcg
   split at hcg
   .rename_i oj hoj
    split at hcg
    .rename_i t' htd
     cases hb:Nat.blt t' n with
     | false=>rw[hb] at hcg;cases hcg
     | true=>
      rw[hb] at hcg;cases hcg
      have htn:t<n:=by simpa using hb
      refine⟨by rw[hI.size];exact htn,slot t htn ?_⟩
      unfold D27
      apply List.mem_append_right
      rw[hgd]
      simp[hoj,htd]
    .cases hcg
   .cases hcg
theorem Inv.put {l:List R6} {r:R6} {pre0:List R6} {o:Oper} {i:Nat} {D':Nat->Bool} (hI:Inv n ops N H0 T0 rc F0 w0 ds D a w F X l') (hok:∀ i o,ops[i]? = some o->Z21 ops i o) (hrc:rc=pre0++r :: l) (hl:l.length=i) (ho:ops[i]? = some o)
  (hDi:D i=false) (hD:∀ j,D' j=if j=i then true else D j) {F':FM} (hF:F.le F') {v':Value} (hv:VR F' r.v v'):(a.put o.dst v').tmps.size=n/\∀ t,t<n->VR F' (D15 ops T0 D' rc t) ((a.put o.dst v').tmps.getD t undef):=by
 have hso:=hok i o ho
 refine⟨by cases hd:o.dst<;>simp[Act.put,hI.size],fun t ht => ?_⟩
 rw[hrc,B62 hD hl (by
  intro j hj h1 h2
  rw[ho] at h1
  cases hoj:ops[j]? with
  | none=>rw[hoj] at h2;cases h2
  | some oj=>
   rw[hoj] at h2
   exact (hso.one j oj t hoj (by simpa using h2) (Ne.symm hj)).1 (by simpa using h1)) hDi,<- hrc]
 rw[ho]
 simp only[Option.bind_some]
 by_cases hd:o.dst=some t
 .rw[if_pos hd,hd]
  have:(a.put (some t) v').tmps.getD t undef=v':=by simp[Act.put,hI.size,ht]
  rw[this];exact hv
 .rw[if_neg hd]
  have:(a.put o.dst v').tmps.getD t undef=a.tmps.getD t undef:=by
   cases hq:o.dst with
   | none=>rfl
   | some q=>
    have:q≠t:=fun e=>hd (by rw[hq,e])
    simp[Act.put,Array.getElem?_setIfInBounds_ne this]
  rw[this]
  exact (hI.slots t ht).mono hF
end
end Go.Clo

namespace Go.Clo
section
variable {P:Program} {d n:Nat} {ops:List Oper} {N:Nat} {H0:Y0} {T0:U1 Value} {rc:List R6} {F0:FM} {w0:World} {ds:List Deferred} {D D':Nat->Bool} {a:Act} {w:World} {F:FM} {X:Y0} {l':List R6}
theorem Inv.quiet {l:List R6} {r:R6} {pre0:List R6} {o:Oper} {i:Nat} (hI:Inv n ops N H0 T0 rc F0 w0 ds D a w F X l') (hok:∀ i o,ops[i]? = some o->Z21 ops i o) (hrc:rc=pre0++r :: l) (hl:l.length=i) (ho:ops[i]? = some o)
  (hDi:D i=false) (hD:∀ j,D' j=if j=i then true else D j) (hna:∀ b,r.inf ≠ .a b) (hne:∀ H nx,r.inf ≠ .e H nx) {v':Value} (hv:VR F r.v v'):
  Inv n ops N H0 T0 rc F0 w0 ds D' (a.put o.dst v') w F X l':=by
 obtain⟨h1,h2⟩:=hI.put (D':=D') hok hrc hl ho hDi hD (fun _ _ h=>h) hv
 have nota:∀ q ∈ E6 rc,q.1≠i:=by
  rintro⟨j,b⟩ hq e
  obtain⟨pre,r',l2,g1,g2,g3⟩:=W29 hq
  obtain⟨e1,_⟩:=Z28 (hrc.symm.trans g1) (by simp at e;omega)
  rw[<- e1] at g3
  exact hna b g3
 have note:∀ e ∈ U4 rc,e≠i:=by
  intro e he hh
  obtain⟨pre,r',l2,H,nx,g1,g2,g3⟩:=N43 he
  obtain⟨e1,_⟩:=Z28 (hrc.symm.trans g1) (by omega)
  rw[<- e1] at g3
  exact hne H nx g3
 have up:∀ j,D j=true->D' j=true:=fun j h=>by rw[hD];split<;>simp[h]
 refine⟨hI.suf,fun e he=>up e (hI.done e he),fun e he hn => ?_,h1,h2,fun q => ?_,hI.free,hI.stp,fun j hj hd => ?_,hI.nx,(N14 a _ _).trans hI.defers⟩
 .rw[hD,if_neg (note e he)];exact hI.todo e he hn
 .rw[hI.heap q]
  congr 1
  apply W28
  intro x hx _
  simp only[hD,if_neg (nota x hx)]
 .refine hI.res j hj ?_
  rw[hD] at hd
  split at hd
  .cases hd
  .exact hd
theorem G34 (ms:List Nat) (i:Nat) (es:List Nat) (j:Nat):D5 ms (i :: es) j=(X5 ms i j || D5 ms es j):=by simp[D5]
theorem K86 (hok:∀ i o,ops[i]? = some o->Z21 ops i o) (hlen:rc.length=ops.length) (hall:U19 P d n ops N H0 (N+ops.length) T0 rc)
  (hrs:X61 P d n ops N H0 rc)
  (hI:Inv n ops N H0 T0 rc F0 w0 ds D a w F X l') {i:Nat} (hi:i<ops.length) (hDi:D i=false) (hp:∀ j,X5 (Z3 ops) i j=true->D j=true) (hcl:∀ i j,D i=true->X5 (Z3 ops) i j=true->D j=true) (hD:∀ j,D' j=if j=i then true else D j)
  {K:Act->World->Prop} {Q:Exit->Act->World->Prop} (hK:∀ a' w' F' X' l'',Inv n ops N H0 T0 rc F0 w0 ds D' a' w' F' X' l''->K a' w'):wpOp P ops.toArray Q i K a w:=by
 obtain⟨pre0,r,l,hrc,hl⟩:=G65 (rc:=rc) (i:=i) (by omega)
 have hall':U19 P d n ops N H0 (N+ops.length) T0 (r :: l):=U19.suf (pre:=pre0) (hrc ▸ hall)
 obtain⟨⟨o,s,hf⟩,_⟩:=hall'
 have ho:ops[i]? = some o:=by rw[<- hl];exact hf.ho
 obtain⟨hOR,hGR⟩:=hI.or (P:=P) (d:=d) hok hrc hl hlen hf hDi hp hcl
 unfold wpOp
 have ho':ops.toArray[i]? = some o:=by simpa using ho
 simp only[ho']
 have hw:=hf.what
 cases hinf:r.inf with
 | u=>
  rw[hinf] at hw
  obtain⟨hv,hno⟩:=hw
  rw[if_neg (by simp[hno F a hGR])]
  exact hK _ _ F X l' (hI.quiet hok hrc hl ho hDi hD (by simp[hinf]) (by simp[hinf]) (by rw[hv];exact VR.undef F))
 | p=>
  rw[hinf] at hw
  obtain⟨hyes,hpv⟩:=hw
  rw[if_pos (hyes F a hGR)]
  obtain⟨v',hrun,hv⟩:=hpv F a w hOR
  exact .inl (N6 hrun (hK _ _ F X l' (hI.quiet hok hrc hl ho hDi hD (by simp[hinf]) (by simp[hinf]) hv)))
 | r ir=>
  rw[hinf] at hw
  obtain⟨hyes,hsi⟩:=hw
  rw[if_pos (hyes F a hGR)]
  obtain⟨_,_,_,hci⟩:=J26 hf.hs
  rw[hsi] at hci
  obtain⟨pre,hsuf⟩:=hI.suf
  have hmem:(⟨i,ir,r.T,r.v⟩:Rd) ∈ rsR rc:=by
   rw[hrc]
   clear hI hall hrs hsuf hf hOR hGR hK hrc
   induction pre0 with
   | nil=>simp[rsR,hinf,hl]
   | cons x pre0 ih=>
    simp only[List.cons_append,rsR]
    split
    .exact List.mem_cons_of_mem _ ih
    .exact ih
  have hsame:=hrs _ hmem pre l' hsuf (fun e he hn=>by
   cases hb:X5 (Z3 ops) i e with
   | false=>rfl
   | true=>have:=hp e hb;rw[hI.todo e he hn] at this;cases this) (fun e he=>by
   cases hb:X5 (Z3 ops) e i with
   | false=>rfl
   | true=>have:=hcl e i (hI.done e he) hb;rw[hDi] at this;cases this)
  have hrv:=hsame (nR (N+ops.length) l') o hci
  dsimp only at hrv
  have hsub:=hI.sees hlen hp (Nat.le_refl _) (by rw[<- hlen];exact G21 rc) (fun q hq=>hq)
  have hHB:HB F (Z14 N (fun j=>X5 (Z3 ops) i j && !D5 (Z3 ops) (U4 l') j) (hR H0 l') (E6 rc)) (nR (N+ops.length) l') w:=
   ⟨fun q b hq hg=>hI.stp.hr.blk q b hq (hsub q b hg),hI.stp.hr.fresh⟩
  obtain⟨v',hrun,hv⟩:=hrv F a w hOR hHB
  exact .inl (N6 hrun (hK _ _ F X l' (hI.quiet hok hrc hl ho hDi hD (by simp[hinf]) (by simp[hinf]) hv)))
 | a b=>
  rw[hinf] at hw
  obtain⟨hyes,y,hav,hval⟩:=hw
  rw[if_pos (hyes F a hGR)]
  obtain⟨obj,hrun,hnew⟩:=hav F a w hOR
  have hFq:F (N+i)=none:=hI.res i hi hDi
  have hqn:N+i<nR (N+ops.length) l':=by have:=hI.nx;omega
  obtain⟨t,e1,e2,hst⟩:=hI.stp.addAt hqn (by omega) hFq hnew
  have hle:=N30 hFq t
  have hv:VR (upd F (N+i) t) r.v (y.real w.heap.size):=by
   rw[hval,hl,<- e1];exact B0.vr (R10 F (N+i) t) e2 y
  obtain⟨h1,h2⟩:=hI.put (D':=D') hok hrc hl ho hDi hD hle hv
  have hmem:(i,b) ∈ E6 rc:=by rw[hrc,<- hl];exact B87 hinf
  have hnm:D5 (Z3 ops) (U4 l') i=false:=by
   cases hm:D5 (Z3 ops) (U4 l') i with
   | false=>rfl
   | true=>
    unfold D5 at hm
    rw[List.any_eq_true] at hm
    obtain⟨e,he,hb⟩:=hm
    have:=hcl e i (hI.done e he) hb
    rw[hDi] at this;cases this
  have hkr:K27 ops.length (E6 rc):=by rw[<- hlen];exact G21 rc
  have note:∀ e ∈ U4 rc,e≠i:=by
   intro e he hh
   obtain⟨pre,r',l2,H,nx,g1,g2,g3⟩:=N43 he
   obtain⟨e1,_⟩:=Z28 (hrc.symm.trans g1) (by omega)
   rw[<- e1,hinf] at g3
   cases g3
  refine .inl (N6 hrun (hK _ _ (upd F (N+i) t) (hs X (N+i) (some b)) l' ?_))
  refine⟨hI.suf,fun e he=>by rw[hD];split<;>simp[hI.done e he],fun e he hn=>by rw[hD,if_neg (note e he)];exact hI.todo e he hn,h1,h2,fun q => ?_,hI.free,hst,fun j hj hd => ?_,hI.nx,(N14 a _ _).trans hI.defers⟩
  .rw[W7]
   by_cases e:q=N+i
   .subst e
    rw[if_pos rfl,D24 hkr hmem (by rw[hD,if_pos rfl,hnm];rfl)]
    rfl
   .rw[if_neg e,hI.heap q]
    congr 1
    apply W28
    intro x _ hx
    have:x.1≠i:=fun h=>e (by omega)
    simp only[hD,if_neg this]
  .rw[hD] at hd
   split at hd
   .cases hd
   .rename_i hji
    rw[N10 F t (by omega)]
    exact hI.res j hj hd
 | e H' nx'=>
  rw[hinf] at hw
  obtain⟨hyes,hev,hchain⟩:=hw
  rw[if_pos (hyes F a hGR)]
  obtain⟨pre,hsuf⟩:=hI.suf
  have hst0:U4 l'=U4 l/\hR H0 l'=hR H0 l/\nR (N+ops.length) l'=nR (N+ops.length) l:=by
   have in1:∀ e ∈ U4 l,e ∈ U4 l':=by
    intro e he
    have hrce:e ∈ U4 rc:=by rw[hrc];exact C64 (pre:=pre0) (by simp only[U4,hinf];exact List.mem_cons_of_mem _ he)
    cases Classical.em (e ∈ U4 l') with
    | inl h=>exact h
    | inr h=>
     have h1:=hI.todo e hrce h
     rw[hl] at hchain
     have h2:=hp e (hchain e he)
     rw[h1] at h2;cases h2
   have in2:∀ e ∈ U4 l',e<l.length:=by
    intro e he
    have hDe:=hI.done e he
    rcases Nat.lt_trichotomy e l.length with h | h | h
    .exact h
    .rw[h,hl,hDi] at hDe;cases hDe
    .exfalso
     have hrce:e ∈ U4 rc:=by rw[hsuf];exact C64 he
     obtain⟨pre2,r2,l2,H2,nx2,g1,g2,g3⟩:=N43 hrce
     have hall2:U19 P d n ops N H0 (N+ops.length) T0 (r2 :: l2):=U19.suf (pre:=pre2) (g1 ▸ hall)
     obtain⟨⟨o2,s2,hf2⟩,_⟩:=hall2
     have hw2:=hf2.what
     rw[g3] at hw2
     have hmi:i ∈ U4 l2:=by
      have h1:i ∈ U4 (pre2++r2 :: l2):=by rw[<- g1,hrc];exact C64 (pre:=pre0) (by simp only[U4,hinf,hl];simp)
      have h2:i ∈ U4 (r2 :: l2):=K92 h1 (by simp;omega)
      simp only[U4,g3] at h2
      rcases List.mem_cons.1 h2 with h2 | h2
      .omega
      .exact h2
     have hb:=hw2.2.2 i hmi
     rw[g2] at hb
     have:=hcl e i hDe hb
     rw[hDi] at this;cases this
   have cmp:(∃ mid,l'=mid++l)\/(∃ mid,l=mid++l'):=by
    have hrc2:pre++l'=(pre0++[r])++l:=by rw[<- hsuf,hrc];simp
    rcases List.append_eq_append_iff.1 hrc2 with ⟨m,h1,h2⟩ | ⟨m,h1,h2⟩
    .exact .inl ⟨m,h2⟩
    .exact .inr ⟨m,h2⟩
   rcases cmp with ⟨mid,rfl⟩ | ⟨mid,hm⟩
   .exact Q28 in2
   .have h3:∀ e ∈ U4 (mid++l'),e<l'.length:=by
     intro e he
     rw[<- hm] at he
     exact W30 (in1 e he)
    obtain⟨g1,g2,g3⟩:=Q28 (H0:=H0) (n0:=N+ops.length) h3
    rw[<- hm] at g1 g2 g3
    exact⟨g1.symm,g2.symm,g3.symm⟩
  obtain⟨s1,s2,s3⟩:=hst0
  rw[hl] at hev hchain
  have hkr:K27 ops.length (E6 rc):=by rw[<- hlen];exact G21 rc
  have hkl:K27 i (E6 l):=by rw[<- hl];exact G21 l
  have hasl:∀ q ∈ E6 l,q ∈ E6 rc:=by
   intro q hq
   rw[hrc,show pre0++r :: l=(pre0++[r])++l by simp]
   exact X94 hq
  have hsub0:=hI.sees hlen hp (L:=i) (by omega) hkl hasl
  rw[s1,s2] at hsub0
  have hHR:HR F (Z14 N (fun j=>X5 (Z3 ops) i j && !D5 (Z3 ops) (U4 l) j) (hR H0 l) (E6 l)) (nR (N+ops.length) l) w:=by
   rw[<- s3];exact hI.stp.hr.sub (fun q b hg=>hsub0 q b hg)
  refine .inl (hev F a w K Q hOR hHR fun v' F' w' hv hst => ?_)
  have hle:=hst.fle hHR
  obtain⟨h1,h2⟩:=hI.put (D':=D') hok hrc hl ho hDi hD hle hv
  have hes:U4 (r :: l)=i :: U4 l:=by simp only[U4,hinf,hl]
  have hhR:hR H0 (r :: l)=H':=by simp only[hR,hinf]
  have hnR:nR (N+ops.length) (r :: l)=nx':=by simp only[nR,hinf]
  have nota:∀ q ∈ E6 rc,q.1≠i:=by
   rintro⟨j,b⟩ hq e
   obtain⟨pre3,r',l2,g1,g2,g3⟩:=W29 hq
   obtain⟨e1,_⟩:=Z28 (hrc.symm.trans g1) (by simp at e;omega)
   rw[<- e1,hinf] at g3
   cases g3
  have hnx0:N+ops.length<=nR (N+ops.length) l:=by rw[<- s3];exact hI.nx
  have unseen:∀ j,j<ops.length->X5 (Z3 ops) i j=false->D5 (Z3 ops) (U4 l) j=false ->
    X0 (Z14 N (fun j=>X5 (Z3 ops) i j && !D5 (Z3 ops) (U4 l) j) (hR H0 l) (E6 l)) (N+j)=none:=by
   intro j hj hb hm
   rw[J16 (L:=i) hkl _]
   have e1:X0 (hR H0 l) (N+j)=none:=by rw[<- s2];exact hI.free j hj (by rw[s1];exact hm)
   rw[e1]
   cases hpk:B10 N (fun j=>X5 (Z3 ops) i j && !D5 (Z3 ops) (U4 l) j) (N+j) (E6 l) with
   | none=>rfl
   | some b=>
    obtain⟨j',_,h3,h4⟩:=D18 hpk
    have:j'=j:=by omega
    subst this
    rw[hb] at h4;cases h4
  have hX':∀ q,X0 (Z14 N (fun j=>D' j && !D5 (Z3 ops) (U4 (r :: l)) j) H' (E6 rc)) q=(B10 N (fun j=>D' j && !D5 (Z3 ops) (U4 (r :: l)) j) q (E6 rc)).or (X0 H' q):=
   fun q=>J16 (L:=ops.length) hkr q
  have hbes:=U5.beside (X':=Z14 N (fun j=>D' j && !D5 (Z3 ops) (U4 (r :: l)) j) H' (E6 rc)) (s3 ▸ hI.stp.hr) (fun q b hq hg=>hsub0 q b hg) hst (by
   intro q
   rw[hX' q]
   cases hpk:B10 N (fun j=>D' j && !D5 (Z3 ops) (U4 (r :: l)) j) q (E6 rc) with
   | some b=>
    obtain⟨j,hm,rfl,hpj⟩:=D18 hpk
    rw[Bool.and_eq_true,hes,G34] at hpj
    have hji:j≠i:=nota _ hm
    have hj:j<ops.length:=by
     obtain⟨pre3,r3,l3,g1,g2,_⟩:=W29 hm
     rw[<- hlen,g1];simp;omega
    have hDj:D j=true:=by have:=hpj.1;rw[hD,if_neg hji] at this;exact this
    have hnb:X5 (Z3 ops) i j=false/\D5 (Z3 ops) (U4 l) j=false:=by
     have:=hpj.2;simp at this;exact this
    have hXq:X0 X (N+j)=some b:=by
     rw[hI.heap _,D24 hkr hm (by rw[hDj,s1,hnb.2];rfl)];rfl
    rw[if_pos ⟨by omega,unseen j hj hnb.1 hnb.2,by rw[hXq];rfl⟩,hXq]
    rfl
   | none=>
    rw[if_neg]
    .rfl
    .rintro⟨g1,g2,g3⟩
     rw[hI.heap q] at g3
     cases hpd:B10 N (fun j=>D j && !D5 (Z3 ops) (U4 l') j) q (E6 rc) with
     | some b=>
      obtain⟨j,hm,rfl,hpj⟩:=D18 hpd
      rw[Bool.and_eq_true,s1] at hpj
      have hji:j≠i:=nota _ hm
      have hbit:X5 (Z3 ops) i j=true:=by
       cases hb:X5 (Z3 ops) i j with
       | true=>rfl
       | false=>
        exfalso
        have hmg:D5 (Z3 ops) (U4 l) j=false:=by simpa using hpj.2
        rw[D24 hkr hm (by rw[hD,if_neg hji,hpj.1,hes,G34,hb,hmg];rfl)] at hpk
        cases hpk
      have hji2:=Z55 hok _ _ hbit
      have hml:(j,b) ∈ E6 l:=by
       refine D92 (pre:=pre0++[r]) ?_ (by omega)
       rw[show (pre0++[r])++l=pre0++r :: l by simp,<- hrc];exact hm
      rw[J16 (L:=i) hkl _,D24 hkl hml (by rw[hbit];exact hpj.2)] at g2
      cases g2
     | none=>
      rw[hpd] at g3
      rw[J16 (L:=i) hkl _] at g2
      rw[s2] at g3
      cases hg:X0 (hR H0 l) q with
      | none=>rw[hg] at g3;simp at g3
      | some b=>
       rw[hg] at g2
       cases hpp:B10 N (fun j=>X5 (Z3 ops) i j && !D5 (Z3 ops) (U4 l) j) q (E6 l)<;>rw[hpp] at g2<;>cases g2)
  refine hK _ _ F' _ (r :: l) ⟨⟨pre0,hrc⟩,?_,?_,h1,h2,fun q=>by rw[hX' q,hhR],?_,?_,?_,?_,(N14 a _ _).trans hI.defers⟩
  .intro e he
   rw[hes] at he
   rcases List.mem_cons.1 he with rfl | he
   .rw[hD,if_pos rfl]
   .rw[hD];split
    .rfl
    .exact hI.done e (by rw[s1];exact he)
  .intro e he hn
   rw[hes] at hn
   have hne:e≠i:=fun h=>hn (by simp[h])
   rw[hD,if_neg hne]
   exact hI.todo e he (by rw[s1];exact fun h=>hn (List.mem_cons_of_mem _ h))
  .intro j hj hm
   rw[hes,G34] at hm
   rw[Bool.or_eq_false_iff] at hm
   rw[hhR]
   exact hst.keep _ (by omega) (unseen j hj hm.1 hm.2)
  .rw[hnR]
   exact hI.stp.trans (s3 ▸ hbes)
  .intro j hj hd
   rw[hD] at hd
   split at hd
   .cases hd
   .rw[hst.ext _ (by omega)];exact hI.res j hj hd
  .rw[hnR];exact Nat.le_trans hnx0 hst.le
end
end Go.Clo

namespace Go.Clo
variable {H:Y0} {P:Program} {nx:Nat} {ops:List Oper}
theorem U5.reserve {F:FM} {H:Y0} {nx:Nat} {w:World} (h:HR F H nx w) {nx2:Nat} (h1:nx<=nx2):U5 F H nx w F H nx2 w:=by
 refine⟨h1,fun _ _=>rfl,rfl,rfl,rfl,Nat.le_refl _,fun _ _ _=>rfl,?_,fun _ _ h=>h,fun i b hg _=>⟨h.low hg,hg⟩,h.reserve h1⟩
 rintro b ⟨i,k,t,hi,hg,hrk,hF,e⟩
 exact .inl ⟨i,k,t,h.low hg,hg,hrk,hF,e⟩
theorem U5.congr {F:FM} {w:World} {F':FM} {X X2:Y0} {nx':Nat} {w':World} (h:U5 F H nx w F' X nx' w') (he:∀ q,X0 X2 q=X0 X q):U5 F H nx w F' X2 nx' w':=by
 have hown:∀ b,Own F' X2 nx' b->Own F' X nx' b:=by
  rintro b ⟨i,k,t,hi,hg,hrk,hF,e⟩
  exact⟨i,k,t,hi,by rw[<- he i];exact hg,hrk,hF,e⟩
 refine⟨h.le,h.ext,h.os,h.tape,h.output,h.size,h.frame,fun b hb=>h.own b (hown b hb),fun i hi hn => ?_,fun i b hg hrb=>h.rom i b (by rw[<- he i];exact hg) hrb,h.hr.sub (fun i b hg=>by rw[<- he i];exact hg)⟩
 rw[he i];exact h.keep i hi hn
def cnt:Nat->(Nat->Bool)->Nat
 | 0,_=>0
 | k+1,D=>cnt k D+(if D k then 0 else 1)
theorem U57 {D D':Nat->Bool}:∀ {k:Nat},(∀ j,j<k->D j=D' j)->cnt k D=cnt k D'
 | 0,_=>rfl
 | k+1,h=>by simp only[cnt];rw[U57 fun j hj=>h j (by omega),h k (by omega)]
theorem X36 {D D':Nat->Bool} {i:Nat} (hD:∀ j,D' j=if j=i then true else D j) (hi:D i=false):∀ {k:Nat},i<k->cnt k D'+1=cnt k D
 | 0,h=>by omega
 | k+1,h=>by
  simp only[cnt]
  by_cases e:i=k
  .subst e
   have:D' i=true:=by rw[hD,if_pos rfl]
   rw[this,hi,U57 (D:=D') (D':=D) fun j hj=>by rw[hD,if_neg (by omega)]]
   simp
  .have:=X36 hD hi (k:=k) (by omega)
   have e2:D' k=D k:=by rw[hD,if_neg (fun h=>e h.symm)]
   rw[e2];omega
theorem K67 {D:Nat->Bool}:∀ {k:Nat},cnt k D=0->∀ i,i<k->D i=true
 | 0,_,i,hi=>by omega
 | k+1,h,i,hi=>by
  simp only[cnt] at h
  by_cases e:i=k
  .subst e
   cases hd:D i with
   | true=>rfl
   | false=>rw[hd] at h;simp at h
  .exact K67 (k:=k) (by omega) i (by omega)
theorem N70 {D:Nat->Bool} (h:∀ i,D i=false):∀ k,cnt k D=k
 | 0=>rfl
 | k+1=>by simp[cnt,N70 h k,h k]
section
variable {P:Program} {d n:Nat} {ops:List Oper} {N:Nat} {H0:Y0} {T0:U1 Value} {rc:List R6} {F0:FM} {w0:World} {ds:List Deferred}
theorem X70 (hok:∀ i o,ops[i]? = some o->Z21 ops i o) (hlen:rc.length=ops.length) (hall:U19 P d n ops N H0 (N+ops.length) T0 rc)
  (hrs:X61 P d n ops N H0 rc) {Q:Exit->Act->World->Prop}
  (hQ:∀ (D:Nat->Bool) a w F X l',(∀ i,i<ops.length->D i=true)->Inv n ops N H0 T0 rc F0 w0 ds D a w F X l'->Q .normal a w):
  ∀ (fuel:Nat) (listed:Array Bool) (a:Act) (w:World) (F:FM) (X:Y0) (l':List R6),listed.size=ops.length->cnt ops.length (fun i=>listed.getD i false)<=fuel->Z78 ops (fun i=>listed.getD i false) ->
   Inv n ops N H0 T0 rc F0 w0 ds (fun i=>listed.getD i false) a w F X l'->wpAny P .any ops.toArray Q fuel listed a w
 | 0,listed,a,w,F,X,l',hsz,hc,hcl,hI=>by
  have hd:=K67 (D:=fun i=>listed.getD i false) (k:=ops.length) (by omega)
  refine⟨?_,hQ _ a w F X l' hd hI⟩
  cases hr:Region.ready .any ops.toArray listed with
  | nil=>rfl
  | cons i rest=>
   obtain⟨h1,h2,_⟩:=J51 (ops:=ops.toArray) (listed:=listed) (i:=i) (by rw[hr];simp)
   have:=hd i (by simpa using h1)
   have hi:i<listed.size:=by simp at h1;omega
   simp[hi] at this h2
   rw[this] at h2;cases h2
 | fuel+1,listed,a,w,F,X,l',hsz,hc,hcl,hI=>by
  refine⟨fun hr => ?_,fun i hi => ?_⟩
  .refine hQ _ a w F X l' (fun i hi => ?_) hI
   exact G72 (ops:=ops.toArray) (by simpa using hsz) (fun i o ho e he hb=>(hok i o (by simpa using ho)).edge e he hb) hr i (by simpa using hi)
  .obtain⟨h1,h2,h3⟩:=J51 hi
   have hil:i<ops.length:=by simpa using h1
   have his:i<listed.size:=by omega
   have hDi:listed.getD i false=false:=by simp[his] at h2 ⊢;exact h2
   have hdir:∀ o,ops[i]? = some o->∀ e ∈ o.after,Region.binds .any e=true->listed.getD e.on false=true:=fun o ho=>h3 o (by simpa using ho)
   have hp:=fun j=>K51 hok hcl i j hdir
   have hcl2:∀ i j,listed.getD i false=true->X5 (Z3 ops) i j=true->listed.getD j false=true:=by
    intro i j hi hb
    exact K51 hok hcl i j (fun o ho e he hbd=>hcl i o ho hi e he hbd) hb
   have hD:∀ j,(listed.setIfInBounds i true).getD j false=if j=i then true else listed.getD j false:=by
    intro j
    by_cases e:j=i
    .subst e;simp[his]
    .simp[e,Array.getElem?_setIfInBounds_ne (Ne.symm e)]
   refine K86 (D:=fun i=>listed.getD i false) (D':=fun j=>(listed.setIfInBounds i true).getD j false) hok hlen hall hrs hI hil hDi hp hcl2 hD fun a' w' F' X' l'' hI' => ?_
   refine X70 hok hlen hall hrs hQ fuel _ a' w' F' X' l'' (by simpa using hsz) ?_ ?_ hI'
   .have:=X36 (D:=fun i=>listed.getD i false) (D':=fun j=>(listed.setIfInBounds i true).getD j false) hD hDi (k:=ops.length) hil
    omega
   .intro q o ho hq e he hb
    dsimp only at hq ⊢
    rw[hD] at hq
    rw[hD]
    split
    .rfl
    .split at hq
     .rename_i hqi;subst hqi;exact hdir o ho e he hb
     .exact hcl q o ho hq e he hb
end
theorem V58 {ops:List Oper} {T0:U1 Value} {D:Nat->Bool} (h:∀ i,D i=false) {t:Nat}:∀ (l:List R6),D15 ops T0 D l t=(tg T0 t).getD undef
 | []=>rfl
 | r :: l=>by simp only[D15,h];simp;exact V58 h l
theorem V28 {P:Program} {n:Nat} {ops:List Oper}:∀ {suf:List Oper} {l:List S},Y7 P n ops suf=some l->l.length=suf.length
 | [],l,h=>by simp[Y7] at h;subst h;rfl
 | o :: suf,l,h=>by
  simp only[Y7] at h
  cases hs:D25 P n ops o with
  | none=>simp[hs] at h
  | some s=>cases hl:Y7 P n ops suf with
   | none=>simp[hs,hl] at h
   | some l'=>simp[hs,hl] at h;subst h;simp[V28 hl]
theorem Q34 {P:Program} {n:Nat} {ops:List Oper}:∀ {suf:List Oper} {l:List S},Y7 P n ops suf=some l->∀ o ∈ suf,∀ t,o.dst=some t->t ∈ X17 l
 | [],l,h,o,ho=>by cases ho
 | o' :: suf,l,h,o,ho=>by
  simp only[Y7] at h
  cases hs:D25 P n ops o' with
  | none=>simp[hs] at h
  | some s=>cases hl:Y7 P n ops suf with
   | none=>simp[hs,hl] at h
   | some l'=>
    simp[hs,hl] at h;subst h
    intro t ht
    simp only[X17,List.mem_append]
    rcases List.mem_cons.1 ho with rfl | ho
    .refine .inl ?_
     rw[(J26 hs).2.1,ht];simp
    .exact .inr (Q34 hl o ho t ht)
theorem W39 {ops:List Oper} {T0:U1 Value} {W:List Nat} (hW:∀ o ∈ ops,∀ t,o.dst=some t->t ∈ W) {j:Nat} (hj:j ∉ W):∀ {l:List R6},U18 ops T0 l j=(tg T0 j).getD undef
 | []=>rfl
 | r :: l=>by
  simp only[U18]
  rw[if_neg,W39 hW hj]
  intro h
  cases ho:ops[l.length]? with
  | none=>rw[ho] at h;cases h
  | some o=>rw[ho] at h;exact hj (hW o (List.mem_of_getElem? ho) j h)
theorem Y57 {d n:Nat} (hm:P.follows .mixedOrders=true) (hslots:U22 (Z3 ops) ops ops 0=true) (hn:n<=2^d)
  {T:U1 Value} {rc:List R6} {T':U1 Value} (hlen:rc.length=ops.length) (hall:U19 P d n ops nx H (nx+ops.length) T rc) (hw':WF d T') (hT':∀ t,t<n->(tg T' t).getD undef=U18 ops T rc t) (hrs':X61 P d n ops nx H rc):
   ∀ (id:Nat) (F:FM) (a:Act) (w:World) (Q:Exit->Act->World->Prop),TR d F T n a.tmps->HR F H nx w ->
    (∀ F' a' w',TR d F' T' n a'.tmps->U5 F H nx w F' (Z14 nx (fun j => !D5 (Z3 ops) (U4 rc) j) (hR H rc) (E6 rc)) (nR (nx+ops.length) rc) w'->a'.defers=a.defers->Q .normal a' w')->(Code.region id ops.toArray true).wp P Q a w:=by
 have hok:∀ i o,ops[i]? = some o->Z21 ops i o:=fun i o ho=>by simpa using Y45 ops 0 hslots i o ho
 intro id F a w Q ht hr hk
 refine wp_region_any hm ?_
 have hr1:HR F H nx { w with drawn:=w.drawn+1 }:=hr.drew _
 have hD0:∀ i,(Array.replicate ops.toArray.size false).getD i false=false:=by
  intro i;simp[Array.getElem?_replicate];split<;>rfl
 refine X70 (N:=nx) (H0:=H) (T0:=T) (rc:=rc) (F0:=F) (w0:=w) (ds:=a.defers) hok hlen hall hrs' ?_ _ _ a _ F H [] (by simp) ?_ ?_ ?_
 ·
  intro D a' w' F' X l' hD hI
  obtain⟨pre,hsuf⟩:=hI.suf
  have hall':∀ e ∈ U4 (pre++l'),e<l'.length:=by
   intro e he
   rw[<- hsuf] at he
   cases Classical.em (e ∈ U4 l') with
   | inl h=>exact W30 h
   | inr h=>
    have h2:=hI.todo e he h
    have h3:=W30 he
    rw[hD e (by omega)] at h2;cases h2
  obtain⟨s1,s2,s3⟩:=Q28 (H0:=H) (n0:=nx+ops.length) hall'
  rw[<- hsuf] at s1 s2 s3
  refine hk F' a' w' ⟨hw',hI.size,hn,fun t htn => ?_⟩ ?_ hI.defers
  .rw[hT' t htn,<- E54 (D:=D) (T0:=T) (ops:=ops) fun j hj _=>hD j (by omega)]
   exact hI.slots t htn
  .have hst:=hI.stp
   rw[<- s3] at hst
   refine hst.congr fun q => ?_
   rw[J16 (L:=ops.length) (by rw[<- hlen];exact G21 rc) q,hI.heap q,s1,s2]
   congr 1
   apply W28
   rintro⟨j,b⟩ hx _
   obtain⟨pre3,r3,l3,g1,g2,_⟩:=W29 hx
   have hj:j<ops.length:=by rw[<- hlen,g1];simp;omega
   simp[hD j hj]
 .have:=N70 (D:=fun i=>(Array.replicate ops.toArray.size false).getD i false) hD0 ops.length
  rw[this];simp
 .intro i o _ hi
  dsimp only at hi;rw[hD0] at hi;cases hi
 .refine⟨⟨rc,by simp⟩,by simp[U4],fun e _ _=>hD0 e,ht.size,fun t htn => ?_,fun q => ?_,fun j hj _=>hr.top _ (by omega),?_,fun j hj _=>hr.fresh _ (by omega),Nat.le_refl _,rfl⟩
  .rw[V58 hD0];exact ht.get t htn
  .have:B10 nx (fun j=>(Array.replicate ops.toArray.size false).getD j false && !D5 (Z3 ops) (U4 []) j) q (E6 rc)=none:=by
    cases hp:B10 nx (fun j=>(Array.replicate ops.toArray.size false).getD j false && !D5 (Z3 ops) (U4 []) j) q (E6 rc) with
    | none=>rfl
    | some b=>
     obtain⟨j,_,_,hpj⟩:=D18 hp
     rw[hD0] at hpj;cases hpj
   rw[this];rfl
  .exact (U5.drew hr (w.drawn+1)).trans (U5.reserve hr1 (nx2:=nx+ops.length) (by omega))
theorem N75 {β:Type} {d n:Nat} {l:List S} (hm:P.follows .mixedOrders=true) (hl:Y7 P n ops ops=some l) (hslots:U22 (Z3 ops) ops ops 0=true) (hn:n<=2^d) {call:B5 β} (hcall:D19 P call) {chk:G20 β} (hchk:D52 P chk)
  (T:U1 Value) (H:Y0) (nx:Nat) (z:β) (k:K β) (hwT:WF d T):
  W44 P d call chk z (Z3 ops) l T H nx k=z\/∃ T' H' nx',W44 P d call chk z (Z3 ops) l T H nx k=k T' H' nx'/\(WF d T'/\Agr n (X17 l) T T') /\
   ∀ (id:Nat) (F:FM) (a:Act) (w:World) (Q:Exit->Act->World->Prop),TR d F T n a.tmps->HR F H nx w ->
    (∀ F' a' w',TR d F' T' n a'.tmps->U5 F H nx w F' H' nx' w'->a'.defers=a.defers->Q .normal a' w')->(Code.region id ops.toArray true).wp P Q a w:=by
 unfold W44
 rw[N2,V28 hl]
 rcases E46 (N:=nx) (H0:=H) (n0:=nx+ops.length) (T0:=T) hcall hn z (fun T H n Ms es as rs=>chk (Z3 ops) nx as rs es Ms H (M20 (Z3 ops) nx es H (fun H=>k T H n) as) z) ops l [] T hl (by simp) trivial hwT (fun t _=>rfl) with h | ⟨rc,T',h1,hall,hw',hT',h5⟩
 .exact .inl h
 .have h5':K7 P d call (Z3 ops) nx z (fun T H n Ms es as rs=>chk (Z3 ops) nx as rs es Ms H (M20 (Z3 ops) nx es H (fun H=>k T H n) as) z) l 0 T H (nx+ops.length) [] [] [] []=_:=h5
  rw[h5']
  rcases hchk d n ops nx H rc (M20 (Z3 ops) nx (U4 rc) (hR H rc) (fun H=>k T' H (nR (nx+ops.length) rc)) (E6 rc)) z with h | ⟨h,hrs'⟩
  .exact .inl h
  .rw[h,B38]
   exact .inr ⟨T',_,_,rfl,⟨hw',fun j hj hne=>by rw[hT' j hj];exact W39 (Q34 hl) hne⟩,Y57 hm hslots hn (by simpa using h1) hall hw' hT' hrs'⟩
end Go.Clo
