/-
  The closed executor: heaps with blocks beside.
  The closed executor: a region's run in the order of the text,as a record.
  The closed executor: a region's operations in whatever order: the state.
-/
import Derived.Test.YtpiobdofbhkmjaaDoorL9
set_option linter.unusedSimpArgs false
set_option linter.unusedVariables false
set_option linter.unusedSectionVars false
namespace Go.Clo
variable {F:FM} {nx:Nat} {w:World}
theorem HR.sub {H H':Y0} (hr:HR F H nx w) (hs:∀ i b,X0 H' i=some b->X0 H i=some b):HR F H' nx w:=
 ⟨fun i b hi hg=>hr.blk i b hi (hs i b hg),fun i j bi bj ti tj hi hj gi gj=>hr.inj i j bi bj ti tj hi hj (hs i bi gi) (hs j bj gj),hr.fresh,fun i hi=>by
  cases hg:X0 H' i with
  | none=>rfl
  | some b=>exact absurd (hs i b hg) (by rw[hr.top i hi];simp),hr.gl.step (fun _ _ _=>rfl) (fun b ⟨i,k,t,hi,hg,hrk,hF,e⟩ => .inl ⟨i,k,t,hi,hs i k hg,hrk,hF,e⟩)⟩
theorem U5.beside {X Hin:Y0} {F':FM} {Hout:Y0} {nx':Nat} {w':World} (hr:HR F X nx w) (hsub:∀ i b,i<nx->X0 Hin i=some b->X0 X i=some b)
  (hst:U5 F Hin nx w F' Hout nx' w') {X':Y0}
  (hX:∀ i,X0 X' i=if i<nx/\X0 Hin i=none/\(X0 X i).isSome=true then X0 X i else X0 Hout i):
  U5 F X nx w F' X' nx' w':=by
 have hown:∀ b,Own F Hin nx b->Own F X nx b:=by
  rintro b ⟨i,k,t,hi,hg,hrk,hF,e⟩
  exact⟨i,k,t,hi,hsub i k hi hg,hrk,hF,e⟩
 have aside:∀ i b,i<nx->X0 Hin i=none->X0 X i=some b->∃ t,F i=some t/\F' i=some t/\t.blk<w.heap.size/\¬ Own F Hin nx t.blk/\BR F' t b w':=by
  intro i b hi hn hg
  obtain⟨t,hF,hb⟩:=hr.blk i b hi hg
  have hno:¬ Own F Hin nx t.blk:=by
   rintro⟨j,k,u,hj,hgj,hrk,hFj,e⟩
   rcases hr.inj j i k b u t hj hi (hsub j k hj hgj) hg hFj hF e with this | this
   .subst this
    rw[hn] at hgj;cases hgj
   .rw[hrk] at this;cases this.1
  have hF':F' i=some t:=by rw[hst.ext i hi];exact hF
  refine⟨t,hF,hF',hb.lt,hno,hb.mono (fun q u hq => ?_) (hst.frame _ hb.lt hno)⟩
  rcases Nat.lt_or_ge q nx with g | g
  .rw[hst.ext q g];exact hq
  .rw[hr.fresh q g] at hq;cases hq
 have own2:∀ b,Own F' X' nx' b->Own F X nx b\/w.heap.size<=b:=by
  rintro b ⟨i,k,t,hi,hg,hrk,hF,rfl⟩
  rw[hX i] at hg
  split at hg
  .rename_i hc
   obtain⟨h1,h2,_⟩:=hc
   obtain⟨t',hF0,hF',_⟩:=aside i k h1 h2 hg
   rw[hF'] at hF;cases hF
   exact .inl ⟨i,k,t,h1,hg,hrk,hF0,rfl⟩
  .exact (hst.own _ ⟨i,k,t,hi,hg,hrk,hF,rfl⟩).imp (hown _) id
 refine⟨hst.le,hst.ext,hst.os,hst.tape,hst.output,hst.size,fun b hb hno=>hst.frame b hb (fun h=>hno (hown b h)),own2,?_,?_,?_⟩
 .intro i hi hn
  have hn':X0 Hin i=none:=by
   cases hg:X0 Hin i with
   | none=>rfl
   | some b=>rw[hsub i b hi hg] at hn;cases hn
  rw[hX i,if_neg (by simp[hn])]
  exact hst.keep i hi hn'
 .intro i b hg hrb
  rw[hX i] at hg
  split at hg
  .rename_i hc;exact⟨hc.1,hg⟩
  .obtain⟨h1,h2⟩:=hst.rom i b hg hrb
   exact⟨h1,hsub i b h1 h2⟩
 .refine⟨?_,?_,hst.hr.fresh,fun i hi=>by rw[hX i,if_neg (by have:=hst.le;omega)];exact hst.hr.top i hi,hr.gl.step (fun b hb hno=>hst.frame b hb (fun h=>hno (hown b h))) own2⟩
  .intro i b hi hg
   rw[hX i] at hg
   split at hg
   .rename_i hc
    obtain⟨t,_,hF',_,_,hb⟩:=aside i b hc.1 hc.2.1 hg
    exact⟨t,hF',hb⟩
   .exact hst.hr.blk i b hi hg
  ·
   have mix:∀ i j bi bj ti tj,i<nx->j<nx'->X0 Hin i=none->X0 X i=some bi->X0 Hout j=some bj->F' i=some ti->F' j=some tj->ti.blk=tj.blk->¬ (j<nx/\X0 Hin j=none/\(X0 X j).isSome=true)->bi.isRom=true/\bj.isRom=true:=by
    intro i j bi bj ti tj hi hj hn gi gj fi fj e hcj
    obtain⟨t,hF,hF',hlt,hno,_⟩:=aside i bi hi hn gi
    rw[hF'] at fi;cases fi
    have hbr:bj.isRom=true:=by
     cases hr':bj.isRom with
     | true=>rfl
     | false=>
      exfalso
      rcases hst.own tj.blk ⟨j,bj,tj,hj,gj,hr',fj,rfl⟩ with h | h
      .rw[<- e] at h;exact hno h
      .omega
    refine⟨?_,hbr⟩
    cases hri:bi.isRom with
    | true=>rfl
    | false=>
     exfalso
     obtain⟨h1,h2⟩:=hst.rom j bj gj hbr
     have fj':F j=some tj:=by rw[<- hst.ext j h1];exact fj
     rcases hr.inj i j bi bj _ tj hi h1 gi (hsub j bj h1 h2) hF fj' e with h | h
     .subst h;rw[hn] at h2;cases h2
     .rw[hri] at h;cases h.1
   intro i j bi bj ti tj hi hj gi gj fi fj e
   rw[hX i] at gi;rw[hX j] at gj
   split at gi<;>split at gj
   .rename_i hci hcj
    have fi':F i=some ti:=by rw[<- hst.ext i hci.1];exact fi
    have fj':F j=some tj:=by rw[<- hst.ext j hcj.1];exact fj
    exact hr.inj i j bi bj ti tj hci.1 hcj.1 gi gj fi' fj' e
   .rename_i hci hcj
    exact .inr (mix i j bi bj ti tj hci.1 hj hci.2.1 gi gj fi fj e hcj)
   .rename_i hci hcj
    exact .inr (mix j i bj bi tj ti hcj.1 hi hcj.2.1 gj gi fj fi e.symm hci).symm
   .exact hst.hr.inj i j bi bj ti tj hi hj gi gj fi fj e
theorem U5.addAt {F0:FM} {H0:Y0} {N:Nat} {w0:World} {X:Y0} (hst:U5 F0 H0 N w0 F X nx w) {q:Nat} (hq:q<nx) (hN:N<=q) (hF:F q=none) {b:V4} {obj:Obj} (hn:K72 F b obj):
  ∃ t,t.blk=w.heap.size/\t.base=0/\U5 F0 H0 N w0 (upd F q t) (hs X q (some b)) nx (w.alloc obj):=by
 have hr:=hst.hr
 have hget:∀ i,X0 (hs X q (some b)) i=if i=q then some b else X0 X i:=fun i=>W7 X q i _
 have hrb:b.isRom=false:=by cases b<;>first | rfl | exact hn.elim
 have main:∀ t:Tgt,t.blk=w.heap.size->BR (upd F q t) t b (w.alloc obj)->U5 F0 H0 N w0 (upd F q t) (hs X q (some b)) nx (w.alloc obj):=by
  intro t ht hb
  have hle:=N30 hF t
  refine⟨hst.le,fun i hi=>by rw[N10 F t (by omega)];exact hst.ext i hi,hst.os,hst.tape,hst.output,Nat.le_trans hst.size (by simp),?_,?_,?_,?_,?_⟩
  .intro k hk hno
   rw[N21 w obj k (Nat.lt_of_lt_of_le hk hst.size)]
   exact hst.frame k hk hno
  .rintro k ⟨i,kb,u,hi,hg,hrk,hFi,rfl⟩
   rw[hget i] at hg
   by_cases e:i=q
   .subst e;rw[R10] at hFi;cases hFi;exact .inr (by rw[ht];exact hst.size)
   .rw[if_neg e] at hg;rw[N10 F t e] at hFi
    exact hst.own _ ⟨i,kb,u,hi,hg,hrk,hFi,rfl⟩
  .intro i hi hnone
   rw[hget i,if_neg (by omega)]
   exact hst.keep i hi hnone
  .intro i bi hg hri
   rw[hget i] at hg
   by_cases e:i=q
   .subst e;rw[if_pos rfl] at hg;cases hg;rw[hrb] at hri;cases hri
   .rw[if_neg e] at hg;exact hst.rom i bi hg hri
  .refine⟨?_,?_,?_,fun i hi=>by rw[hget,if_neg (by omega)];exact hr.top i hi,hr.gl.step (fun k hk _=>N21 w obj k hk) (by
    rintro k ⟨i,kb,u,hi,hg,hrk,hFi,rfl⟩
    rw[hget i] at hg
    by_cases e:i=q
    .subst e;rw[R10] at hFi;cases hFi;exact .inr (by omega)
    .rw[if_neg e] at hg;rw[N10 F t e] at hFi
     exact .inl ⟨i,kb,u,hi,hg,hrk,hFi,rfl⟩)⟩
   .intro i kb hi hg
    rw[hget i] at hg
    by_cases e:i=q
    .subst e;rw[if_pos rfl] at hg;cases hg;exact⟨t,R10 _ _ _,hb⟩
    .rw[if_neg e] at hg
     obtain⟨u,hFi,hbi⟩:=hr.blk i kb hi hg
     exact⟨u,by rw[N10 F t e];exact hFi,hbi.mono hle (N21 w obj _ hbi.lt)⟩
   .intro i j bi bj ti tj hi hj gi gj fi fj e
    rw[hget i] at gi;rw[hget j] at gj
    by_cases ei:i=q<;>by_cases ej:j=q
    .exact .inl (by rw[ei,ej])
    .exfalso
     subst ei;rw[R10] at fi;cases fi
     rw[if_neg ej] at gj;rw[N10 F t ej] at fj
     obtain⟨u,hFj,hbj⟩:=hr.blk j bj hj gj
     rw[fj] at hFj;cases hFj
     have:=hbj.lt;omega
    .exfalso
     subst ej;rw[R10] at fj;cases fj
     rw[if_neg ei] at gi;rw[N10 F t ei] at fi
     obtain⟨u,hFi,hbi⟩:=hr.blk i bi hi gi
     rw[fi] at hFi;cases hFi
     have:=hbi.lt;omega
    .rw[if_neg ei] at gi;rw[if_neg ej] at gj;rw[N10 F t ei] at fi;rw[N10 F t ej] at fj
     exact hr.inj i j bi bj ti tj hi hj gi gj fi fj e
   .intro i hi
    rw[N10 F t (by omega)];exact hr.fresh i hi
 cases b with
 | cells c sl=>
  obtain⟨rfl,c',e,rfl,hvl⟩:=hn
  refine⟨⟨w.heap.size,0,c.length,0,c'.size⟩,rfl,rfl,main _ rfl ?_⟩
  refine⟨c',e,G26 w _,rfl,rfl,rfl,by have:=hvl.length;simp at this;simp[this],?_⟩
  have hl:=hvl.length
  simp only[List.drop_zero]
  rw[List.take_of_length_le (by omega)]
  exact hvl.mono (N30 hF _)
 | map es k=>
  obtain⟨rfl,rfl⟩:=hn
  exact⟨⟨w.heap.size,0,0,0,0⟩,rfl,rfl,main _ rfl ⟨rfl,#[],G26 w _,.nil⟩⟩
 | rom c=>exact hn.elim
def B10 (N:Nat) (p:Nat->Bool) (q:Nat):List (Nat × V4)->Option V4
 | []=>none
 | (j,b) :: l=>if N+j=q/\p j=true then some b else B10 N p q l
noncomputable def Z14 (N:Nat) (p:Nat->Bool) (H:Y0):List (Nat × V4)->Y0
 | []=>H
 | (j,b) :: l=>Z14 N p (cond (p j) (hs H (N+j) (some b)) H) l
def K27 (L:Nat):List (Nat × V4)->Prop
 | []=>True
 | (j,_) :: l=>j<L/\(∀ q ∈ l,q.1≠j)/\K27 L l
theorem G57 {N:Nat} {p:Nat->Bool} {j:Nat}:∀ {l:List (Nat × V4)},(∀ q ∈ l,q.1≠j)->B10 N p (N+j) l=none
 | [],_=>rfl
 | (j',b) :: l,h=>by
  have h1:j'≠j:=h (j',b) (by simp)
  simp only[B10]
  rw[if_neg (by rintro⟨e,_⟩;exact h1 (by omega))]
  exact G57 fun q hq=>h q (by simp[hq])
theorem J16 {N L:Nat} {p:Nat->Bool}:∀ {l:List (Nat × V4)} {H:Y0},K27 L l->∀ q,X0 (Z14 N p H l) q=(B10 N p q l).or (X0 H q)
 | [],H,_,q=>by simp[Z14,B10]
 | (j,b) :: l,H,hk,q=>by
  obtain⟨h1,h2,h3⟩:=hk
  simp only[Z14,B10]
  cases hp:p j with
  | false=>
   rw[J16 h3 q]
   simp
  | true=>
   rw[J16 h3 q]
   simp only[cond_true]
   rw[W7]
   by_cases e:q=N+j
   .subst e
    rw[G57 h2]
    simp
   .have e':¬ (N+j=q):=fun h=>e h.symm
    simp[e,e']
theorem D18 {N:Nat} {p:Nat->Bool} {q:Nat} {b:V4}:∀ {l:List (Nat × V4)},B10 N p q l=some b->∃ j,(j,b) ∈ l/\N+j=q/\p j=true
 | [],h=>by simp[B10] at h
 | (j,b') :: l,h=>by
  simp only[B10] at h
  split at h
  .rename_i hc;cases h;exact⟨j,by simp,hc.1,hc.2⟩
  .obtain⟨j',h1,h2⟩:=D18 h
   exact⟨j',by simp[h1],h2⟩
theorem D24 {N L:Nat} {p:Nat->Bool} {j:Nat} {b:V4}:∀ {l:List (Nat × V4)},K27 L l->(j,b) ∈ l->p j=true->B10 N p (N+j) l=some b
 | (j',b') :: l,hk,hm,hp=>by
  obtain⟨_,h2,h3⟩:=hk
  simp only[B10]
  rcases List.mem_cons.1 hm with e | hm
  .cases e;simp[hp]
  .have:j≠j':=h2 (j,b) hm
   rw[if_neg (by rintro⟨e,_⟩;omega)]
   exact D24 h3 hm hp
theorem X29 {β:Type} {ms:List Nat} {N i:Nat} {es:List Nat} (f:Y0->β):∀ (as:List (Nat × V4)) (H:Y0),Y21 ms N es i H f as=f (Z14 N (fun j=>X5 ms i j && !D5 ms es j) H as)
 | [],H=>rfl
 | (j,b) :: as,H=>by
  simp only[Y21,Z14]
  rcases Bool.eq_false_or_eq_true (X5 ms i j && !D5 ms es j) with h | h
  .rw[h];simp only[cond_true];rw[Y8,X29 f as]
  .rw[h];simp only[cond_false];rw[X29 f as H]
theorem B38 {β:Type} {ms:List Nat} {N:Nat} {es:List Nat} (f:Y0->β):∀ (as:List (Nat × V4)) (H:Y0),M20 ms N es H f as=f (Z14 N (fun j => !D5 ms es j) H as)
 | [],H=>rfl
 | (j,b) :: as,H=>by
  simp only[M20,Z14]
  rcases Bool.eq_false_or_eq_true (D5 ms es j) with h | h
  .rw[h];simp only[cond_true,Bool.not_true,cond_false];rw[B38 f as H]
  .rw[h];simp only[cond_false,Bool.not_false,cond_true];rw[Y8,B38 f as]
end Go.Clo

namespace Go.Clo
inductive Inf where
 | u
 | p
 | r (i:IR)
 | a (b:V4)
 | e (H:Y0) (nx:Nat)
structure R6 where
 T:U1 Value
 v:Value
 inf:Inf
def U4:List R6->List Nat
 | []=>[]
 | r :: l=>match r.inf with
  | .e _ _=>l.length :: U4 l
  | _=>U4 l
def E6:List R6->List (Nat × V4)
 | []=>[]
 | r :: l=>match r.inf with
  | .a b=>(l.length,b) :: E6 l
  | _=>E6 l
def hR (H0:Y0):List R6->Y0
 | []=>H0
 | r :: l=>match r.inf with
  | .e H _=>H
  | _=>hR H0 l
def nR (n0:Nat):List R6->Nat
 | []=>n0
 | r :: l=>match r.inf with
  | .e _ nx=>nx
  | _=>nR n0 l
def MsR (H0:Y0):List R6->List Y0
 | []=>[]
 | r :: l=>match r.inf with
  | .e _ _=>hR H0 l :: MsR H0 l
  | _=>MsR H0 l
def rsR:List R6->List Rd
 | []=>[]
 | r :: l=>match r.inf with
  | .r i=>⟨l.length,i,r.T,r.v⟩ :: rsR l
  | _=>rsR l
noncomputable def U18 (ops:List Oper) (T0:U1 Value):List R6->Nat->Value
 | [],t=>(tg T0 t).getD undef
 | r :: l,t=>if (ops[l.length]?).bind (·.dst)=some t then r.v else U18 ops T0 l t
structure M86 (P:Program) (d n:Nat) (ops:List Oper) (N:Nat) (H0:Y0) (n0:Nat) (T0:U1 Value) (r:R6) (l:List R6) (o:Oper) (s:S):Prop where
 ho:ops[l.length]? = some o
 hs:D25 P n ops o=some s
 hT:∀ t,t<n->(tg r.T t).getD undef=U18 ops T0 l t
 what:match r.inf with
  | .u=>r.v=undef/\∀ F a,GR s.guard F r.T a->Region.wanted o (yielded ops.toArray a.tmps)=false
  | .p=>(∀ F a,GR s.guard F r.T a->Region.wanted o (yielded ops.toArray a.tmps)=true)/\PV P d n o r.T r.v
  | .r i=>(∀ F a,GR s.guard F r.T a->Region.wanted o (yielded ops.toArray a.tmps)=true)/\s.i = .r i
  | .a b=>(∀ F a,GR s.guard F r.T a->Region.wanted o (yielded ops.toArray a.tmps)=true)/\∃ y,AV P d n o r.T b y/\r.v=y.val (N+l.length)
  | .e H' nx'=>(∀ F a,GR s.guard F r.T a->Region.wanted o (yielded ops.toArray a.tmps)=true) /\
    EV P d n o r.T (Z14 N (fun j=>X5 (Z3 ops) l.length j && !D5 (Z3 ops) (U4 l) j) (hR H0 l) (E6 l)) (nR n0 l) r.v H' nx'/\∀ e ∈ U4 l,X5 (Z3 ops) l.length e=true
def U19 (P:Program) (d n:Nat) (ops:List Oper) (N:Nat) (H0:Y0) (n0:Nat) (T0:U1 Value):List R6->Prop
 | []=>True
 | r :: l=>(∃ o s,M86 P d n ops N H0 n0 T0 r l o s)/\U19 P d n ops N H0 n0 T0 l
section
variable {β:Type} {P:Program} {d n:Nat} {ops:List Oper} {N:Nat} {H0:Y0} {n0:Nat} {T0:U1 Value}
theorem E35 {rc:List R6} {T:U1 Value} {o:Oper} (ho:ops[rc.length]? = some o) (hn:n<=2^d) (hw:WF d T) (hT:∀ t,t<n->(tg T t).getD undef=U18 ops T0 rc t) (hdn:∀ q,o.dst=some q->q<n) (v:Value) (inf:Inf) (k:U1 Value->β):
  ∃ T',Z9 d o.dst v T k=k T'/\WF d T'/\∀ t,t<n->(tg T' t).getD undef=U18 ops T0 (⟨T,v,inf⟩ :: rc) t:=by
 cases hd:o.dst with
 | none=>
  refine⟨T,rfl,hw,fun t ht => ?_⟩
  rw[hT t ht]
  simp[U18,ho,hd]
 | some q=>
  have hq:=hdn q hd
  refine⟨ts d T q v,X23 d T q v k,B25 d T q v hw,fun t ht => ?_⟩
  rw[Z32 d T q t v hw (Nat.lt_of_lt_of_le hq hn) (Nat.lt_of_lt_of_le ht hn)]
  simp only[U18,ho,hd,Option.bind_some]
  by_cases e:t=q
  .subst e;simp
  .have e':¬ (some q=some t):=by simp;exact fun h=>e h.symm
   rw[if_neg e,if_neg e']
   exact hT t ht
theorem X72 (call:B5 β) (ms:List Nat) (z:β) (k:U1 Value->Y0->Nat->List Y0->List Nat->List (Nat × V4)->List Rd->β) (g:Option (Nat × Bool)) (dst:Option Nat) (op:I) (l:List S) (i:Nat) (T:U1 Value) (H:Y0) (nx:Nat) (Ms:List Y0) (es:List Nat) (as:List (Nat × V4)) (rs:List Rd):
  K7 P d call ms N z k (⟨g,dst,op⟩ :: l) i T H nx Ms es as rs=V14 g T z
  (match op with
   | .p op=>Q7 P op T z fun v=>Z9 d dst v T fun T=>K7 P d call ms N z k l (i+1) T H nx Ms es as rs
   | .r op=>Y21 ms N es i H (fun h=>evR P op T h z fun v=>Z9 d dst v T fun T'=>K7 P d call ms N z k l (i+1) T' H nx Ms es as (⟨i,op,T,v⟩ :: rs)) as
   | .a op=>evA op T z fun b y=>E2 (N+i) fun q=>W1 (y.val q) fun v=>Z9 d dst v T fun T=>K7 P d call ms N z k l (i+1) T H nx Ms es ((i,b) :: as) rs
   | .e op=>cond (es.all fun e=>X5 ms i e)
    (Y21 ms N es i H (fun h=>evE op call T h nx z fun v H' nx=>Z9 d dst v T fun T=>K7 P d call ms N z k l (i+1) T H' nx (H :: Ms) (i :: es) as rs) as) z)
  (Z9 d dst undef T fun T=>K7 P d call ms N z k l (i+1) T H nx Ms es as rs):=rfl
theorem E46 {call:B5 β} (hcall:D19 P call) (hn:n<=2^d) (z:β) (k:U1 Value->Y0->Nat->List Y0->List Nat->List (Nat × V4)->List Rd->β):
  ∀ (suf:List Oper) (l:List S) (rc:List R6) (T:U1 Value),Y7 P n ops suf=some l->(∀ j,j<suf.length->suf[j]? = ops[rc.length+j]?)->U19 P d n ops N H0 n0 T0 rc->WF d T->(∀ t,t<n->(tg T t).getD undef=U18 ops T0 rc t) ->
  K7 P d call (Z3 ops) N z k l rc.length T (hR H0 rc) (nR n0 rc) (MsR H0 rc) (U4 rc) (E6 rc) (rsR rc)=z \/
  ∃ rc' T',rc'.length=rc.length+suf.length/\U19 P d n ops N H0 n0 T0 rc'/\WF d T'/\(∀ t,t<n->(tg T' t).getD undef=U18 ops T0 rc' t) /\
   K7 P d call (Z3 ops) N z k l rc.length T (hR H0 rc) (nR n0 rc) (MsR H0 rc) (U4 rc) (E6 rc) (rsR rc)=k T' (hR H0 rc') (nR n0 rc') (MsR H0 rc') (U4 rc') (E6 rc') (rsR rc')
 | [],l,rc,T,h,_,hall,hw,hT=>by
  simp[Y7] at h;subst h
  exact .inr ⟨rc,T,rfl,hall,hw,hT,by simp[K7]⟩
 | o :: suf,l,rc,T,h,hsuf,hall,hw,hT=>by
  simp only[Y7] at h
  cases hs:D25 P n ops o with
  | none=>simp[hs] at h
  | some s=>cases hl:Y7 P n ops suf with
   | none=>simp[hs,hl] at h
   | some l'=>
    simp[hs,hl] at h;subst h
    have ho:ops[rc.length]? = some o:=by have:=hsuf 0 (by simp);simpa using this.symm
    have hsuf':∀ (inf:Inf) (v:Value) j,j<suf.length->suf[j]? = ops[((⟨T,v,inf⟩:R6) :: rc).length+j]? := fun inf v j hj=>by
     have:=hsuf (j+1) (by simp;omega);simp at this ⊢;rw[this];congr 1;omega
    obtain⟨hg,hd,hdn,hi⟩:=J26 hs
    obtain⟨g,dst,i⟩:=s
    dsimp only at hg hd hi
    subst hd
    have next:∀ (inf:Inf) (v:Value) (T':U1 Value),(∃ o s,M86 P d n ops N H0 n0 T0 ⟨T,v,inf⟩ rc o s)->WF d T'->(∀ t,t<n->(tg T' t).getD undef=U18 ops T0 (⟨T,v,inf⟩ :: rc) t) ->
      K7 P d call (Z3 ops) N z k l' (rc.length+1) T' (hR H0 (⟨T,v,inf⟩ :: rc)) (nR n0 (⟨T,v,inf⟩ :: rc)) (MsR H0 (⟨T,v,inf⟩ :: rc)) (U4 (⟨T,v,inf⟩ :: rc)) (E6 (⟨T,v,inf⟩ :: rc)) (rsR (⟨T,v,inf⟩ :: rc))=z \/
      ∃ rc' T'',rc'.length=rc.length+(o :: suf).length/\U19 P d n ops N H0 n0 T0 rc'/\WF d T''/\(∀ t,t<n->(tg T'' t).getD undef=U18 ops T0 rc' t) /\
       K7 P d call (Z3 ops) N z k l' (rc.length+1) T' (hR H0 (⟨T,v,inf⟩ :: rc)) (nR n0 (⟨T,v,inf⟩ :: rc)) (MsR H0 (⟨T,v,inf⟩ :: rc)) (U4 (⟨T,v,inf⟩ :: rc)) (E6 (⟨T,v,inf⟩ :: rc)) (rsR (⟨T,v,inf⟩ :: rc))=k T'' (hR H0 rc') (nR n0 rc') (MsR H0 rc') (U4 rc') (E6 rc') (rsR rc'):=by
     intro inf v T' hf hw' hT'
     rcases E46 hcall hn z k suf l' (⟨T,v,inf⟩ :: rc) T' hl (hsuf' inf v) ⟨hf,hall⟩ hw' hT' with h | ⟨rc',T'',h1,h2,h3,h4,h5⟩
     .exact .inl h
     .exact .inr ⟨rc',T'',by simp at h1 ⊢;omega,h2,h3,h4,h5⟩
    rw[X72]
    rcases Q45 hg T z _ _ with e | ⟨e,hw1⟩ | ⟨e,hw1⟩
    .exact .inl e
    .rw[e]
     cases i with
     | p ip=>
      dsimp only
      rcases W80 (P:=P) (d:=d) (T:=T) hi z _ with h | ⟨v,h,hp⟩
      .exact .inl h
      .rw[h]
       obtain⟨T',e1,e2,e3⟩:=E35 (T0:=T0) ho hn hw hT hdn v .p (fun T=>K7 P d call (Z3 ops) N z k l' (rc.length+1) T (hR H0 rc) (nR n0 rc) (MsR H0 rc) (U4 rc) (E6 rc) (rsR rc))
       rw[e1]
       exact next .p v T' ⟨o,_,ho,hs,hT,hw1,hp⟩ e2 e3
     | r ir=>
      dsimp only
      rw[X29]
      rcases V51 (P:=P) (d:=d) (nx:=0) (T:=T) (H:=Z14 N (fun j=>X5 (Z3 ops) rc.length j && !D5 (Z3 ops) (U4 rc) j) (hR H0 rc) (E6 rc)) hi z _ with h | ⟨v,h,hp⟩
      .exact .inl h
      .rw[h]
       obtain⟨T',e1,e2,e3⟩:=E35 (T0:=T0) ho hn hw hT hdn v (.r ir) (fun T'=>K7 P d call (Z3 ops) N z k l' (rc.length+1) T' (hR H0 rc) (nR n0 rc) (MsR H0 rc) (U4 rc) (E6 rc) (⟨rc.length,ir,T,v⟩ :: rsR rc))
       rw[e1]
       exact next (.r ir) v T' ⟨o,_,ho,hs,hT,hw1,rfl⟩ e2 e3
     | a ia=>
      dsimp only
      rcases M79 (P:=P) (d:=d) (T:=T) hi z _ with h | ⟨b,y,h,hp⟩
      .exact .inl h
      .rw[h,N2,N7]
       obtain⟨T',e1,e2,e3⟩:=E35 (T0:=T0) ho hn hw hT hdn (y.val (N+rc.length)) (.a b) (fun T=>K7 P d call (Z3 ops) N z k l' (rc.length+1) T (hR H0 rc) (nR n0 rc) (MsR H0 rc) (U4 rc) ((rc.length,b) :: E6 rc) (rsR rc))
       rw[e1]
       exact next (.a b) _ T' ⟨o,_,ho,hs,hT,hw1,y,hp,rfl⟩ e2 e3
     | e ie=>
      dsimp only
      cases hch:(U4 rc).all fun e=>X5 (Z3 ops) rc.length e with
      | false=>exact .inl rfl
      | true=>
       dsimp only[cond_true]
       rw[X29]
       rcases V82 (P:=P) (d:=d) (T:=T) (nx:=nR n0 rc) (H:=Z14 N (fun j=>X5 (Z3 ops) rc.length j && !D5 (Z3 ops) (U4 rc) j) (hR H0 rc) (E6 rc)) hi hcall z _ with h | ⟨v,H',nx',h,hp⟩
       .exact .inl h
       .rw[h]
        obtain⟨T',e1,e2,e3⟩:=E35 (T0:=T0) ho hn hw hT hdn v (.e H' nx') (fun T=>K7 P d call (Z3 ops) N z k l' (rc.length+1) T H' nx' (hR H0 rc :: MsR H0 rc) (rc.length :: U4 rc) (E6 rc) (rsR rc))
        rw[e1]
        exact next (.e H' nx') v T' ⟨o,_,ho,hs,hT,hw1,hp,fun e he=>by rw[List.all_eq_true] at hch;exact hch e he⟩ e2 e3
    .rw[e]
     obtain⟨T',e1,e2,e3⟩:=E35 (T0:=T0) ho hn hw hT hdn undef .u (fun T=>K7 P d call (Z3 ops) N z k l' (rc.length+1) T (hR H0 rc) (nR n0 rc) (MsR H0 rc) (U4 rc) (E6 rc) (rsR rc))
     rw[e1]
     exact next .u undef T' ⟨o,_,ho,hs,hT,rfl,hw1⟩ e2 e3
end
end Go.Clo

namespace Go.Clo
variable {a b:Value} {β:Type}
theorem W97 {a b:Value}:∀ (n:Nat),(∀ a b,veq n a b=true->a=b)/\(∀ a b,D40 n a b=true->a=b):=by
 intro n
 induction n with
 | zero=>exact⟨fun a b h=>by simp[veq] at h,fun a b h=>by simp[D40] at h⟩
 | succ n ih=>
  obtain⟨ih1,ih2⟩:=ih
  refine⟨fun a b h => ?_,fun a b h => ?_⟩
  .unfold veq at h
   split at h
   .simp at h;rw[h]
   .rw[Bool.and_eq_true,E41] at h;rw[U52 h.1];simp at h;rw[h.2]
   .rw[Bool.and_eq_true] at h;have:=Nat.eq_of_beq_eq_true h.2;simp at h;rw[h.1,this]
   .simp at h;rw[h]
   .simp at h;rw[h]
   .rw[Bool.and_eq_true,Bool.and_eq_true] at h
    have e1:=Nat.eq_of_beq_eq_true h.1.2
    have e2:=Nat.eq_of_beq_eq_true h.2
    simp at h;rw[h.1.1,e1,e2]
   .simp at h;rw[h]
   .rfl
   .rfl
   .rw[Bool.and_eq_true,Bool.and_eq_true] at h
    have e1:=Array.toList_inj.1 (ih2 _ _ h.1.2)
    have e2:=Array.toList_inj.1 (ih2 _ _ h.2)
    simp at h;rw[h.1.1,e1,e2]
   .rw[Bool.and_eq_true] at h
    rw[Nat.eq_of_beq_eq_true h.1,ih1 _ _ h.2]
   .rw[Array.toList_inj.1 (ih2 _ _ h)]
   .rw[Array.toList_inj.1 (ih2 _ _ h)]
   .cases h
  .unfold D40 at h
   split at h
   .rfl
   .rw[Bool.and_eq_true] at h
    rw[ih1 _ _ h.1,ih2 _ _ h.2]
   .cases h
theorem J95 {n:Nat} (h:veq n a b=true):a=b:=(W97 (a:=a) (b:=b) n).1 a b h
theorem W30:∀ {l:List R6} {e:Nat},e ∈ U4 l->e<l.length
 | [],e,h=>by simp[U4] at h
 | r :: l,e,h=>by
  simp only[U4] at h
  split at h
  .rcases List.mem_cons.1 h with rfl | h
   .simp
   .have:=W30 h;simp;omega
  .have:=W30 h;simp;omega
theorem G21:∀ (l:List R6),K27 l.length (E6 l)
 | []=>trivial
 | r :: l=>by
  have ih:=G21 l
  have up:∀ {m:List (Nat × V4)} {a b:Nat},a<=b->K27 a m->K27 b m:=by
   intro m
   induction m with
   | nil=>intros;trivial
   | cons x m ihm=>intro a b hab h;obtain⟨h1,h2,h3⟩:=h;exact⟨by omega,h2,ihm hab h3⟩
  have low:∀ {m:List (Nat × V4)} {a:Nat},K27 a m->∀ q ∈ m,q.1<a:=by
   intro m
   induction m with
   | nil=>intro a _ q hq;cases hq
   | cons x m ihm=>
    intro a h q hq
    obtain⟨h1,h2,h3⟩:=h
    rcases List.mem_cons.1 hq with rfl | hq
    .exact h1
    .exact ihm h3 q hq
  simp only[E6]
  split
  .refine⟨by simp,fun q hq => ?_,up (by simp) ih⟩
   have:=low ih q hq;omega
  .exact up (by simp) ih
theorem D54 {P:Program} {ms:List Nat} {N:Nat} {as:List (Nat × V4)} {r:Rd} {H0:Y0}:∀ (rc:List R6) (later:List Nat),K35 P ms N as r (U4 rc) (MsR H0 rc) (hR H0 rc) later=true->∀ (pre l':List R6),rc=pre++l' ->
  (∀ e,e ∈ U4 rc->e ∉ U4 l'->X5 ms r.i e=false)->(∀ e ∈ later,X5 ms r.i e=false)->(∀ e ∈ U4 l',X5 ms e r.i=false) ->
  evR P r.r r.T (Z14 N (fun j=>X5 ms r.i j && !D5 ms (U4 l') j) (hR H0 l') as) false (fun v=>veq 64 v r.v)=true
 | rc,later,h,[],l',e,_,h2,h3=>by
  simp at e;subst e
  rw[K35.eq_def] at h
  rw[Bool.and_eq_true] at h
  have c1:((U4 rc).any (fun e=>X5 ms e r.i) || later.any (fun e=>X5 ms r.i e))=false:=by
   rw[Bool.or_eq_false_iff]
   refine⟨?_,?_⟩
   .rw[List.any_eq_false];intro x hx;simp[h3 x hx]
   .rw[List.any_eq_false];intro x hx;simp[h2 x hx]
  have:=h.1
  rw[c1] at this
  simp only[cond_false] at this
  rw[X29] at this
  exact this
 | [],later,h,p :: pre,l',e,_,_,_=>by simp at e
 | r0 :: l,later,h,p :: pre,l',e,h1,h2,h3=>by
  simp at e
  obtain⟨rfl,rfl⟩:=e
  cases hinf:r0.inf with
  | e H' nx'=>
   simp only[U4,MsR,hR,hinf] at h
   rw[K35.eq_def] at h
   rw[Bool.and_eq_true] at h
   have hb:=h.2
   dsimp only at hb
   have hidx:X5 ms r.i (pre++l').length=false:=h1 _ (by simp[U4,hinf]) (fun hm=>by have:=W30 hm;simp at this;omega)
   rw[hidx] at hb
   simp only[cond_false] at hb
   refine D54 (pre++l') _ hb pre l' rfl (fun e he hn=>h1 e (by simp[U4,hinf,he]) hn) ?_ h3
   intro e he
   rcases List.mem_cons.1 he with rfl | he
   .exact hidx
   .exact h2 e he
  | _=>
   simp only[U4,MsR,hR,hinf] at h
   exact D54 (pre++l') later h pre l' rfl (fun e he hn=>h1 e (by simp[U4,hinf,he]) hn) h2 h3
def X61 (P:Program) (d n:Nat) (ops:List Oper) (N:Nat) (H0:Y0) (rc:List R6):Prop:=
 ∀ r ∈ rsR rc,∀ (pre l':List R6),rc=pre++l'->(∀ e,e ∈ U4 rc->e ∉ U4 l'->X5 (Z3 ops) r.i e=false)->(∀ e ∈ U4 l',X5 (Z3 ops) e r.i=false) ->
  ∀ (nx:Nat) (o:Oper),U28 P n o=some (.r r.r)->RV P d n nx o r.T (Z14 N (fun j=>X5 (Z3 ops) r.i j && !D5 (Z3 ops) (U4 l') j) (hR H0 l') (E6 rc)) r.v
def D52 (P:Program) (chk:G20 β):Prop:=∀ (d n:Nat) (ops:List Oper) (N:Nat) (H0:Y0) (rc:List R6) (y z:β),
 chk (Z3 ops) N (E6 rc) (rsR rc) (U4 rc) (MsR H0 rc) (hR H0 rc) y z=z \/
 (chk (Z3 ops) N (E6 rc) (rsR rc) (U4 rc) (MsR H0 rc) (hR H0 rc) y z=y/\X61 P d n ops N H0 rc)
theorem B93 (P:Program):D52 (β:=β) P (M63 P):=by
 intro d n ops N H0 rc y z
 unfold M63
 cases hrs:(rsR rc).all fun r=>K35 P (Z3 ops) N (E6 rc) r (U4 rc) (MsR H0 rc) (hR H0 rc) [] with
 | false=>exact .inl rfl
 | true=>
  refine .inr ⟨rfl,fun r hr pre l' hsuf h1 h2 nx o hc => ?_⟩
  have hsame:=D54 rc [] (List.all_eq_true.1 hrs r hr) pre l' hsuf h1 (by simp) h2
  rcases V51 (P:=P) (d:=d) (n:=n) (nx:=nx) (o:=o) (T:=r.T) (H:=Z14 N (fun j=>X5 (Z3 ops) r.i j && !D5 (Z3 ops) (U4 l') j) (hR H0 l') (E6 rc)) hc false (fun v=>veq 64 v r.v) with h | ⟨v,h,hrv⟩
  .rw[h] at hsame;cases hsame
  .rw[h] at hsame
   have hve:=J95 hsame
   rw[<- hve];exact hrv
noncomputable def D15 (ops:List Oper) (T0:U1 Value) (D:Nat->Bool):List R6->Nat->Value
 | [],t=>(tg T0 t).getD undef
 | r :: l,t=>if D l.length=true/\(ops[l.length]?).bind (·.dst)=some t then r.v else D15 ops T0 D l t
theorem E54 {ops:List Oper} {T0:U1 Value} {D:Nat->Bool} {t:Nat}:∀ {l:List R6},(∀ j,j<l.length->(ops[j]?).bind (·.dst)=some t->D j=true)->D15 ops T0 D l t=U18 ops T0 l t
 | [],_=>rfl
 | r :: l,h=>by
  simp only[D15,U18]
  by_cases hd:(ops[l.length]?).bind (·.dst)=some t
  .have:=h l.length (by simp) hd
   simp[hd,this]
  .rw[if_neg (fun hc=>hd hc.2),if_neg hd]
   exact E54 fun j hj=>h j (by simp;omega)
theorem G56 {ops:List Oper} {T0:U1 Value} {D:Nat->Bool} {t:Nat} {l:List R6}:∀ {pre:List R6},(∀ j,l.length<=j->j<(pre++l).length->(ops[j]?).bind (·.dst)=some t->D j=false)->D15 ops T0 D (pre++l) t=D15 ops T0 D l t
 | [],_=>rfl
 | r :: pre,h=>by
  simp only[List.cons_append,D15]
  rw[if_neg]
  .exact G56 fun j h1 h2 h3=>h j h1 (by simp at h2 ⊢;omega) h3
  .rintro⟨h1,h2⟩
   have:=h (pre++l).length (by simp) (by simp) h2
   rw[h1] at this;cases this
theorem B62 {ops:List Oper} {T0:U1 Value} {D D':Nat->Bool} {i:Nat} (hD:∀ j,D' j=if j=i then true else D j) {r:R6} {l:List R6} (hl:l.length=i) {t:Nat} (huniq:∀ j,j≠i->(ops[i]?).bind (·.dst)=some t->(ops[j]?).bind (·.dst)≠some t) (hDi:D i=false):
  ∀ {pre:List R6},D15 ops T0 D' (pre++r :: l) t=if (ops[i]?).bind (·.dst)=some t then r.v else D15 ops T0 D (pre++r :: l) t
 | []=>by
  simp only[List.nil_append,D15,hl,hDi]
  have h1:D' i=true:=by simp[hD]
  have h2:D15 ops T0 D' l t=D15 ops T0 D l t:=by
   have:∀ m:List R6,m.length<=i->D15 ops T0 D' m t=D15 ops T0 D m t:=by
    intro m
    induction m with
    | nil=>intro _;rfl
    | cons x m ih=>
     intro hm
     simp at hm
     simp only[D15]
     have:D' m.length=D m.length:=by rw[hD,if_neg (by omega)]
     rw[this,ih (by omega)]
   exact this l (by omega)
  simp[h1,h2]
 | p :: pre=>by
  have ih:=B62 hD hl huniq hDi (pre:=pre) (T0:=T0) (r:=r)
  simp only[List.cons_append,D15]
  have hne:(pre++r :: l).length≠i:=by simp;omega
  have:D' (pre++r :: l).length=D (pre++r :: l).length:=by rw[hD,if_neg hne]
  rw[this,ih]
  by_cases hi:(ops[i]?).bind (·.dst)=some t
  .have:=huniq _ hne hi
   rw[if_pos hi,if_neg (fun hc=>this hc.2),if_pos hi]
  .rw[if_neg hi,if_neg hi]
theorem U19.suf {P:Program} {d n:Nat} {ops:List Oper} {N:Nat} {H0:Y0} {n0:Nat} {T0:U1 Value}:∀ {pre l:List R6},U19 P d n ops N H0 n0 T0 (pre++l)->U19 P d n ops N H0 n0 T0 l
 | [],_,h=>h
 | _ :: _,_,h=>U19.suf h.2
theorem G65:∀ {rc:List R6} {i:Nat},i<rc.length->∃ pre r l,rc=pre++r :: l/\l.length=i
 | [],i,h=>by simp at h
 | r :: l,i,h=>by
  by_cases e:l.length=i
  .exact⟨[],r,l,rfl,e⟩
  .obtain⟨pre,r',l',h1,h2⟩:=G65 (rc:=l) (i:=i) (by simp at h;omega)
   exact⟨r :: pre,r',l',by rw[h1];rfl,h2⟩
end Go.Clo
