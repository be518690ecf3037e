/-
  The closed executor: slicing;the operations that only compute,joined;the operations that read.
  The closed executor: the operations that read.
-/
import Derived.Test.YtpiobdofbhkmjaaDoorL5
import Derived.Laws.BytesArg
set_option linter.unusedSimpArgs false
set_option linter.unusedVariables false
set_option linter.unusedSectionVars false
namespace Go.Clo
variable {F:FM} {H1 L1:Option X} {P:Program} {X1:X} {cap len m:Nat} {hi hi' lo lo' mx:Option Value} {i:IP} {t:TypeId} {v:Value} {x:Operand}
def OV (F:FM) (x x':Option Value):Prop:=(x=none/\x'=none)\/∃ v v',x=some v/\x'=some v'/\VR F v v'
theorem OV.of {n:Nat} {o:Oper} {T:U1 Value} {a:Act} (ht:OR n o F T a) {x:Option Operand} {y:Option X} (h:D14 n x=some y) (hm:∀ q,x=some q->q ∈ o.op.operands:=by rw[(‹o.op=_› : o.op=_)];intro q hq;subst hq;simp[Op.operands]):OV F (y.map (ev T)) (x.map a.eval):=by
 rcases evO ht h hm with ⟨rfl,rfl⟩ | ⟨x1,y1,rfl,rfl,hv⟩
 .exact .inl ⟨rfl,rfl⟩
 .exact .inr ⟨_,_,rfl,rfl,hv⟩
theorem G19 {v':Value} {top top':Nat} (h:Z11 (some v) top=some m) (hv:VR F v v') (ht:top<=top') (U9:BoundsCode) (w:World):
  (Instr.sliceBound v' top' U9).run P w = .ok m w/\m<=top:=by
 simp only[Z11] at h
 split at h
 .rename_i kk nn
  split at h
  .rename_i q
   cases hb:Nat.ble q top with
   | false=>rw[hb] at h;cases h
   | true=>
    rw[hb] at h;simp only[cond_true,Option.some.injEq] at h;subst h
    have hq:q<=top:=Nat.le_of_ble_eq_true hb
    rw[hv.int_inv]
    refine⟨?_,hq⟩
    have:q<=top':=Nat.le_trans hq ht
    simp[Instr.sliceBound,asIntOf,this]
  .cases h
 .cases h
theorem Y28 {mx':Option Value} (hlo:OV F lo lo') (hhi:OV F hi hi') (hmx:OV F mx mx') {cap' h l:Nat} (hcap:cap<=cap')
  (em:Z11 mx cap=some m)
  (eh:hiA hi mx len m=some h)
  (el:loA lo h=some l) (isS:Bool) (w:World):
  (Instr.sliceBounds isS len cap' lo' hi' mx').run P w = .ok (l,h,if mx.isNone then cap' else m) w/\(mx=none->m=cap)/\(mx≠none->m<=cap):=by
 rcases hmx with ⟨rfl,rfl⟩ | ⟨vm,vm',rfl,rfl,hvm⟩
 .simp only[Z11,Option.some.injEq] at em
  subst em
  rcases hhi with ⟨rfl,rfl⟩ | ⟨vh,vh',rfl,rfl,hvh⟩
  .simp only[hiA,Option.some.injEq] at eh
   subst eh
   rcases hlo with ⟨rfl,rfl⟩ | ⟨vl,vl',rfl,rfl,hvl⟩
   .simp only[loA,Option.some.injEq] at el
    subst el
    simp[Instr.sliceBounds]
   .have:=(G19 (P:=P) el hvl (Nat.le_refl _) .sliceB w).1
    simp[Instr.sliceBounds,this]
  .have h1:=fun c=>(G19 (P:=P) eh hvh hcap c w).1
   rcases hlo with ⟨rfl,rfl⟩ | ⟨vl,vl',rfl,rfl,hvl⟩
   .simp only[loA,Option.some.injEq] at el
    subst el
    simp[Instr.sliceBounds,h1]
   .have h2:=(G19 (P:=P) el hvl (Nat.le_refl _) .sliceB w).1
    simp[Instr.sliceBounds,h1,h2]
 .have h0:=fun c=>(G19 (P:=P) em hvm hcap c w).1
  have h0':=(G19 (P:=P) em hvm hcap .index w).2
  rcases hhi with ⟨rfl,rfl⟩ | ⟨vh,vh',rfl,rfl,hvh⟩
  .simp[hiA] at eh
  .have h1:=fun c=>(G19 (P:=P) eh hvh (Nat.le_refl _) c w).1
   rcases hlo with ⟨rfl,rfl⟩ | ⟨vl,vl',rfl,rfl,hvl⟩
   .simp only[loA,Option.some.injEq] at el
    subst el
    simp[Instr.sliceBounds,h0,h1,h0']
   .have h2:=(G19 (P:=P) el hvl (Nat.le_refl _) .slice3C w).1
    simp[Instr.sliceBounds,h0,h1,h2,h0']
theorem Y37 {a:Option Addr} {size:Nat} {loose:Bool} {r:Value} (h:G11 a len cap size lo hi mx loose=some r):
  ∃ m hh l,Z11 mx cap=some m/\hiA hi mx len m=some hh /\
   loA lo hh=some l /\
   (match a with
    | none=>r = .slice none (hh-l) (m-l)
    | some a=>l<=m/\¬ (loose=true/\mx=none/\m=l/\l≠0)/\r = .slice (some (if m=l then a else { block:=a.block,off:=a.off+l*size,spot:=a.spot })) (hh-l) (m-l)):=by
 unfold G11 at h
 split at h
 .cases h
 .rename_i m em
  split at h
  .cases h
  .rename_i hh eh
   split at h
   .cases h
   .rename_i l el
    refine⟨m,hh,l,em,eh,el,?_⟩
    split at h
    .simp only[Option.some.injEq] at h;exact h.symm
    .rename_i a
     cases hb:((loose&&mx.isNone&&Nat.beq m l && !(Nat.beq l 0)) || !(Nat.ble l m)) with
     | true=>rw[hb] at h;cases h
     | false=>
      rw[hb] at h;simp only[cond_false,Option.some.injEq] at h
      subst h
      rw[Bool.or_eq_false_iff] at hb
      obtain⟨hb,hle⟩:=hb
      refine⟨by simpa using hle,?_,?_⟩
      .rintro⟨rfl,rfl,rfl,h0⟩
       simp[h0] at hb
      .by_cases hml:m=l
       .subst hml;simp
       .have:Nat.beq m l=false:=by
         cases hq:Nat.beq m l with
         | false=>rfl
         | true=>exact absurd (Nat.eq_of_beq_eq_true hq) hml
        simp[this,hml]
section
variable {β:Type} {P:Program} {d n:Nat} {o:Oper} {T:U1 Value}
theorem X82 {lo hi mx:Option Operand} {M1:Option X} {kk:Nat} {e:TypeId} {i:TypeInfo} (ho:o.op = .slice t x lo hi mx) (hx:Q2 n x=some X1)
  (hlo:D14 n lo=some L1) (hhi:D14 n hi=some H1) (hmx:D14 n mx=some M1) (hu:P.underlying t=some (.array kk e)) (hi':P.info? e=some i) (z:β) (k:Value->β):
  Q7 P (.slA X1 kk i.size L1 H1 M1) T z k=z\/∃ v,Q7 P (.slA X1 kk i.size L1 H1 M1) T z k=k v/\PV P d n o T v:=by
 show K76 X1 kk i.size L1 H1 M1 T z k=z\/∃ v,K76 X1 kk i.size L1 H1 M1 T z k=k v/\_
 unfold K76
 rw[N4,Z25,Z25,Z25]
 split
 .rename_i a hv
  split
  .rename_i r hr
   rw[J8]
   refine .inr ⟨r,rfl,fun F act w ht => ?_⟩
   obtain⟨b,o',s'⟩:=a
   have h1:=evX ht hx
   rw[hv] at h1
   obtain⟨rfl,tt,hF,he⟩:=h1.ptr_inv
   obtain⟨m,hh,l,em,eh,el,_,_,hr⟩:=Y37 hr
   obtain⟨hrun,c1,c2⟩:=Y28 (P:=P) (OV.of ht hlo) (OV.of ht hhi) (OV.of ht hmx) (Nat.le_refl kk) em eh el false w
   have hm:(if (M1.map (ev T)).isNone then kk else m)=m:=by
    cases hM:M1.map (ev T) with
    | none=>simp[c1 hM]
    | some _=>simp
   rw[hm] at hrun
   subst hr
   refine⟨.slice (some (if m=l then ⟨tt.blk,tt.base+o',none⟩ else ⟨tt.blk,tt.base+(o'+l*i.size),none⟩)) (hh-l) (m-l),?_,?_⟩
   .simp only[execOp,ho,Instr.sliceAt,Sem.run_bind,run_underlying hu,Result.andThen_ok,he,Instr.sureAddr,Sem.run_pure,hrun,D6 hi',M18,Nat.add_assoc]
   .by_cases hml:m=l
    .simp only[hml,if_true];exact .slice hF (.inl rfl)
    .simp only[hml,if_false];exact .slice hF (.inl rfl)
  .exact .inl rfl
 .exact .inl rfl
theorem E92 {s:ByteArray} (hlo:OV F lo lo') (hhi:OV F hi hi') (h:K49 s lo hi=some v) (hu:P.underlying t=some .string) (w:World):
  (Instr.slice t (.string s) lo' hi' none).run P w = .ok v w/\C11 v=true:=by
 unfold K49 at h
 split at h
 .cases h
 .rename_i hh eh
  split at h
  .cases h
  .rename_i l el
   cases h
   refine⟨?_,rfl⟩
   have hb:=Y28 (P:=P) hlo hhi (mx:=none) (mx':=none) (.inl ⟨rfl,rfl⟩) (len:=s.size) (cap:=s.size) (cap':=s.size) (m:=s.size) (h:=hh) (l:=l) (Nat.le_refl _) rfl (by
    cases hi with
    | none=>simpa [hiA] using eh
    | some q=>simpa [hiA] using eh) (by
    cases lo with
    | none=>simpa [loA] using el
    | some q=>simpa [loA] using el) false w
   simp only[Instr.slice,Sem.run_bind,run_underlying hu,Result.andThen_ok,Option.isSome_none,Bool.false_eq_true,if_false,Sem.run_pure,hb.1]
theorem R82 {lo hi:Option Operand} {X1:X} (ho:o.op = .slice t x lo hi none) (hx:Q2 n x=some X1) (hlo:D14 n lo=some L1) (hhi:D14 n hi=some H1) (hu:P.underlying t=some .string) (z:β) (k:Value->β):
  Q7 P (.vf (.ssl L1.isSome H1.isSome) (X1 :: (L1.toList++H1.toList))) T z k=z\/∃ v,Q7 P (.vf (.ssl L1.isSome H1.isSome) (X1 :: (L1.toList++H1.toList))) T z k=k v/\PV P d n o T v:=by
 refine B21 (fun v hv => ?_) z k
 have hv':∃ s,ev T X1 = .string s/\K49 s (L1.map (ev T)) (H1.map (ev T))=some v:=by
  cases L1<;>cases H1<;>simp only[Option.isSome_none,Option.isSome_some,Option.toList_none,Option.toList_some,List.nil_append,List.cons_append,List.append_nil,List.map_cons,List.map_nil] at hv <;>
   (unfold VF.ev at hv;split at hv<;>first | (rename_i h0 _;cases h0;done) | (rename_i h0 h1;cases h0;simp only[List.cons.injEq,and_true] at h1;first | exact⟨_,h1,hv⟩ | (obtain⟨e1,e2⟩:=h1;subst e2;exact⟨_,e1,hv⟩) | (obtain⟨e1,e2,e3⟩:=h1;subst e2;subst e3;exact⟨_,e1,hv⟩)) | cases hv)
 obtain⟨s,hs,hv⟩:=hv'
 intro F act w ht
 have e1:=evX ht hx
 rw[hs] at e1
 have e1:=e1.string_inv
 obtain⟨hrun,hfl⟩:=E92 (P:=P) (OV.of ht hlo) (OV.of ht hhi) hv hu w
 refine⟨v,?_,K11 F v hfl⟩
 simp only[execOp,ho,Instr.sliceAt,e1,Option.map_none,Sem.run_bind,run_underlying hu,Result.andThen_ok,hrun,Sem.run_pure]
theorem E90 (h : V31 P n o = some (.p i)) (z : β) (k : Value -> β) :
    Q7 P i T z k = z \/ ∃ v, Q7 P i T z k = k v /\ PV P d n o T v := by
  unfold V31 at h
  split at h
  · rename_i x ho
    cases hx : Q2 n x with
    | none => simp [hx] at h
    | some y => simp [hx] at h; subst h; exact Q63 (.inl ho) hx z k
  · rename_i x ho
    cases hx : Q2 n x with
    | none => simp [hx] at h
    | some y => simp [hx] at h; subst h; exact Q63 (.inr ho) hx z k
  · rename_i c a b ho
    split at h
    · rename_i h1 h2 h3; cases h; exact U73 ho h1 h2 h3 z k
    · cases h
  · rename_i op t x y yt ho
    split at h
    · rename_i h1 h2
      split at h
      · cases h; exact R40 ho h1 h2 z k
      · rename_i neg he
        have ho' : o.op = .binOp (if neg then .neq else .eql) t x y yt := by
          cases op <;> simp [U95] at he <;> subst he <;> simpa using ho
        split at h
        · cases h; exact R40 ho h1 h2 z k
        · cases h; exact R40 ho h1 h2 z k
        · rename_i hu; cases h; exact Q78 ho' h1 h2 hu z k
        · rename_i hu; cases h; exact Z33 ho' h1 h2 hu z k
        · rename_i hu; cases h; exact Z33 ho' h1 h2 hu z k
        · rename_i hu; cases h; exact Z33 ho' h1 h2 hu z k
        · rename_i hu; cases h; exact Z33 ho' h1 h2 hu z k
        · rename_i fs hu
          split at h
          · rename_i offs hof; cases h; exact C77 ho' h1 h2 hu hof z k
          · cases h; exact C63 ho' h1 h2 z k
        · cases h; exact C63 ho' h1 h2 z k
    · cases h
  · rename_i u t x ho
    split at h
    · rename_i h1
      cases h
      exact V88 ho h1 z k
    · cases h
  · rename_i s x f ho
    split at h
    · rename_i fs h1 h2
      split at h
      · rename_i fd hf
        split at h
        · rename_i inf hi
          cases hz : Nat.beq inf.size 0 with
          | true => rw [hz] at h; cases h
          | false =>
            rw [hz] at h; cases h
            rw [C14] at hf
            exact B81 ho h1 h2 (by simpa using hf) hi (fun e => by rw [e] at hz; cases hz) z k
        · cases h
      · cases h
    · cases h
  · rename_i t x ix ho
    split at h
    · rename_i h1 h2 h3
      split at h
      · rename_i hi; cases h; exact K74 ho h1 h2 h3 hi z k
      · cases h
    · rename_i h1 h2 h3
      split at h
      · rename_i hi; cases h; exact V73 ho h1 h2 h3 hi z k
      · cases h
    · cases h
  · rename_i x ho
    cases hx : Q2 n x with
    | none => simp [hx] at h
    | some y => simp [hx] at h; subst h; exact W73 ho hx z k
  · rename_i x j ho
    cases hx : Q2 n x with
    | none => simp [hx] at h
    | some y => simp [hx] at h; subst h; exact C80 ho hx z k
  · rename_i t x f ho
    split at h
    · rename_i fs h1 h2
      split at h
      · rename_i fd hf
        cases hs : X15 P fd.type with
        | none => simp [hs] at h
        | some sh =>
          simp [hs] at h; subst h
          rw [C14] at hf
          exact B73 ho h1 h2 (by simpa using hf) hs z k
      · cases h
    · cases h
  · rename_i t x ix ho
    split at h
    · rename_i h1 h2 h3
      split at h
      · rename_i hi hd; cases h; exact D74 ho h1 h2 h3 hi hd z k
      · cases h
    · rename_i h1 h2 h3
      cases h
      exact Y75 ho h1 h2 h3 z k
    · cases h
  · rename_i t parts ho
    split at h
    · rename_i fields zz ps h1 h2 h3
      cases hp : M21 P fields.toList with
      | none => simp [hp] at h
      | some pl => simp [hp] at h; subst h; exact V46 ho h3 h2 (.inl ⟨fields, h1, hp⟩) z k
    · rename_i kk e zz ps h1 h2 h3
      split at h
      · rename_i hi; cases h; exact V46 ho h3 h2 (.inr ⟨_, _, _, h1, hi, rfl⟩) z k
      · cases h
    · cases h
  · rename_i t x lo hi mx ho
    split at h
    · rename_i h1 h2 h3 h4 h5
      split at h <;> cases h
    · rename_i h1 h2 h3 h4 h5
      split at h
      · rename_i hinf; cases h; exact X82 ho h1 h2 h3 h4 h5 hinf z k
      · cases h
    · rename_i x1 lo1 hi1 h1 h2 h3 h4 h5
      cases h
      have hmx : mx = none := by
        cases mx with
        | none => rfl
        | some q => simp only [D14] at h4; cases hq : Q2 n q <;> simp [hq] at h4
      subst hmx
      exact R82 ho h1 h2 h3 h5 z k
    · cases h
  · rename_i fn first captured ho
    split at h
    · rename_i h1 h2; cases h; exact B77 ho h1 h2 z k
    · cases h
  · rename_i t x ho
    split at h
    · cases h
    · rename_i h1 h2 h3
      cases h
      exact U79 ho h2 h3 (fun ms e => h1 ms e) z k
    · cases h
  all_goals first
    | (rename_i arr x ho
       split at h
       · rename_i h1 h2
         cases h
         exact K83 ho h1 h2 z k
       · cases h)
    | (rename_i c ho
       split at h
       · split at h <;> cases h
       · split at h
         · split at h
           · split at h
             · split at h
               · cases h
               · cases hq : Nat.blt 0 _ <;> rw [hq] at h <;> cases h
             · cases h
           · cases h
         · cases h
       · split at h
         · split at h
           · cases hq : P.info? _ <;> rw [hq] at h <;> cases h
           · cases h
         · cases h
       · split at h
         · split at h <;> cases h
         · cases h
       · cases hq : E12 n c.args.toList with
         | none => rw [hq] at h; cases h
         | some xs =>
           rw [hq] at h; cases h
           rename_i hcal
           first | exact V39 (mx := false) ho hcal hq z k | exact V39 (mx := true) ho hcal hq z k
       · cases hq : E12 n c.args.toList with
         | none => rw [hq] at h; cases h
         | some xs =>
           rw [hq] at h; cases h
           rename_i hcal
           first | exact V39 (mx := false) ho hcal hq z k | exact V39 (mx := true) ho hcal hq z k
       · split at h
         · split at h
           · cases h
           · cases hq : J18 P _ <;> rw [hq] at h <;> cases h
           · cases h
         · cases h
       · cases h)
    | (cases h; done)
    | (split at h <;> cases h; done)
    | (repeat' (first | (cases h; done) | split at h))
    | skip
  all_goals first
    | (rw [Bool.cond_eq_ite] at h; split at h <;> cases h; done)
    | (rw [Option.map_eq_some_iff] at h; obtain ⟨_, _, h⟩ := h; cases h; done)
theorem W80 (h:U28 P n o=some (.p i)) (z:β) (k:Value->β):
  Q7 P i T z k=z\/∃ v,Q7 P i T z k=k v/\PV P d n o T v:=by
 rcases W33 h with h | h
 .exact E90 h z k
 .cases h;exact .inl (by simp only[Q7,vfK,W27];rfl)
end
end Go.Clo

namespace Go.Clo
variable {F:FM} {H:Y0} {P:Program} {b:V4} {c:List Value} {dst src t:TypeId} {i nx:Nat} {kd:TypeDesc} {sh:Option Nat} {v:Value} {w:World} {x:Operand} {y:X}
structure HB (F:FM) (H:Y0) (nx:Nat) (w:World):Prop where
 blk:∀ i b,i<nx->X0 H i=some b->∃ t,F i=some t/\BR F t b w
 fresh:∀ i,nx<=i->F i=none
theorem HR.hb (h:HR F H nx w):HB F H nx w:=⟨h.blk,h.fresh⟩
theorem HB.lt (h:HB F H nx w) {t:Tgt} (hi:F i=some t):i<nx:=by
 rcases Nat.lt_or_ge i nx with g | g
 .exact g
 .rw[h.fresh i g] at hi;cases hi
theorem HB.get (h:HB F H nx w) {t:Tgt} (hi:F i=some t) (hb:X0 H i=some b):BR F t b w:=by
 obtain⟨t',ht',hr⟩:=h.blk i b (h.lt hi) hb
 rw[hi] at ht';cases ht';exact hr
def RV (P:Program) (d n nx:Nat) (o:Oper) (T:U1 Value) (H:Y0) (v:Value):Prop:=
 ∀ (F:FM) (a:Act) (w:World),OR n o F T a->HB F H nx w->∃ v',(execOp a.eval o).run P w = .ok (.value v') w/\VR F v v'
theorem PV.rv {d n:Nat} {o:Oper} {T:U1 Value} (h:PV P d n o T v) (nx:Nat) (H:Y0):RV P d n nx o T H v:=fun F a w ht _=>h F a w ht
def V4.row:V4->Option (List Value)
 | .cells c _=>some c
 | .rom c=>some c
 | _=>none
theorem BR.row {F:FM} {t:Tgt} {b:V4} {c:List Value} {w:World} (h:BR F t b w) (hc:b.row=some c):
  ∃ c' e m,w.heap[t.blk]? = some (.cells c' e m)/\t.base+c.length<=c'.size/\VL F c ((c'.toList.drop t.base).take c.length):=by
 cases b with
 | cells c1 sl=>cases hc;obtain⟨c',e,h1,h2,h3,h4,h5,h6⟩:=h;exact⟨c',e,_,h1,by omega,h6⟩
 | rom c1=>cases hc;obtain⟨c',e,m,h1,h2,h3,h4,h5,h6⟩:=h;exact⟨c',e,m,h1,by omega,h6⟩
 | map es k=>cases hc
theorem K85 {t:Tgt} (h:BR F t b w) (hrow:b.row=some c) {j:Nat} (hv:c[j]? = some v):
  ∃ v',w.cell? ⟨t.blk,t.base+j,none⟩=some v'/\VR F v v':=by
 obtain⟨c',e,m,h1,h5,h6⟩:=h.row hrow
 obtain⟨v',hv',hr⟩:=h6.some hv
 refine⟨v',?_,hr⟩
 have hj:j<c.length:=by
  rcases Nat.lt_or_ge j c.length with g | g
  .exact g
  .simp[List.getElem?_eq_none g] at hv
 simp[hj] at hv'
 simp[World.cell?,h1,hv']
theorem Y49 {α:Type}:∀ {n:Nat} {l r:List α},D9 n l=some r->r=l.take n/\r.length=n
 | 0,l,r,h=>by simp[D9] at h;subst h;simp
 | n+1,[],r,h=>by simp[D9] at h
 | n+1,a :: l,r,h=>by
  simp only[D9] at h
  cases hq:D9 n l with
  | none=>simp[hq] at h
  | some r'=>
   simp[hq] at h;subst h
   obtain⟨h1,h2⟩:=Y49 hq
   simp[<- h1,h2]
theorem Q55 {t:Tgt} (h:BR F t b w) (hrow:b.row=some c) {o m:Nat} {l:List Value} (hl:D9 m (c.drop o)=some l):
  ∃ l',(∀ w2:World,w2.heap=w.heap->(loadCells ⟨t.blk,t.base+o,none⟩ m).run P w2 = .ok l'.toArray w2)/\VL F l l'/\l.length=m:=by
 obtain⟨e1,e2⟩:=Y49 hl
 obtain⟨c',e,mk,h1,h5,h6⟩:=h.row hrow
 have hv:VL F l (((((c'.toList.drop t.base).take c.length).drop o).take m)):=by rw[e1];exact (h6.drop o).take m
 refine⟨_,fun w2 hw2 => ?_,hv,e2⟩
 have hlen:=hv.length
 have:=run_loadCells_list (P:=P) w2 ⟨t.blk,t.base+o,none⟩ ((((c'.toList.drop t.base).take c.length).drop o).take m) (fun j v hj=>by
  rw[M18]
  have hj2:j<m:=by
   rcases Nat.lt_or_ge j m with g | g
   .exact g
   .simp[List.getElem?_take,Nat.not_lt.2 g] at hj
  have hoc:o+j<c.length:=by
   rcases Nat.lt_or_ge (o+j) c.length with g | g
   .exact g
   .simp[List.getElem?_take,hj2,Nat.not_lt.2 g] at hj
  simp[hj2,hoc] at hj
  simp[World.cell?,hw2,h1,Nat.add_assoc,hj])
 rw[<- hlen,e2] at this
 exact this
theorem Y19 (hu:P.underlying t=some kd) (hk:N15 kd v=true) (e:Bool) (n:Nat) (w:World):(Instr.checkKey e (n+1) t v).run P w = .ok () w:=by
 cases kd<;>cases v<;>simp[N15] at hk<;>simp[Instr.checkKey,run_underlying hu]
theorem C30 (hk:N15 kd v=true):W9 v=true:=by
 cases kd<;>cases v<;>simp[N15] at hk<;>rfl
theorem R27 {k:Value} {es es':List MapEntry} (h:EL F es es'):∀ (j:Nat),
  (Instr.findNow kd k es j=none->Instr.findNow kd k es' j=none) /\
  (Instr.findNow kd k es j=some none->Instr.findNow kd k es' j=some none) /\
  (∀ i v,Instr.findNow kd k es j=some (some (i,v))->∃ v',Instr.findNow kd k es' j=some (some (i,v'))/\VR F v v'):=by
 induction h with
 | nil=>intro j;simp[Instr.findNow]
 | @cons key v v' b l l' hk hv _ ih=>
  intro j
  simp only[Instr.findNow]
  cases hs:Instr.sameNow kd k key with
  | none=>simp
  | some q=>
   cases q with
   | true=>
    refine⟨by simp,by simp,?_⟩
    intro i u h
    simp at h
    obtain⟨rfl,rfl⟩:=h
    exact⟨v',by simp,hv⟩
   | false=>simpa using ih (j+1)
theorem EL.length {F:FM} {l l':List MapEntry} (h:EL F l l'):l.length=l'.length:=by
 induction h with
 | nil=>rfl
 | cons _ _ _ ih=>simp[ih]
theorem B13 {r:Nat} {es:Array MapEntry} {c:Nat} (h:w.heap[r]? = some (.map es c)):(getObj r).run P w = .ok (.map es c) w:=by
 simp[getObj,Sem.run,h]
section
variable {β:Type} {P:Program} {d n nx:Nat} {o:Oper} {T:U1 Value} {H:Y0}
theorem X95 (hsh:X15 P t=some sh) {b off:Nat} {tt:Tgt} (hF:F b=some tt) (hb:HB F H nx w) {blk:V4} (hg:X0 H b=some blk):
  ∀ (v:Value),(∃ (k:Value->Option Value),(∀ u,k u=some u)/\ldB off sh none k blk=some v)->∃ v',(loadVar t ⟨tt.blk,tt.base+off,none⟩).run P w = .ok v' w/\VR F v v':=by
 intro v ⟨k,hk,h⟩
 obtain⟨dd,i,hu,hi,rfl⟩:=M53 hsh
 have hbr:=hb.get hF hg
 have main:∀ c,blk.row=some c->ldC off (cond (Y15 dd) (some i.size) none) none k c=some v->∃ v',(loadVar t ⟨tt.blk,tt.base+off,none⟩).run P w = .ok v' w/\VR F v v':=by
  intro c hrow h
  unfold ldC at h
  cases hd:Y15 dd with
  | false=>
   simp only[hd,cond_false] at h
   rw[X20] at h
   cases hv:c[off]? with
   | none=>rw[hv] at h;cases h
   | some u=>
    rw[hv] at h
    simp only[Option.elim_some,hk,Option.some.injEq] at h
    subst h
    obtain⟨v',hc,hr⟩:=K85 hbr hrow hv
    exact⟨v',by simp[loadVar,V23 hu,hd,hc],hr⟩
  | true=>
   simp only[hd,cond_true] at h
   split at h
   .rename_i l hl
    rw[E3,hk] at h
    simp only[Option.some.injEq] at h
    subst h
    obtain⟨l',hrun,hvl,hlen⟩:=Q55 (P:=P) hbr hrow hl
    refine⟨.agg l'.toArray,?_,?_⟩
    .simp[loadVar,V23 hu,hd,D6 hi,hrun w rfl]
    .exact VR.agg' hvl
   .cases h
 cases blk with
 | map es c=>simp[ldB] at h
 | cells c sl=>exact main c rfl h
 | rom c=>exact main c rfl h
theorem C57 (off:Nat) (sh:Option Nat) (z:β) (k:Value->β) (c:List Value):
  ldC off sh z k c=z\/∃ v,ldC off sh z k c=k v/\ldC off sh none some c=some v:=by
 unfold ldC
 cases sh with
 | none=>
  dsimp only
  rw[X20,X20]
  cases c[off]? with
  | none=>exact .inl rfl
  | some u=>exact .inr ⟨u,rfl,rfl⟩
 | some m=>
  dsimp only
  split
  .rw[E3,E3];exact .inr ⟨_,rfl,rfl⟩
  .exact .inl rfl
theorem N78 (off:Nat) (sh:Option Nat) (z:β) (k:Value->β) (blk:V4):
  ldB off sh z k blk=z\/∃ v,ldB off sh z k blk=k v/\ldB off sh none some blk=some v:=by
 cases blk with
 | map es c=>exact .inl rfl
 | cells c sl=>exact C57 off sh z k c
 | rom c=>exact C57 off sh z k c
theorem M56 (hsh:X15 P t=some sh) (y:X) (z:β) (k:Value->β):
  rLd y sh T H z k=z\/∃ v,rLd y sh T H z k=k v/\∀ (F:FM) (x':Value) (w:World),VR F (ev T y) x'->HB F H nx w->∃ a v',x' = .pointer (some a)/\(loadVar t a).run P w = .ok v' w/\VR F v v':=by
 unfold rLd
 rw[N4]
 split
 .rename_i b off hv
  rw[W6]
  cases hg:X0 H b with
  | none=>exact .inl rfl
  | some blk=>
   dsimp only[Option.elim_some]
   rcases N78 off sh z k blk with h | ⟨v,h,h'⟩
   .exact .inl h
   .refine .inr ⟨v,h,fun F x' w hx hb => ?_⟩
    rw[hv] at hx
    obtain⟨_,tt,hF,rfl⟩:=hx.ptr_inv
    obtain⟨v',hr,hvr⟩:=X95 (H:=H) (nx:=nx) hsh hF hb hg v ⟨some,fun _=>rfl,h'⟩
    exact⟨_,v',rfl,hr,hvr⟩
 .exact .inl rfl
theorem J87 (ho:o.op = .load t x) (hx:Q2 n x=some y) (hsh:X15 P t=some sh) (z:β) (k:Value->β):
  evR P (.ld y sh) T H z k=z\/∃ v,evR P (.ld y sh) T H z k=k v/\RV P d n nx o T H v:=by
 rcases M56 (nx:=nx) (T:=T) (H:=H) hsh y z k with h | ⟨v,h,hp⟩
 .exact .inl h
 .refine .inr ⟨v,h,fun F a w ht hb => ?_⟩
  obtain⟨ad,v',he,hr,hv⟩:=hp F (a.eval x) w (evX ht hx) hb
  exact⟨v',by simp[execOp,ho,he,Instr.loadAt,Instr.sureAddr,hr],hv⟩
theorem Y84 {ix:Operand} {ok:Bool} {X1 I1:X} {key elem:TypeId} {ie:TypeInfo} {zero:Value} (ho:o.op = .lookup t x ix ok) (hx:Q2 n x=some X1) (hix:Q2 n ix=some I1)
  (hu:P.underlying t=some (.map key elem)) (hk:P.underlying key=some kd) (hie:P.info? elem=some ie) (hz:ie.zero=some zero) (hfl:C11 zero=true) (z:β) (k:Value->β):
  evR P (.lk kd zero X1 I1 ok) T H z k=z\/∃ v,evR P (.lk kd zero X1 I1 ok) T H z k=k v/\RV P d n nx o T H v:=by
 show rLk kd zero X1 I1 ok T H z k=z\/∃ v,rLk kd zero X1 I1 ok T H z k=k v/\_
 unfold rLk
 rw[N4,N4]
 cases hkk:N15 kd (ev T I1) with
 | false=>exact .inl rfl
 | true=>
  dsimp only[cond_true]
  have main:∀ (es:List MapEntry),(∀ (F:FM) (a:Act) (w:World),OR n o F T a->HB F H nx w->∃ es':Array MapEntry,EL F es es'.toList /\
     ((a.eval x = .map none/\es' = #[])\/∃ r c,a.eval x = .map (some r)/\w.heap[r]? = some (.map es' c))) ->
    ((match Instr.findNow kd (ev T I1) es 0 with
     | some (some (_,v))=>cond ok (k (.tuple ⟨[v,.bool true]⟩)) (k v)
     | some none=>cond ok (k (.tuple ⟨[zero,.bool false]⟩)) (k zero)
     | none=>z)=z\/∃ v,(match Instr.findNow kd (ev T I1) es 0 with
     | some (some (_,v))=>cond ok (k (.tuple ⟨[v,.bool true]⟩)) (k v)
     | some none=>cond ok (k (.tuple ⟨[zero,.bool false]⟩)) (k zero)
     | none=>z)=k v/\RV P d n nx o T H v):=by
   intro es hes
   split
   .rename_i j v hf
    refine .inr ⟨if ok then .tuple ⟨[v,.bool true]⟩ else v,by cases ok<;>rfl,fun F a w ht hb => ?_⟩
    obtain⟨es',hel,hrun⟩:=hes F a w ht hb
    have hi:=B18 (evX ht hix) (C30 hkk)
    obtain⟨v',hf',hr⟩:=(R27 (kd:=kd) (k:=ev T I1) hel 0).2.2 _ _ hf
    refine⟨if ok then .tuple #[v',.bool true] else v',?_,?_⟩
    .rcases hrun with ⟨he,rfl⟩ | ⟨r,c,he,hw⟩
     .simp[Instr.findNow] at hf'
     .simp only[execOp,ho,Instr.lookup,Sem.run_bind,run_underlying hu,Result.andThen_ok,he,B13 hw,hi,Y19 hk hkk _ 9999,Instr.findKey,run_underlying hk,hf',Sem.run_pure]
    .cases ok
     .exact hr
     .exact VR.tuple' (.cons hr (.cons (.bool true) .nil))
   .rename_i hf
    refine .inr ⟨if ok then .tuple ⟨[zero,.bool false]⟩ else zero,by cases ok<;>rfl,fun F a w ht hb => ?_⟩
    obtain⟨es',hel,hrun⟩:=hes F a w ht hb
    have hi:=B18 (evX ht hix) (C30 hkk)
    have hf':=(R27 (kd:=kd) (k:=ev T I1) hel 0).2.1 hf
    refine⟨if ok then .tuple #[zero,.bool false] else zero,?_,?_⟩
    .rcases hrun with ⟨he,rfl⟩ | ⟨r,c,he,hw⟩
     .simp only[execOp,ho,Instr.lookup,Sem.run_bind,run_underlying hu,Result.andThen_ok,he,hi,Y19 hk hkk _ 9999,Instr.findKey,run_underlying hk,hf',Sem.run_pure,zeroValue,B14 hie,hz]
     .simp only[execOp,ho,Instr.lookup,Sem.run_bind,run_underlying hu,Result.andThen_ok,he,B13 hw,hi,Y19 hk hkk _ 9999,Instr.findKey,run_underlying hk,hf',Sem.run_pure,zeroValue,B14 hie,hz]
    .cases ok
     .exact K11 F zero hfl
     .exact VR.tuple' (.cons (K11 F zero hfl) (.cons (.bool false) .nil))
   .exact .inl rfl
  split
  .rename_i hv
   refine main [] (fun F a w ht _=>⟨#[],.nil,.inl ⟨?_,rfl⟩⟩)
   have h1:=evX ht hx
   rw[hv] at h1
   generalize a.eval x=q at h1
   cases h1
   rfl
  .rename_i r hv
   rw[W6]
   cases hg:X0 H r with
   | none=>exact .inl rfl
   | some blk=>
    dsimp only[Option.elim_some]
    split
    .rename_i l c
     refine main l (fun F a w ht hb => ?_)
     have h1:=evX ht hx
     rw[hv] at h1
     generalize a.eval x=q at h1
     cases h1 with
     | map hF=>
      obtain⟨_,es',hw,hel⟩:=hb.get hF hg
      exact⟨es',hel,.inr ⟨_,_,rfl,hw⟩⟩
    .exact .inl rfl
  .exact .inl rfl
theorem C67 {kd:IntKind} {sd:TypeDesc} (ho:o.op = .convert src dst x) (hx:Q2 n x=some y)
  (h1:P.underlying dst=some (.int kd)) (h2:P.underlying src=some sd) (z:β) (k:Value->β):
  evR P (.convI kd y) T H z k=z\/∃ v,evR P (.convI kd y) T H z k=k v/\RV P d n nx o T H v:=by
 show Y52 kd y T H z k=z\/∃ v,Y52 kd y T H z k=k v/\_
 unfold Y52
 rw[N4]
 split
 .rename_i k0 m hv
  have key:RV P d n nx o T H (.int kd (kd.wrap m)):=fun F a w ht _=>by
   have h3:=evX ht hx
   rw[hv] at h3
   have h3:=h3.int_inv
   refine⟨.int kd (kd.wrap m),?_,.int _ _⟩
   cases sd<;>simp[execOp,ho,h3,convert,run_underlying h1,run_underlying h2,Conv.intToInt]
  cases hf:N22 kd m with
  | false=>simp only[cond_false];rw[V32];exact .inr ⟨_,rfl,key⟩
  | true=>simp only[cond_true];have hw:=V33 hf;rw[hw] at key;exact .inr ⟨_,rfl,key⟩
 .exact .inl rfl
theorem G51 (ho:o.op = .convert src dst x) (hx:Q2 n x=some y) (z:β) (k:Value->β):
  evR P (.conv y o) T H z k=z\/∃ v,evR P (.conv y o) T H z k=k v/\RV P d n nx o T H v:=by
 rcases N45 (P:=P) (d:=d) (n:=n) (T:=T) (xs:=[y]) (o:=o) (by simp[ho]) (by simp only[ho,Op.operands];intro q hq;simp at hq;subst hq;exact⟨y,by simp,hx⟩) z k with h | ⟨v,h,hp⟩
 .exact .inl h
 .exact .inr ⟨v,h,hp.rv nx H⟩
theorem C45:∀ {l:List Value} {bs:List UInt8},R35 l=some bs->l=(bs.map fun b=>(b.toNat:Int)).map (Value.int .u8)
 | [],bs,h=>by cases h;rfl
 | v :: r,bs,h=>by
  unfold R35 at h
  split at h
  .rename_i h0;cases h0
  .rename_i n r' h0
   cases h0
   cases hb:Nat.blt n 256 with
   | false=>rw[hb] at h;cases h
   | true=>
    rw[hb] at h
    simp only[cond_true] at h
    split at h
    .rename_i l hl
     cases h
     rw[C45 hl]
     have hn:n<256:=by simpa using hb
     have e:((UInt8.ofNat n).toNat:Int)=Int.ofNat n:=by
      rw[UInt8.toNat_ofNat']
      have:n%2^8=n:=Nat.mod_eq_of_lt (by simpa using hn)
      rw[this];rfl
     simp only[List.map_cons,e]
    .cases h
  .cases h
theorem K82 (bs:List Int):((bs.map (Value.int .u8)).all W9)=true:=by
 rw[List.all_eq_true]
 intro v hv
 obtain⟨b,_,rfl⟩:=List.mem_map.1 hv
 rfl
theorem Y72 (bs:List UInt8):(bs.map fun b=>(b.toNat:Int)).foldl (fun r n=>r.push (UInt8.ofNat n.toNat)) ByteArray.empty=⟨⟨bs⟩⟩:=by
 rw[foldl_push_bytes,List.map_map]
 have:(bs.map ((fun n:Int=>UInt8.ofNat n.toNat) ∘ fun b:UInt8=>(b.toNat:Int)))=bs:=by
  conv=>rhs;rw[<- List.map_id bs]
  exact List.map_congr_left fun b _=>by simp
 rw[this]
 simp[ByteArray.empty,ByteArray.emptyWithCapacity]
 rfl
theorem C79 {e:TypeId} (ho:o.op = .convert src dst x) (hx:Q2 n x=some y) (hs:P.underlying src=some (.slice e)) (he:P.underlying e=some (.int .u8)) (hd:P.underlying dst=some .string) (z:β) (k:Value->β):
  evR P (.str y) T H z k=z\/∃ v,evR P (.str y) T H z k=k v/\RV P d n nx o T H v:=by
 show V74 y T H z k=z\/∃ v,V74 y T H z k=k v/\_
 unfold V74
 rw[N4]
 split
 .rename_i len cap hv
  refine .inr ⟨_,rfl,fun F a w ht hb => ?_⟩
  have h3:=evX ht hx
  rw[hv] at h3
  have h3:=h3.sliceN_inv
  refine⟨_,?_,.string _⟩
  have:=run_convert_bytes_nil (P:=P) w src e hs he len cap dst hd
  simp only[execOp,ho,h3,Sem.run_bind,this,Result.andThen_ok]
  rfl
 .rename_i a len cap hv
  obtain⟨b,off,s⟩:=a
  unfold G24
  cases s with
  | some q=>exact .inl rfl
  | none=>
   dsimp only
   rw[W6]
   cases hg:X0 H b with
   | none=>exact .inl rfl
   | some blk=>
    have main:∀ c,blk.row=some c->(match D9 len (c.drop off) with
      | some l=>R7 l fun cs=>(match R35 cs with
       | some bs=>k (.string ⟨⟨bs⟩⟩)
       | none=>z)
      | none=>z)=z\/∃ v,(match D9 len (c.drop off) with
      | some l=>R7 l fun cs=>(match R35 cs with
       | some bs=>k (.string ⟨⟨bs⟩⟩)
       | none=>z)
      | none=>z)=k v/\RV P d n nx o T H v:=by
     intro c hrow
     split
     .rename_i l hl
      rw[E3]
      split
      .rename_i bs hbs
       refine .inr ⟨_,rfl,fun F act w ht hb => ?_⟩
       have h3:=evX ht hx
       rw[hv] at h3
       obtain⟨_,t,c',hF,h3,_⟩:=h3.slice_inv
       obtain⟨l',hrun,hvl,_⟩:=Q55 (P:=P) (hb.get hF hg) hrow hl
       have el:=C45 hbs
       have e2:=K24 hvl (by rw[el];exact K82 _)
       refine⟨_,?_,.string _⟩
       have hl2:(loadCells ⟨t.blk,t.base+off,none⟩ len).run P w = .ok ((bs.map fun b=>(b.toNat:Int)).map (Value.int .u8)).toArray w:=by
        rw[<- el]
        first | rw[<- e2];exact hrun w rfl | rw[e2];exact hrun w rfl
       have h4:=run_bytesToString (P:=P) w ⟨t.blk,t.base+off,none⟩ len c' _ hl2
       rw[Y72] at h4
       have h5:=run_convert_bytes_string (P:=P) w src dst e (some ⟨t.blk,t.base+off,none⟩) len c' hs he hd
       simp only[execOp,ho,h3,Sem.run_bind,h5,h4,Result.andThen_ok]
       rfl
      .exact .inl rfl
     .exact .inl rfl
    cases blk with
    | map es c=>exact .inl rfl
    | rom c=>exact main c rfl
    | cells c sl=>exact main c rfl
 .exact .inl rfl
end
end Go.Clo
