/-
  The closed executor: the operations that read,joined;the operations that make a block.
  The closed executor: the operations that make a block.
  The closed executor: steps of the heap.
-/
import Derived.Test.YtpiobdofbhkmjaaDoorL6
set_option linter.unusedSimpArgs false
set_option linter.unusedVariables false
set_option linter.unusedSectionVars false
namespace Go.Clo
variable {F:FM} {X1:X} {c' cap off size:Nat} {lo:Bool} {t:Tgt} {w:World} {x:Operand}
section
variable {β:Type} {P:Program} {d n nx:Nat} {o:Oper} {T:U1 Value} {H:Y0}
theorem U76 {c:List Value} {sl:Nat} (hb:BR F t (.cells c sl) w) (hl:C10 (.cells c sl) off cap size=some lo)
  (hc:c'=cap\/(0<t.esz/\cap<=c'/\off+cap*t.esz=t.sz/\t.base+off+c'*t.esz<=t.rsz/\c'<=9223372036854775807)):
  cap<=c'/\(c'≠cap->lo=true/\t.esz=size/\0<size/\off+cap*size=t.sz/\t.base+off+c'*size<=t.rsz/\c'<=9223372036854775807):=by
 obtain⟨c1,e,h1,h2,h3,h4,h5,h6⟩:=hb
 rcases hc with rfl | ⟨g1,g2,g3,g4,g5⟩
 .exact⟨Nat.le_refl _,fun h=>absurd rfl h⟩
 .refine⟨g2,fun _ => ?_⟩
  unfold C10 at hl
  dsimp only at hl
  have hsl:sl≠0:=by omega
  have:Nat.beq sl 0=false:=by
   cases hq:Nat.beq sl 0 with
   | false=>rfl
   | true=>exact absurd (Nat.eq_of_beq_eq_true hq) hsl
  rw[this] at hl
  simp only[cond_false] at hl
  cases hs:Nat.beq sl size with
  | false=>rw[hs] at hl;cases hl
  | true=>
   rw[hs] at hl
   simp only[cond_true,Option.some.injEq] at hl
   have he:=Nat.eq_of_beq_eq_true hs
   have hz:t.esz=size:=by omega
   rw[hz] at g1 g3 g4
   refine⟨?_,hz,g1,g3,g4,g5⟩
   rw[<- hl]
   have:off+cap*size=c.length:=by omega
   simp[this]
theorem X32 {blk:V4} (hb:BR F t blk w) (hl:C10 blk off cap size=some lo)
  (hc:c'=cap\/(0<t.esz/\cap<=c'/\off+cap*t.esz=t.sz/\t.base+off+c'*t.esz<=t.rsz/\c'<=9223372036854775807)):
  cap<=c'/\(c'≠cap->lo=true/\t.esz=size/\0<size/\off+cap*size=t.sz/\t.base+off+c'*size<=t.rsz/\c'<=9223372036854775807):=by
 cases blk with
 | cells c sl=>exact U76 hb hl hc
 | map es q=>simp[C10] at hl
 | rom c=>
  obtain⟨c1,e,m,h1,h2,h3,h4,h5,h6⟩:=hb
  rcases hc with rfl | ⟨g1,g2,g3,g4,g5⟩
  .exact⟨Nat.le_refl _,fun h=>absurd rfl h⟩
  .omega
theorem Y86 {t:TypeId} {lo hi mx:Option Operand} {L1 H1 M1:Option X} {e:TypeId} {i:TypeInfo} (ho:o.op = .slice t x lo hi mx) (hx:Q2 n x=some X1)
  (hlo:D14 n lo=some L1) (hhi:D14 n hi=some H1) (hmx:D14 n mx=some M1) (hu:P.underlying t=some (.slice e)) (hi':P.info? e=some i) (z:β) (k:Value->β):
  evR P (.sl X1 i.size L1 H1 M1) T H z k=z\/∃ v,evR P (.sl X1 i.size L1 H1 M1) T H z k=k v/\RV P d n nx o T H v:=by
 show rSl X1 i.size L1 H1 M1 T H z k=z\/∃ v,rSl X1 i.size L1 H1 M1 T H z k=k v/\_
 unfold rSl
 rw[N4,Z25,Z25,Z25]
 split
 .rename_i len cap hv
  split
  .rename_i r hr
   rw[J8]
   refine .inr ⟨r,rfl,fun F act w ht _ => ?_⟩
   have h1:=evX ht hx
   rw[hv] at h1
   have he:=h1.sliceN_inv
   obtain⟨m,hh,l,em,eh,el,hr⟩:=Y37 hr
   obtain⟨hrun,c1,c2⟩:=Y28 (P:=P) (OV.of ht hlo) (OV.of ht hhi) (OV.of ht hmx) (Nat.le_refl cap) em eh el true w
   have hm:(if (M1.map (ev T)).isNone then cap else m)=m:=by
    cases hM:M1.map (ev T) with
    | none=>simp[c1 hM]
    | some _=>simp
   rw[hm] at hrun
   dsimp only at hr
   subst hr
   refine⟨.slice none (hh-l) (m-l),?_,.sliceN _ _⟩
   simp only[execOp,ho,Instr.sliceAt,Instr.slice,Sem.run_bind,run_underlying hu,Result.andThen_ok,he,Sem.run_pure,hrun,D6 hi']
   simp
  .exact .inl rfl
 .rename_i b o' len cap hv
  rw[W6]
  cases hg:X0 H b with
  | none=>exact .inl rfl
  | some blk=>
   dsimp only[Option.elim_some]
   unfold slB
   split
   .rename_i loose hls
    split
    .rename_i r hr
     rw[J8]
     refine .inr ⟨r,rfl,fun F act w ht hb => ?_⟩
     have h1:=evX ht hx
     rw[hv] at h1
     obtain⟨_,tt,c',hF,he,hc⟩:=h1.slice_inv
     obtain⟨m,hh,l,em,eh,el,hlm,hno,hr⟩:=Y37 hr
     .obtain⟨hcap,hloose⟩:=X32 (hb.get hF hg) hls hc
      obtain⟨hrun,c1,c2⟩:=Y28 (P:=P) (OV.of ht hlo) (OV.of ht hhi) (OV.of ht hmx) hcap em eh el true w
      subst hr
      generalize hM:(if (M1.map (ev T)).isNone then c' else m)=m' at hrun
      refine⟨.slice (some (if m'=l then ⟨tt.blk,tt.base+o',none⟩ else ⟨tt.blk,tt.base+(o'+l*i.size),none⟩)) (hh-l) (m'-l),?_,?_⟩
      .simp only[execOp,ho,Instr.sliceAt,Instr.slice,Sem.run_bind,run_underlying hu,Result.andThen_ok,he,Sem.run_pure,hrun,D6 hi']
       by_cases hml:m'=l<;>simp[hml,M18,Nat.add_assoc]
      .by_cases hmm:m'=m
       .rw[hmm]
        by_cases hml:m=l
        .simp only[hml,if_true];exact .slice hF (.inl rfl)
        .simp only[hml,if_false];exact .slice hF (.inl rfl)
       .have hMn:M1.map (ev T)=none:=by
         cases hq:M1.map (ev T) with
         | none=>rfl
         | some q=>rw[hq] at hM;simp at hM;exact absurd hM.symm hmm
        rw[hMn] at hM;simp at hM
        subst hM
        have hmc:=c1 hMn
        subst hmc
        obtain⟨q1,q2,q3,q4,q5,q7⟩:=hloose hmm
        have hne:c'≠l:=by omega
        simp only[hne,if_false]
        by_cases hml:m=l
        .have hl0:l=0:=by
          rcases Nat.eq_zero_or_pos l with h0 | h0
          .exact h0
          .exact absurd ⟨q1,hMn,hml,by omega⟩ hno
         subst hl0
         subst hml
         simp only[if_true,Nat.zero_mul,Nat.add_zero,Nat.sub_self,Nat.sub_zero]
         exact .slice hF (.inr ⟨by omega,by omega,by simpa using q4,by rw[q2];exact q5,q7⟩)
        .simp only[hml,if_false]
         have e1:o'+l*i.size+(m-l)*i.size=o'+m*i.size:=by
          have:l*i.size+(m-l)*i.size=m*i.size:=by rw[<- Nat.add_mul];congr 1;omega
          omega
         have e2:o'+l*i.size+(c'-l)*i.size=o'+c'*i.size:=by
          have:l*i.size+(c'-l)*i.size=c'*i.size:=by rw[<- Nat.add_mul];congr 1;omega
          omega
         refine .slice hF (.inr ⟨by omega,by omega,by rw[q2,e1];exact q4,?_,by omega⟩)
         rw[q2]
         have q6:tt.base+o'+c'*i.size<=tt.rsz:=q5
         clear hc q5 q4 hloose
         generalize c'*i.size=A at *
         generalize (c'-l)*i.size=B at *
         generalize l*i.size=D at *
         omega
    .exact .inl rfl
   .exact .inl rfl
 .exact .inl rfl
theorem J42 {c:Call} {t:TypeId} {kd:Nat} {dd:TypeDesc} (ho:o.op = .call c) (hc:c.callee = .builtin .len) (ht':c.argTypes.toList=[t]) (ha:c.args.toList=[x]) (hx:Q2 n x=some X1)
  (hu:P.underlying t=some dd) (hkd:(kd=0/\∃ e,dd = .slice e)\/(kd=1/\dd = .string)\/(kd=2/\∃ a b,dd = .map a b)) (z:β) (k:Value->β):
  evR P (.len X1 kd) T H z k=z\/∃ v,evR P (.len X1 kd) T H z k=k v/\RV P d n nx o T H v:=by
 have hat:c.argTypes = #[t]:=Array.toList_inj.1 (by simpa using ht')
 have haa:c.args = #[x]:=Array.toList_inj.1 (by simpa using ha)
 have hexec:∀ (a:Act) (w:World),(execOp a.eval o).run P w=((Builtin.len_ #[t] o.type #[a.eval x]).run P w).andThen fun v w => .ok (.value v) w:=by
  intro a w
  simp[execOp,ho,resolve,hc,invoke,builtin,hat,haa]
 have hmem:x ∈ o.op.operands:=by rw[ho];simp[Op.operands,Call.operands,hc,haa]
 show V75 X1 kd T H z k=z\/∃ v,V75 X1 kd T H z k=k v/\_
 unfold V75
 rw[N4]
 split
 .rename_i a nn c' hv
  refine .inr ⟨_,rfl,fun F act w ht _ => ?_⟩
  obtain⟨e,rfl⟩:∃ e,dd = .slice e:=by rcases hkd with ⟨_,h⟩ | ⟨h,_⟩ | ⟨h,_⟩<;>first | exact h | cases h
  have h1:=evX ht hx hmem
  rw[hv] at h1
  generalize hq:act.eval x=q at h1
  refine⟨.int .i64 (.ofNat nn),?_,.int _ _⟩
  rw[hexec,hq]
  cases h1<;>simp[Builtin.len_,run_underlying hu,goInt]
 .rename_i s hv
  rw[N2]
  refine .inr ⟨_,rfl,fun F act w ht _ => ?_⟩
  obtain rfl:dd = .string:=by rcases hkd with ⟨h,_⟩ | ⟨_,h⟩ | ⟨h,_⟩<;>first | exact h | cases h
  have h1:=evX ht hx hmem
  rw[hv] at h1
  generalize hq:act.eval x=q at h1
  refine⟨.int .i64 (.ofNat s.size),?_,.int _ _⟩
  rw[hexec,hq]
  cases h1;simp[Builtin.len_,run_underlying hu,goInt]
 .rename_i hv
  refine .inr ⟨_,rfl,fun F act w ht _ => ?_⟩
  obtain⟨a,b,rfl⟩:∃ a b,dd = .map a b:=by rcases hkd with ⟨h,_⟩ | ⟨h,_⟩ | ⟨_,h⟩<;>first | exact h | cases h
  have h1:=evX ht hx hmem
  rw[hv] at h1
  generalize hq:act.eval x=q at h1
  refine⟨.int .i64 (.ofNat 0),?_,.int _ _⟩
  rw[hexec,hq]
  cases h1;simp[Builtin.len_,run_underlying hu,goInt]
 .rename_i r hv
  rw[W6]
  cases hg:X0 H r with
  | none=>exact .inl rfl
  | some blk=>
   dsimp only[Option.elim_some]
   split
   .rename_i l cl
    rw[N2]
    refine .inr ⟨_,rfl,fun F act w ht hb => ?_⟩
    obtain⟨a,b,rfl⟩:∃ a b,dd = .map a b:=by rcases hkd with ⟨h,_⟩ | ⟨h,_⟩ | ⟨_,h⟩<;>first | exact h | cases h
    have h1:=evX ht hx hmem
    rw[hv] at h1
    generalize hq:act.eval x=q at h1
    cases h1 with
    | map hF=>
     obtain⟨_,es',hw,hel⟩:=hb.get hF hg
     refine⟨.int .i64 (.ofNat l.length),?_,.int _ _⟩
     rw[hexec,hq]
     have:=hel.length
     simp[Builtin.len_,run_underlying hu,goInt,B13 hw,this]
   .exact .inl rfl
 .exact .inl rfl
theorem V51 {i:IR} (hI:U28 P n o=some (.r i)) (z:β) (k:Value->β):
  evR P i T H z k=z\/∃ v,evR P i T H z k=k v/\RV P d n nx o T H v:=by
 have h:=(W33 hI).resolve_right (by simp)
 clear hI
 unfold V31 at h
 split at h
 case h_13=>
  rename_i t x lo hi mx ho
  split at h
  .rename_i h1 h2 h3 h4 h5
   split at h
   .rename_i hinf;cases h;exact Y86 ho h1 h2 h3 h4 h5 hinf z k
   .cases h
  .split at h<;>cases h
  .cases h
  .cases h
 case h_16=>
  rename_i t x ho
  split at h
  .rename_i h1 h2;cases h;exact J87 ho h1 h2 z k
  .cases h
 case h_17=>
  rename_i t x ix ok ho
  split at h
  .rename_i h1 h2 h3
   split at h
   .rename_i h4 h5
    split at h
    .rename_i zz h6
     cases hf:C11 zz with
     | false=>rw[hf] at h;cases h
     | true=>rw[hf] at h;cases h;exact Y84 ho h1 h2 h3 h4 h5 h6 hf z k
    .cases h
   .cases h
  .cases h
 case h_18=>
  rename_i src dst x ho
  split at h
  .rename_i h1 h2 h3;cases h;exact C67 ho h1 h3 h2 z k
  .rename_i h1 h2 h3
   split at h
   .rename_i h4;cases h;exact C79 ho h1 h2 h4 h3 z k
   .cases h;exact G51 ho h1 z k
  .cases h;exact G51 ho ‹_› z k
  .cases h
 case h_26=>
  rename_i c ho
  split at h
  case h_4=>
   rename_i hc
   split at h
   .rename_i t x h1 h2
    split at h
    .cases h;rename_i g1 g2;exact J42 ho hc h1 h2 g1 g2 (.inl ⟨rfl,_,rfl⟩) z k
    .cases h;rename_i g1 g2;exact J42 ho hc h1 h2 g1 g2 (.inr (.inl ⟨rfl,rfl⟩)) z k
    .cases h;rename_i g1 g2;exact J42 ho hc h1 h2 g1 g2 (.inr (.inr ⟨rfl,_,_,rfl⟩)) z k
    .cases h
   .cases h
  all_goals first
   | (cases h;done)
   | (split at h<;>cases h;done)
   | (repeat' (first | (cases h;done) | split at h))
   | skip
  all_goals first
   | (rw[Bool.cond_eq_ite] at h;split at h<;>cases h;done)
   | (rw[Option.map_eq_some_iff] at h;obtain⟨_,_,h⟩:=h;cases h;done)
 all_goals first
  | (cases h;done)
  | (split at h<;>cases h;done)
  | (repeat' (first | (cases h;done) | split at h))
  | skip
 all_goals first
  | (rw[Bool.cond_eq_ite] at h;split at h<;>cases h;done)
  | (rw[Option.map_eq_some_iff] at h;obtain⟨_,_,h⟩:=h;cases h;done)
end
end Go.Clo

namespace Go.Clo
variable {P:Program}
def B0.real (q:Nat):B0->Value
 | .ptr => .pointer (some ⟨q,0,none⟩)
 | .slice l c => .slice (some ⟨q,0,none⟩) l c
 | .map => .map (some q)
def K72 (F:FM) (b:V4) (obj:Obj):Prop:=
 match b with
 | .cells c sl=>sl=0/\∃ c' e,obj = .cells c' e (0,0)/\VL F c c'.toList
 | .map es k=>es=[]/\obj = .map #[] k
 | .rom _=>False
def AV (P:Program) (d n:Nat) (o:Oper) (T:U1 Value) (b:V4) (y:B0):Prop:=
 ∀ (F:FM) (a:Act) (w:World),OR n o F T a->∃ obj,(execOp a.eval o).run P w = .ok (.value (y.real w.heap.size)) (w.alloc obj)/\K72 F b obj
theorem Q53 {z:List Value} (hz:0<z.length):∀ (len i:Nat),(V5 z len)[i]? = if i<len*z.length then z[i%z.length]? else none
 | 0,i=>by simp[V5]
 | len+1,i=>by
  simp only[V5]
  rw[List.getElem?_append]
  by_cases h:i<z.length
  .have:i<(len+1)*z.length:=by rw[Nat.add_mul];omega
   simp[h,this,Nat.mod_eq_of_lt h]
  .have hm:(i-z.length)%z.length=i%z.length:=(Nat.mod_eq_sub_mod (by omega)).symm
   rw[Q53 hz len (i-z.length)]
   have:(i-z.length<len*z.length)<->(i<(len+1)*z.length):=by rw[Nat.add_mul];omega
   simp[h,this,hm]
theorem N25 (z:Array Value) (len:Nat):((Array.range (len*z.size)).map (fun i=>z[i%z.size]!)).toList=V5 z.toList len:=by
 rcases Nat.eq_zero_or_pos z.size with h0 | h0
 .have:z = #[]:=Array.eq_empty_of_size_eq_zero h0
  subst this
  have:∀ len,V5 ([]:List Value) len=[]:=by
   intro len;induction len with
   | zero=>rfl
   | succ n ih=>simp[V5,ih]
  simp[this]
 .apply List.ext_getElem?
  intro i
  rw[Q53 (by simpa using h0)]
  by_cases hi:i<len*z.size
  .have hm:i%z.size<z.size:=Nat.mod_lt _ h0
   simp[hi,hm,getElem!_pos]
  .simp[hi]
theorem VL.repeat {F:FM} {z z':List Value} (h:VL F z z'):∀ n,VL F (V5 z n) (V5 z' n)
 | 0 => .nil
 | n+1=>h.append (h.repeat n)
theorem R19 (e:TypeId) (cells:Array Value) (w:World):(newRow e cells).run P w = .ok ⟨w.heap.size,0,none⟩ (w.alloc (.cells cells e (0,0))):=by
 simp[newRow,newObj,Sem.run]
theorem B45 (e:TypeId) (v:Value) (w:World):(newVar e v).run P w = .ok ⟨w.heap.size,0,none⟩ (w.alloc (.cells v.cells e (0,0))):=R19 e v.cells w
theorem J30 {t:TypeId} {i:TypeInfo} {v:Value} (hi:P.info? t=some i) (hz:i.zero=some v) (w:World):(zeroValue t).run P w = .ok v w:=by
 simp[zeroValue,B14 hi,hz]
section
variable {β:Type} {P:Program} {d n:Nat} {o:Oper} {T:U1 Value}
theorem M79 {i:IA} (hI:U28 P n o=some (.a i)) (z:β) (k:V4->B0->β):
  evA i T z k=z\/∃ b y,evA i T z k=k b y/\AV P d n o T b y:=by
 have h:=(W33 hI).resolve_right (by simp)
 clear hI
 unfold V31 at h
 split at h
 case h_19=>
  rename_i e ho
  cases hz:J18 P e with
  | none=>rw[hz] at h;cases h
  | some zero=>
   rw[hz] at h;cases h
   obtain⟨it,v,hit,hiz,rfl,hfl,hone,hlen⟩:=G22 hz
   simp only[evA]
   rw[E3]
   refine .inr ⟨_,_,rfl,fun F a w ht=>⟨.cells v.cells e (0,0),?_,rfl,_,_,rfl,Z20 hfl F⟩⟩
   simp[execOp,ho,Instr.alloc,J30 hit hiz,B45,B0.real]
 case h_20=>
  rename_i e x ho
  cases hx:Q2 n x with
  | none=>rw[hx] at h;cases h
  | some y=>
   rw[hx] at h;cases h
   simp only[evA]
   rw[N4]
   cases ho1:Z0 (ev T y).cells.toList with
   | false=>exact .inl rfl
   | true=>
    dsimp only[cond_true]
    rw[E3]
    refine .inr ⟨_,_,rfl,fun F a w ht=>⟨.cells (a.eval x).cells e (0,0),?_,rfl,_,_,rfl,(evX ht hx).cells (Z46 ho1)⟩⟩
    simp[execOp,ho,Instr.box,B45,B0.real]
 case h_21=>
  rename_i t len parts ho
  split at h
  .rename_i e ps hu hps
   split at h
   .rename_i zero inf hz hi
    cases hb:Nat.ble (len*inf.size) 16777216 with
    | false=>rw[hb] at h;cases h
    | true=>
     rw[hb] at h;cases h
     obtain⟨it,v,hit,hiz,rfl,hfl,hone,hlen⟩:=G22 hz
     rw[hi] at hit;cases hit
     simp only[evA]
     rw[V62]
     split
     .rename_i cs hf
      cases ho1:Z0 cs with
      | false=>exact .inl rfl
      | true=>
       dsimp only[cond_true]
       rw[E3]
       refine .inr ⟨_,_,rfl,fun F a w ht => ?_⟩
       have hle:len*inf.size<=16777216:=Nat.le_of_ble_eq_true hb
       have hvs:v.cells.size=inf.size:=by simpa using hlen
       have hcells:∃ zz:Array Value,((len*inf.size=0/\zz = #[])\/(len*inf.size≠0/\zz=v.cells)) /\
         ((Array.range (len*inf.size)).map (fun i=>zz[i%zz.size]!)).toList=V5 v.cells.toList len:=by
        by_cases h0:len*inf.size=0
        .refine⟨#[],.inl ⟨h0,rfl⟩,?_⟩
         rw[h0]
         have:=N25 v.cells len
         rw[hvs,h0] at this
         simp at this ⊢
         exact this
        .refine⟨v.cells,.inr ⟨h0,rfl⟩,?_⟩
         rw[<- hvs];exact N25 v.cells len
       obtain⟨zz,hzz,hrep⟩:=hcells
       obtain⟨r',hr,hl⟩:=B36 (pl':=fun k=>some (k*inf.size,inf.size)) (fun i p h=>h) (Y85 ht hps (by rw[ho];intro p hp;simp only[Op.operands];exact Array.mem_def.2 (by simp;exact⟨p.1,by simpa using hp⟩))) (cells':=(Array.range (len*inf.size)).map (fun i=>zz[i%zz.size]!))
        (by rw[hrep];exact (Z20 hfl F).repeat len) hf
       refine⟨.cells r' e (0,0),?_,rfl,_,_,rfl,hl⟩
       have hgt:¬ (len*inf.size > 2^24):=by simp;omega
       have hr':Instr.fill (fun i=>some (i*inf.size,inf.size)) ((Array.range (len*inf.size)).map (fun i=>zz[i%zz.size]!)) (parts.map fun (i,x)=>(i,a.eval x)).toList=some r':=by
        rw[W40];exact hr
       rcases hzz with ⟨h0,rfl⟩ | ⟨h0,rfl⟩
       .simp only[execOp,ho,Instr.buildSlice,Sem.run_bind,run_underlying hu,Result.andThen_ok,D6 hi,hgt,if_false,Sem.run_pure]
        rw[if_pos h0]
        simp only[Sem.run_bind,Sem.run_pure,Result.andThen_ok,hr',R19,B0.real]
       .simp only[execOp,ho,Instr.buildSlice,Sem.run_bind,run_underlying hu,Result.andThen_ok,D6 hi,hgt,if_false,Sem.run_pure]
        rw[if_neg h0]
        simp only[Sem.run_bind,J30 hi hiz,Sem.run_pure,Result.andThen_ok,hr',R19,B0.real]
     .exact .inl rfl
   .cases h
  .cases h
 case h_22=>
  rename_i t l c ho
  split at h
  .rename_i l1 c1 e hl1 hc1 hu
   split at h
   .rename_i zero inf hz hi
    cases hb:Nat.ble inf.bytes 100000 with
    | false=>rw[hb] at h;cases h
    | true=>
     rw[hb] at h;cases h
     obtain⟨it,v,hit,hiz,rfl,hfl,hone,hlen⟩:=G22 hz
     rw[hi] at hit;cases hit
     simp only[evA]
     rw[N4,N4]
     split
     .rename_i lv cv hlv hcv
      cases hlc:(Nat.ble lv cv&&Nat.ble cv 1000000) with
      | false=>exact .inl rfl
      | true=>
       dsimp only[cond_true]
       rw[E3]
       refine .inr ⟨_,_,rfl,fun F a w ht => ?_⟩
       simp only[Bool.and_eq_true,Nat.ble_eq] at hlc
       obtain⟨g1,g2⟩:=hlc
       have hby:inf.bytes<=100000:=Nat.le_of_ble_eq_true hb
       have e1:=evX ht hl1
       have e2:=evX ht hc1
       rw[hlv] at e1;rw[hcv] at e2
       have e1:=e1.int_inv
       have e2:=e2.int_inv
       have w1:IntKind.i64.wrap (Int.ofNat lv)=(lv:Int):=IntWalk.i64_in _ (by simp;omega)
       have w2:IntKind.i64.wrap (Int.ofNat cv)=(cv:Int):=IntWalk.i64_in _ (by simp;omega)
       have hvs:v.cells.size=inf.size:=by simpa using hlen
       have hcells:∃ zz:Array Value,((cv*inf.size=0/\zz = #[])\/(cv*inf.size≠0/\zz=v.cells)) /\
         ((Array.range (cv*inf.size)).map (fun i=>zz[i%zz.size]!)).toList=V5 v.cells.toList cv:=by
        by_cases h0:cv*inf.size=0
        .refine⟨#[],.inl ⟨h0,rfl⟩,?_⟩
         rw[h0]
         have:=N25 v.cells cv
         rw[hvs,h0] at this
         simp at this ⊢
         exact this
        .refine⟨v.cells,.inr ⟨h0,rfl⟩,?_⟩
         rw[<- hvs];exact N25 v.cells cv
       obtain⟨zz,hzz,hrep⟩:=hcells
       refine⟨.cells ((Array.range (cv*inf.size)).map (fun i=>zz[i%zz.size]!)) e (0,0),?_,rfl,_,_,rfl,by rw[hrep];exact (Z20 hfl F).repeat cv⟩
       have hprod:inf.bytes*cv<=100000000000:=Nat.le_trans (Nat.mul_le_mul hby g2) (by decide)
       have t1:(decide ((cv:Int)<0) || decide ((inf.bytes:Int)*(cv:Int) > 2^48))=false:=by
        have hp:(inf.bytes:Int)*(cv:Int)<=100000000000:=by omega
        have hq:(2:Int)^48=281474976710656:=by decide
        rw[hq,decide_eq_false (by omega),decide_eq_false (by omega)]
        rfl
       have t2:¬ (lv:Int)<0:=by omega
       have t3:¬ (lv:Int) > (cv:Int):=by omega
       have hroom:(askRoom (cv*inf.bytes)).run P w = .ok () w:=by
        have:¬ cv*inf.bytes > roomBytes:=by
         have:cv*inf.bytes=inf.bytes*cv:=Nat.mul_comm _ _
         simp only[roomBytes];omega
        simp[askRoom,this]
       simp only[execOp,ho,Instr.makeSlice,Sem.run_bind,run_underlying hu,Result.andThen_ok,e1,e2,asInt,asIntOf,Sem.run_pure,B14 hi,w1,w2]
       simp only[t1,Bool.false_or,t2,t3,decide_false,Bool.or_false,Bool.false_eq_true,if_false,Sem.run_bind,Int.toNat_natCast,hroom,Result.andThen_ok,D6 hi]
       rcases hzz with ⟨h0,rfl⟩ | ⟨h0,rfl⟩
       .rw[if_pos h0]
        simp only[Sem.run_bind,Sem.run_pure,Result.andThen_ok,R19,B0.real]
       .rw[if_neg h0]
        simp only[Sem.run_bind,J30 hi hiz,Sem.run_pure,Result.andThen_ok,R19,B0.real]
     .exact .inl rfl
   .cases h
  .cases h
 case h_23=>
  rename_i t r ho
  split at h
  .rename_i r1 mk mv hr hu
   cases h
   simp only[evA]
   rw[Z25]
   split
   .rename_i hv
    refine .inr ⟨_,_,rfl,fun F a w ht=>⟨.map #[] 0,?_,rfl,rfl⟩⟩
    rcases OV.of ht hr with ⟨_,h2⟩ | ⟨_,_,h2,_⟩
    .simp[execOp,ho,h2,Instr.makeMap,newObj,Sem.run,B0.real]
    .rw[hv] at h2;cases h2
   .rename_i kk q hv
    refine .inr ⟨_,_,rfl,fun F a w ht=>⟨.map #[] 0,?_,rfl,rfl⟩⟩
    rcases OV.of ht hr with ⟨h1,_⟩ | ⟨v1,v2,h1,h2,h3⟩
    .rw[hv] at h1;cases h1
    .rw[hv] at h1;cases h1
     have h3:=h3.int_inv
     subst h3
     simp[execOp,ho,h2,Instr.makeMap,run_underlying hu,asInt,asIntOf,newObj,Sem.run,B0.real]
   .exact .inl rfl
  .cases h
 all_goals first
  | (cases h;done)
  | (split at h<;>cases h;done)
  | (repeat' (first | (cases h;done) | split at h))
  | skip
 all_goals first
  | (rw[Bool.cond_eq_ite] at h;split at h<;>cases h;done)
  | (rw[Option.map_eq_some_iff] at h;obtain⟨_,_,h⟩:=h;cases h;done)
end
end Go.Clo

namespace Go.Clo
variable {F:FM} {H:Y0} {b nx q:Nat} {old:V4} {t:Tgt} {w w':World}
def upd (F:FM) (q:Nat) (t:Tgt):FM:=fun i=>if i=q then some t else F i
theorem N30 (h:F q=none) (t:Tgt):F.le (upd F q t):=by
 intro i u hi
 unfold upd
 by_cases e:i=q
 .subst e;rw[h] at hi;cases hi
 .simp[e,hi]
theorem R10 (F:FM) (q:Nat) (t:Tgt):upd F q t q=some t:=by simp[upd]
theorem N10 (F:FM) {i:Nat} (t:Tgt) (h:i≠q):upd F q t i=F i:=by simp[upd,h]
theorem U5.update (hr:HR F H nx w) {new:V4} (hb:b<nx) (hg:X0 H b=some old) (hro:old.isRom=false) (hrn:new.isRom=false) (hF:F b=some t)
  (h1:w'.os=w.os) (h2:w'.tape=w.tape) (h3:w'.output=w.output) (h4:w'.heap.size=w.heap.size) (h5:∀ k,k≠t.blk->w'.heap[k]? = w.heap[k]?) (hn:BR F t new w'):
  U5 F H nx w F (hs H b (some new)) nx w':=by
 have hget:∀ i,X0 (hs H b (some new)) i=if i=b then some new else X0 H i:=fun i=>W7 H b i _
 have conv:∀ i bi,X0 (hs H b (some new)) i=some bi->∃ bi',X0 H i=some bi'/\bi'.isRom=bi.isRom:=by
  intro i bi hgi
  rw[hget i] at hgi
  by_cases e:i=b
  .subst e;rw[if_pos rfl] at hgi;cases hgi;exact⟨old,hg,by rw[hro,hrn]⟩
  .rw[if_neg e] at hgi;exact⟨bi,hgi,rfl⟩
 refine⟨Nat.le_refl _,fun _ _=>rfl,h1,h2,h3,by omega,?_,?_,?_,?_,?_⟩
 .intro k hk hno
  refine h5 k (fun e=>hno ⟨b,old,t,hb,hg,hro,hF,e.symm⟩)
 .rintro k ⟨i,kb,ti,hi,hgi,hrk,hFi,rfl⟩
  obtain⟨bi',g1,g2⟩:=conv i kb hgi
  exact .inl ⟨i,bi',ti,hi,g1,g2.trans hrk,hFi,rfl⟩
 .intro i hi hnone
  rw[hget i]
  by_cases e:i=b
  .subst e;rw[hg] at hnone;cases hnone
  .rw[if_neg e];exact hnone
 .intro i bi hgi hrb
  rw[hget i] at hgi
  by_cases e:i=b
  .subst e;rw[if_pos rfl] at hgi;cases hgi;rw[hrn] at hrb;cases hrb
  .rw[if_neg e] at hgi;exact⟨hr.low hgi,hgi⟩
 .refine⟨?_,?_,hr.fresh,fun i hi=>by rw[hget,if_neg (by omega)];exact hr.top i hi,hr.gl.step (fun k hk hno=>h5 k (fun e=>hno ⟨b,old,t,hb,hg,hro,hF,e.symm⟩)) (by
   rintro k ⟨i,kb,ti,hi,hgi,hrk,hFi,rfl⟩
   obtain⟨bi',g1,g2⟩:=conv i kb hgi
   exact .inl ⟨i,bi',ti,hi,g1,g2.trans hrk,hFi,rfl⟩)⟩
  .intro i kb hi hgi
   rw[hget i] at hgi
   by_cases e:i=b
   .subst e;rw[if_pos rfl] at hgi;cases hgi;exact⟨t,hF,hn⟩
   .rw[if_neg e] at hgi
    obtain⟨ti,hFi,hbr⟩:=hr.blk i kb hi hgi
    refine⟨ti,hFi,hbr.mono (fun _ _ h=>h) (h5 _ (fun e2 => ?_))⟩
    rcases hr.inj i b kb old ti t hi hb hgi hg hFi hF e2 with h | h
    .exact e h
    .rw[hro] at h;cases h.2
  .intro i j bi bj ti tj hi hj hgi hgj hFi hFj e
   obtain⟨bi',hgi',ri⟩:=conv i bi hgi
   obtain⟨bj',hgj',rj⟩:=conv j bj hgj
   rw[<- ri,<- rj]
   exact hr.inj i j bi' bj' ti tj hi hj hgi' hgj' hFi hFj e
theorem U5.kill (hr:HR F H nx w) (hb:b<nx):U5 F H nx w F (hs H b none) nx w:=by
 have hget:∀ i,X0 (hs H b none) i=if i=b then none else X0 H i:=fun i=>W7 H b i _
 have back:∀ i bi,X0 (hs H b none) i=some bi->X0 H i=some bi:=by
  intro i bi hgi
  rw[hget i] at hgi
  by_cases e:i=b
  .simp[e] at hgi
  .rwa [if_neg e] at hgi
 refine⟨Nat.le_refl _,fun _ _=>rfl,rfl,rfl,rfl,Nat.le_refl _,fun _ _ _=>rfl,?_,?_,fun i bi hgi _=>⟨hr.low (back i bi hgi),back i bi hgi⟩,?_⟩
 .rintro k ⟨i,kb,ti,hi,hgi,hrk,hFi,rfl⟩
  exact .inl ⟨i,kb,ti,hi,back i kb hgi,hrk,hFi,rfl⟩
 .intro i hi hnone
  rw[hget i]
  by_cases e:i=b<;>simp[e,hnone]
 .refine⟨fun i kb hi hgi=>hr.blk i kb hi (back i kb hgi),?_,hr.fresh,fun i hi=>by rw[hget,if_neg (by omega)];exact hr.top i hi,hr.gl.step (fun _ _ _=>rfl) (by
   rintro k ⟨i,kb,ti,hi,hgi,hrk,hFi,rfl⟩
   exact .inl ⟨i,kb,ti,hi,back i kb hgi,hrk,hFi,rfl⟩)⟩
  intro i j bi bj ti tj hi hj hgi hgj hFi hFj e
  exact hr.inj i j bi bj ti tj hi hj (back i bi hgi) (back j bj hgj) hFi hFj e
theorem HR.name (hr:HR F H nx w) {new:V4} (hrn:new.isRom=false)
  (h5:∀ k,k≠t.blk->k<w.heap.size->w'.heap[k]? = w.heap[k]?) (hno:¬ E74 F H nx t.blk) (hn:BR (upd F nx t) t new w') (hgl:∀ x ∈ C61,x.1≠t.blk):
  HR (upd F nx t) (hs H nx (some new)) (nx+1) w'/\(∀ i,i<nx->X0 H i=none->X0 (hs H nx (some new)) i=none) /\
   (∀ k,Own (upd F nx t) (hs H nx (some new)) (nx+1) k->Own F H nx k\/k=t.blk) /\
   (∀ i b,X0 (hs H nx (some new)) i=some b->b.isRom=true->i<nx/\X0 H i=some b):=by
 have hfresh:F nx=none:=hr.fresh nx (Nat.le_refl _)
 have hle:=N30 hfresh t
 have hget:∀ i,X0 (hs H nx (some new)) i=if i=nx then some new else X0 H i:=fun i=>W7 H nx i _
 have hback:∀ i,i<nx+1->i≠nx->i<nx:=fun i h e=>by omega
 have own3:∀ k,Own (upd F nx t) (hs H nx (some new)) (nx+1) k->Own F H nx k\/k=t.blk:=by
  rintro k ⟨i,kb,ti,hi,hgi,hrk,hFi,rfl⟩
  rw[hget i] at hgi
  by_cases e:i=nx
  .subst e;rw[R10] at hFi;cases hFi;exact .inr rfl
  .rw[if_neg e] at hgi;rw[N10 F t e] at hFi
   exact .inl ⟨i,kb,ti,hback i hi e,hgi,hrk,hFi,rfl⟩
 refine⟨⟨?_,?_,?_,fun i hi=>by rw[hget,if_neg (by omega)];exact hr.top i (by omega),⟨hr.gl.1.step fun x hx=>h5 _ (hgl x hx) (hr.gl.1 x hx).1,fun x hx ho=>(own3 _ ho).elim (hr.gl.2 x hx) (hgl x hx)⟩⟩,?_,own3,?_⟩
 .intro i kb hi hgi
  rw[hget i] at hgi
  by_cases e:i=nx
  .subst e;rw[if_pos rfl] at hgi;cases hgi;exact⟨t,R10 _ _ _,hn⟩
  .rw[if_neg e] at hgi
   obtain⟨ti,hFi,hbr⟩:=hr.blk i kb (hback i hi e) hgi
   refine⟨ti,by rw[N10 F t e];exact hFi,hbr.mono hle (h5 _ (fun e2=>hno ⟨i,kb,ti,hback i hi e,hgi,hFi,e2⟩) hbr.lt)⟩
 .intro i j bi bj ti tj hi hj hgi hgj hFi hFj e
  rw[hget i] at hgi;rw[hget j] at hgj
  by_cases ei:i=nx<;>by_cases ej:j=nx
  .exact .inl (by rw[ei,ej])
  .exfalso
   subst ei
   rw[R10] at hFi;cases hFi
   rw[if_neg ej] at hgj;rw[N10 F t ej] at hFj
   exact hno ⟨j,bj,tj,hback j hj ej,hgj,hFj,e.symm⟩
  .exfalso
   subst ej
   rw[R10] at hFj;cases hFj
   rw[if_neg ei] at hgi;rw[N10 F t ei] at hFi
   exact hno ⟨i,bi,ti,hback i hi ei,hgi,hFi,e⟩
  .rw[if_neg ei] at hgi;rw[if_neg ej] at hgj;rw[N10 F t ei] at hFi;rw[N10 F t ej] at hFj
   exact hr.inj i j bi bj ti tj (hback i hi ei) (hback j hj ej) hgi hgj hFi hFj e
 .intro i hi
  rw[N10 F t (by omega)];exact hr.fresh i (by omega)
 .intro i hi hnone
  rw[hget i,if_neg (by omega)];exact hnone
 .intro i bi hgi hrb
  rw[hget i] at hgi
  by_cases e:i=nx
  .subst e;rw[if_pos rfl] at hgi;cases hgi;rw[hrn] at hrb;cases hrb
  .rw[if_neg e] at hgi;exact⟨hr.low hgi,hgi⟩
theorem U5.name {F:FM} {H:Y0} {nx:Nat} {w w':World} (hr:HR F H nx w) {new:V4} (hrn:new.isRom=false) {t:Tgt}
  (h1:w'.os=w.os) (h2:w'.tape=w.tape) (h3:w'.output=w.output) (h4:w.heap.size<=w'.heap.size) (h5:∀ k,k<w.heap.size->w'.heap[k]? = w.heap[k]?)
  (hn:BR (upd F nx t) t new w') (hfr:w.heap.size<=t.blk):
  U5 F H nx w (upd F nx t) (hs H nx (some new)) (nx+1) w':=by
 have hno:¬ E74 F H nx t.blk:=by
  rintro⟨i,kb,u,hi,hg,hF,e⟩
  obtain⟨u',hF',hbr⟩:=hr.blk i kb hi hg
  rw[hF] at hF';cases hF'
  have:=hbr.lt
  omega
 obtain⟨g1,g2,g3,g4⟩:=hr.name hrn (fun k _ hk=>h5 k hk) hno hn (fun x hx e=>by have:=(hr.gl.1 x hx).1;omega)
 exact⟨by omega,fun i hi=>N10 F t (by omega),h1,h2,h3,h4,fun k hk _=>h5 k hk,fun k hk=>(g3 k hk).imp id (fun e=>by omega),g2,g4,g1⟩
theorem U5.rename (hr:HR F H nx w) {new:V4} {t':Tgt} (hg:X0 H b=some old) (hro:old.isRom=false) (hrn:new.isRom=false) (hF:F b=some t) (ht:t'.blk=t.blk)
  (h1:w'.os=w.os) (h2:w'.tape=w.tape) (h3:w'.output=w.output) (h4:w.heap.size<=w'.heap.size) (h5:∀ k,k≠t.blk->k<w.heap.size->w'.heap[k]? = w.heap[k]?)
  (hn:BR (upd F nx t') t' new w'):
  U5 F H nx w (upd F nx t') (hs (hs H b none) nx (some new)) (nx+1) w':=by
 have hb:b<nx:=hr.hb.lt hF
 have hk:=U5.kill hr hb
 have hno:¬ E74 F (hs H b none) nx t'.blk:=by
  rintro⟨i,kb,u,hi,hgi,hFi,e⟩
  rw[W7] at hgi
  by_cases ei:i=b
  .simp[ei] at hgi
  .rw[if_neg ei] at hgi
   rcases hr.inj i b kb old u t hi hb hgi hg hFi hF (by omega) with h | h
   .exact ei h
   .rw[hro] at h;cases h.2
 obtain⟨g1,g2,g3,g4⟩:=hk.hr.name hrn (fun k hk hk2=>h5 k (by omega) hk2) hno hn (fun x hx e=>hr.gl.2 x hx ⟨b,old,t,hb,hg,hro,hF,by omega⟩)
 refine⟨by omega,fun i hi=>N10 F t' (by omega),h1,h2,h3,h4,?_,?_,?_,fun i bi hgi hrb=>hk.rom i bi (g4 i bi hgi hrb).2 hrb,g1⟩
 .intro k hk hno
  exact h5 k (fun e=>hno ⟨b,old,t,hb,hg,hro,hF,e.symm⟩) hk
 .intro k hk2
  rcases g3 k hk2 with h | h
  .exact hk.own k h
  .exact .inl ⟨b,old,t,hb,hg,hro,hF,by omega⟩
 .intro i hi hnone
  exact g2 i hi (hk.keep i hi hnone)
theorem N21 (w:World) (obj:Obj) (k:Nat) (h:k<w.heap.size):(w.alloc obj).heap[k]? = w.heap[k]? := RowKit.Below.heap_alloc w obj k h
theorem G26 (w:World) (obj:Obj):(w.alloc obj).heap[w.heap.size]? = some obj:=by
 show (w.heap.push obj)[w.heap.size]? = some obj
 simp
theorem U5.new (hr:HR F H nx w) {b:V4} {obj:Obj} (hn:K72 F b obj):
  ∃ t,t.blk=w.heap.size/\t.base=0/\U5 F H nx w (upd F nx t) (hs H nx (some b)) (nx+1) (w.alloc obj):=by
 have hfresh:F nx=none:=hr.fresh nx (Nat.le_refl _)
 cases b with
 | cells c sl=>
  obtain⟨rfl,c',e,rfl,hvl⟩:=hn
  refine⟨⟨w.heap.size,0,c.length,0,c'.size⟩,rfl,rfl,U5.name hr rfl rfl rfl rfl (by simp) (fun k hk=>N21 w _ k hk) ?_ (Nat.le_refl _)⟩
  refine⟨c',e,G26 w _,rfl,rfl,rfl,by have:=hvl.length;simp at this;simp[this],?_⟩
  have hl:=hvl.length
  simp only[List.drop_zero]
  rw[List.take_of_length_le (by omega)]
  exact hvl.mono (N30 hfresh _)
 | map es k=>
  obtain⟨rfl,rfl⟩:=hn
  refine⟨⟨w.heap.size,0,0,0,0⟩,rfl,rfl,U5.name hr rfl rfl rfl rfl (by simp) (fun k hk=>N21 w _ k hk) ?_ (Nat.le_refl _)⟩
  exact⟨rfl,#[],G26 w _,.nil⟩
 | rom c=>exact hn.elim
theorem B0.vr (h:F q=some t) (hb:t.base=0) (y:B0):VR F (y.val q) (y.real t.blk):=by
 cases y with
 | ptr=>have:=VR.ptr (o:=0) h;rw[hb] at this;exact this
 | slice l c=>have:=VR.slice (o:=0) (n:=l) (c:=c) (c':=c) h (.inl rfl);rw[hb] at this;exact this
 | map=>exact VR.map h
theorem Y59 {α:Type} (L vs:List α) (base o n:Nat) (h:o+vs.length<=n) (h2:base+n<=L.length):
  ((L.take (base+o)++vs++L.drop (base+o+vs.length)).drop base).take n=((L.drop base).take n).take o++vs++((L.drop base).take n).drop (o+vs.length):=by
 apply List.ext_getElem?
 intro j
 have e1:min (base+o) L.length=base+o:=by omega
 have e2:min o (min n (L.length-base))=o:=by omega
 simp only[List.getElem?_take,List.getElem?_drop,List.getElem?_append,List.length_append,List.length_take,List.length_drop,e1,e2]
 by_cases hj:j<n
 .by_cases h3:j<o
  .have a1:base+j<base+o+vs.length:=by omega
   have a2:base+j<base+o:=by omega
   have a3:j<o+vs.length:=by omega
   simp[hj,h3,a1,a3]
  .by_cases h4:j<o+vs.length
   .have a1:base+j<base+o+vs.length:=by omega
    have a2:¬ base+j<base+o:=by omega
    have a3:base+j-(base+o)=j-o:=by omega
    simp[hj,h3,h4,a1,a3]
   .have a1:¬ base+j<base+o+vs.length:=by omega
    have a3:base+o+vs.length+(base+j-(base+o+vs.length))=base+(o+vs.length+(j-(o+vs.length))):=by omega
    have a4:o+vs.length+(j-(o+vs.length))<n:=by omega
    simp[hj,h4,a1,a3,a4]
 .have a1:¬ j<o:=by omega
  have a2:¬ j<o+vs.length:=by omega
  have a3:¬ o+vs.length+(j-(o+vs.length))<n:=by omega
  simp[hj,a2,a3]
theorem Z23 {l l':List Value} (h:VL F l l') (h1:Z0 l=true):∀ v ∈ l',v.oneCell'=true:=by
 induction h with
 | nil=>intro v hv;cases hv
 | cons hv _ ih=>
  intro u hu
  rcases List.mem_cons.1 hu with rfl | hu
  .cases hv<;>first | rfl | (simp[Z0] at h1;done)
  .refine ih ?_ u hu
   cases hv<;>first | exact h1 | (simp[Z0] at h1;done)
theorem J32 {β:Type} {F:FM} {H:Y0} {nx:Nat} {b o':Nat} {vs:List Value} (s':Option Nat) (z:β) (k:Y0->β):
  Q18 H ⟨b,o',s'⟩ vs z k=z\/∃ H',Q18 H ⟨b,o',s'⟩ vs z k=k H'/\∀ (F:FM) (P:Program) (w:World) (t:Tgt) (vs':List Value),HR F H nx w->F b=some t->VL F vs vs'->(∀ v ∈ vs',v.oneCell'=true) ->
   ∃ w',(storeCells ⟨t.blk,t.base+o',none⟩ vs').run P w = .ok () w'/\U5 F H nx w F H' nx w':=by
 unfold Q18
 cases s' with
 | some q=>exact .inl rfl
 | none=>
  dsimp only
  rw[W6]
  cases hg:X0 H b with
  | none=>exact .inl rfl
  | some blk=>
   cases blk with
   | map es c=>exact .inl rfl
   | rom c=>exact .inl rfl
   | cells c sl=>
    dsimp only[Option.elim_some]
    cases hb:Nat.ble (o'+vs.length) c.length with
    | false=>exact .inl rfl
    | true=>
     dsimp only[cond_true]
     rw[E3,Y8]
     refine .inr ⟨_,rfl,fun F P w t vs' hr hF hvl hone => ?_⟩
     have hle:o'+vs.length<=c.length:=Nat.le_of_ble_eq_true hb
     have hbn:=hr.hb.lt hF
     obtain⟨c',e,h1,h2,h3,h4,h5,h6⟩:=hr.hb.get hF hg
     have hvlen:=hvl.length
     have hrun:=run_storeCells_at P t.blk (t.base+o') e vs' 0 c' w h1 (by simp only[Nat.add_zero];omega) hone
     refine⟨_,hrun,U5.update hr hbn hg rfl rfl hF rfl rfl rfl (by simp) (fun k hk=>setRow_other w _ k _ hk) ?_⟩
     refine⟨_,e,setRow_heap w t.blk c' _ e (0,0) h1,?_,?_,h4,?_,?_⟩
     .simp;omega
     .simp;omega
     .simp;omega
     .have e1:(c.take o'++vs++c.drop (o'+vs.length)).length=c.length:=by simp;omega
      rw[e1]
      simp only[Nat.add_zero]
      have hcl:c'.toList.length=c'.size:=by simp
      rw[Y59 c'.toList vs' t.base o' c.length (by omega) (by omega)]
      rw[<- hvlen]
      exact ((h6.take o').append hvl).append (h6.drop _)
end Go.Clo
