/-
  Plain: renaming the free variables;which orders the reference accepts.
  Maps from int to values.
  Contracts: the reference's neighbors and Accepts (from l33's C2 and C3).
-/
import Derived.Test.YtoiioigihocgbaaGreatDoorN20
import Derived.Test.YtoiioigihocgbaaGreatDoorN15
import Derived.Test.YtoiioigihocgbaaGreatDoorN16
import Derived.Test.YtoiioigihocgbaaGreatDoorN17
import Derived.Test.YtoiioigihocgbaaGreatDoorN21
set_option linter.all false
noncomputable section
namespace Go.Proofs.YtoiioigihocgbaaGreatDoor
open Go.Clo Go.Inv
variable {a b f n v:Nat} {es p:List Nat}
structure RnE (σ τ:Nat->Nat) (es es':List Nat):Prop where
 l:∀ v,σ (τ v)=v
 r:∀ v,τ (σ v)=v
 a:∀ e ∈ es,∃ e' ∈ es',∀ w,e'.testBit w=e.testBit (σ w)
 b:∀ e' ∈ es',∃ e ∈ es,∀ w,e'.testBit w=e.testBit (σ w)
section
variable {σ τ:Nat->Nat} {es es':List Nat} (h:RnE σ τ es es')
include h
theorem RnE.symm:RnE τ σ es' es:=
 ⟨h.r,h.l,fun e' E=>by
  obtain⟨e,h1,h2⟩:=h.b e' E;exact⟨e,h1,fun w=>by rw[h2,h.l]⟩,fun e he=>by
  obtain⟨e',h1,h2⟩:=h.a e he;exact⟨e',h1,fun w=>by rw[h2,h.l]⟩⟩
theorem RnE.inj(e:σ a=σ b):a=b:=by rw[<- h.r a,e,h.r]
theorem RnE.cov:U6 es' v<->U6 es (σ v):=by
 constructor
 .rintro⟨e',h1,h2⟩
  obtain⟨e,h3,h4⟩:=h.b e' h1;exact⟨e,h3,by rw[<- h4];exact h2⟩
 .rintro⟨e,h1,h2⟩
  obtain⟨e',h3,h4⟩:=h.a e h1;exact⟨e',h3,by rw[h4];exact h2⟩
theorem RnE.adj:V3 es' a b<->V3 es (σ a) (σ b):=by
 constructor
 .rintro⟨E,e',h1,h2,h3⟩
  obtain⟨e,h4,h5⟩:=h.b e' h1;exact⟨fun e=>E (h.inj e),e,h4,by rw[<- h5];exact h2,by rw[<- h5];exact h3⟩
 .rintro⟨E,e,h1,h2,h3⟩
  obtain⟨e',h4,h5⟩:=h.a e h1;exact⟨fun e=>E (by rw[e]),e',h4,by rw[h5];exact h2,by rw[h5];exact h3⟩
theorem RnE.pel:∀{l:List Nat},D6 es' l->D6 es (l.map σ)
 | [],_=>trivial
 | v :: r,g=>by
  refine⟨fun hc => ?_,RnE.pel g.2⟩;obtain⟨e',h1,h2,h3⟩:=g.1 (h.cov.2 hc);obtain⟨e,h4,h5⟩:=h.b e' h1;refine⟨e,h4,by rw[<- h5];exact h2,fun w hw ha => ?_⟩;obtain⟨u,hu,rfl⟩:=List.mem_map.1 hw;rw[<- h5];exact h3 u hu (h.adj.2 ha)
theorem RnE.pe1(g:PE es'):PE es:=by
 obtain⟨l,h1,h2⟩:=g;refine⟨l.map σ,fun v hv => ?_,h.pel h2⟩;have:=h1 (τ v) (h.cov.2 (by rw[h.l];exact hv));exact List.mem_map.2 ⟨τ v,this,h.l v⟩
theorem RnE.pe:PE es'<->PE es:=⟨h.pe1,h.symm.pe1⟩
theorem RnE.free1(hf:∀ v,σ v<f<->v<f)(hn:∀ v,σ v<n<->v<n){l:List Nat}(g:V28 (V3 es') n f l):V28 (V3 es) n f (l.map σ):=by
 have key:∀(i x:Nat),(l.map σ)[i]? = some x->∃ y,l[i]? = some y/\σ y=x:=fun i x hx=>by
  rw[List.getElem?_map,Option.map_eq_some_iff] at hx;exact hx
 refine⟨by rw[List.length_map];exact g.len,fun i j x y E hx hy => ?_,fun i x hx => ?_,fun i x hx => ?_⟩
 .obtain⟨u,hu,rfl⟩:=key i x hx
  obtain⟨w,hw,rfl⟩:=key j y hy;obtain⟨h1,h2⟩:=g.ch i j u w E hu hw;exact⟨fun e=>h1 (h.inj e),by rw[<- h.adj];exact h2⟩
 .obtain⟨u,hu,rfl⟩:=key i x hx
  exact(hn u).2 (g.lt i u hu)
 .obtain⟨u,hu,rfl⟩:=key i x hx
  rw[List.length_map,hf u];exact g.ends i u hu
theorem RnE.fpth(hf:∀ v,σ v<f<->v<f)(hn:∀ v,σ v<n<->v<n):J13 (V3 es') n f []<->J13 (V3 es) n f []:=by
 rw[V19,V19]
 constructor
 .rintro⟨l,g⟩;exact⟨_,h.free1 hf hn g⟩
 .rintro⟨l,g⟩
  exact⟨_,h.symm.free1 (fun v=>by rw[<- hf (τ v),h.l]) (fun v=>by rw[<- hn (τ v),h.l]) g⟩
end
def B13(e:Nat):Nat->Nat
 | 0=>e
 | k+1=>Z2 (B13 e k) (2^k)
def Q12(e:Nat)(p:List Nat)(m:Nat):Nat->Nat
 | 0=>m
 | k+1=>if e.testBit (p.getD k 0) then Q12 e p m k ||| 2^k else Q12 e p m k
def N46(p:List Nat)(e:Nat):Nat:=Q12 e p (B13 e p.length) p.length
def V7(es p:List Nat):List Nat:=es.map (N46 p)
theorem X47(e w:Nat):∀ k,(B13 e k).testBit w=(e.testBit w&&decide (k<=w))
 | 0=>by simp[B13]
 | k+1=>by
  rw[B13,N1,X47 e w k,Nat.testBit_two_pow]
  by_cases h1:k=w
  .subst h1;simp
  .by_cases h2:k<=w
   .have h3:k+1<=w:=by omega
    simp[h1,h2,h3]
   .have h3:¬ k+1<=w:=by omega
    simp[h2,h3]
theorem U31(e:Nat)(p:List Nat)(m w:Nat):∀ k,(Q12 e p m k).testBit w=(m.testBit w || (decide (w<k)&&e.testBit (p.getD w 0)))
 | 0=>by simp[Q12]
 | k+1=>by
  rw[Q12]
  split
  .rename_i h
   rw[Nat.testBit_or,U31 e p m w k,Nat.testBit_two_pow]
   by_cases h1:k=w
   .subst h1;rw[h];simp
   .by_cases h2:w<k
    .have h3:w<k+1:=by omega
     simp[h1,h2,h3]
    .have h3:¬ w<k+1:=by omega
     simp[h1,h2,h3]
  .rename_i h
   rw[U31 e p m w k]
   by_cases h1:k=w
   .subst h1;simp at h;simp[h]
   .by_cases h2:w<k
    .have h3:w<k+1:=by omega
     simp[h2,h3]
    .have h3:¬ w<k+1:=by omega
     simp[h2,h3]
theorem E24(p:List Nat)(e w:Nat):(N46 p e).testBit w=e.testBit (if w<p.length then p.getD w 0 else w):=by
 unfold N46;rw[U31,X47]
 by_cases h:w<p.length
 .rw[if_pos h]
  have h2:¬ p.length<=w:=by omega
  simp[h,h2]
 .rw[if_neg h]
  have h2:p.length<=w:=by omega
  simp[h,h2]
theorem V45(es p:List Nat):(V7 es p).length=es.length:=by simp[V7]
structure IsF (f:Nat) (p:List Nat):Prop where
 nd:p.Nodup
 lt:∀ x ∈ p,x<f
 len:p.length=f
theorem IsF.all(h:IsF f p)(hv:v<f):v ∈ p:=Classical.byContradiction fun hn=>by
 have h1:(v :: p).Nodup:=List.nodup_cons.2 ⟨hn,h.nd⟩;have h2:=List.Nodup.length_le_of_subset (l₂:=List.range f) h1 fun x hx=>by
  rw[List.mem_range];rcases List.mem_cons.1 hx with rfl | hx
  .exact hv
  .exact h.lt x hx
 rw[List.length_range,List.length_cons,h.len] at h2;omega
def sgm(p:List Nat)(v:Nat):Nat:=if v<p.length then p.getD v 0 else v
open Classical in
def tau(p:List Nat)(v:Nat):Nat:=if h:∃ u,u<p.length/\p.getD u 0=v then h.choose else v
section
variable {f n:Nat} {p:List Nat} (h:IsF f p)
include h
theorem IsF.at{u:Nat}(hu:u<f):p[u]? = some (p.getD u 0)/\p.getD u 0<f:=by
 have hl:=h.len;have e:p[u]? = some p[u]:=List.getElem?_eq_getElem (by omega);have e2:p.getD u 0=p[u]:=by rw[List.getD_eq_getElem?_getD,e];rfl
 exact⟨by rw[e2];exact e,by rw[e2];exact h.lt _ (List.getElem_mem _)⟩
theorem IsF.sgm_lt(v:Nat):sgm p v<f<->v<f:=by
 unfold sgm;rw[h.len]
 split
 .rename_i hv;exact⟨fun _=>hv,fun _=>(h.at hv).2⟩
 .exact Iff.rfl
theorem IsF.sgm_n(hf:f<=n)(v:Nat):sgm p v<n<->v<n:=by
 by_cases hv:v<f
 .have:=(h.sgm_lt v).2 hv
  omega
 .unfold sgm
  rw[h.len,if_neg hv]
theorem IsF.ren(es:List Nat):RnE (sgm p) (tau p) es (V7 es p):=by
 refine⟨fun v => ?_,fun v => ?_,fun e he=>⟨N46 p e,List.mem_map.2 ⟨e,he,rfl⟩,fun w=>E24 p e w⟩,fun e' J => ?_⟩
 .unfold tau
  by_cases hx:∃ u,u<p.length/\p.getD u 0=v
  .rw[dif_pos hx]
   unfold sgm;rw[if_pos hx.choose_spec.1];exact hx.choose_spec.2
  .rw[dif_neg hx]
   have hv:¬ v<f:=fun hv=>by
    obtain⟨u,hu⟩:=List.getElem?_of_mem (h.all hv);have E:=(List.getElem?_eq_some_iff.1 hu).1;exact hx ⟨u,E,by rw[List.getD_eq_getElem?_getD,hu];rfl⟩
   unfold sgm;rw[h.len,if_neg hv]
 .unfold tau
  by_cases hv:v<f
  .have hs:sgm p v=p.getD v 0:=by unfold sgm;rw[h.len,if_pos hv]
   have hx:∃ u,u<p.length/\p.getD u 0=sgm p v:=⟨v,by rw[h.len];exact hv,hs.symm⟩
   rw[dif_pos hx];have h1:=hx.choose_spec;have h2:=(h.at (u:=hx.choose) (by rw[<- h.len];exact h1.1)).1;exact B43 h.nd (h2.trans (congrArg some (h1.2.trans hs))) (h.at hv).1
  .have hs:sgm p v=v:=by unfold sgm;rw[h.len,if_neg hv]
   rw[hs];have hx:¬ ∃ u,u<p.length/\p.getD u 0=v:=fun⟨u,h1,h2⟩=>hv (by rw[<- h2];exact(h.at (u:=u) (by rw[<- h.len];exact h1)).2)
   rw[dif_neg hx]
 .obtain⟨e,he,rfl⟩:=List.mem_map.1 J
  exact⟨e,he,fun w=>E24 p e w⟩
theorem IsF.trio:D53 (V7 es p) f<->¬ M24 (G12 es) p:=by
 have hR:=h.ren es
 have hs:∀ {v:Nat},v<f->sgm p v=p.getD v 0:=fun {v} hv=>by unfold sgm;rw[h.len,if_pos hv]
 constructor
 .rintro⟨a,b,c,hab,hbc,hcf,h1,h2,h3⟩ hg
  rw[hR.adj,hs (by omega),hs hcf] at h1 h2
  rw[hR.adj,hs (by omega),hs (by omega)] at h3
  obtain⟨ga,_⟩:=h.at (u:=a) (by omega)
  obtain⟨gb,_⟩:=h.at (u:=b) (by omega)
  obtain⟨gc,_⟩:=h.at (u:=c) hcf
  have hcl:=(List.getElem?_eq_some_iff.1 gc).1
  have hsp:p=p.take c++p.getD c 0 :: p.drop (c+1):=by
   rw[<- Z19 gc,List.take_append_drop]
  have mem:∀ {i:Nat},i<c->p[i]? = some (p.getD i 0)->p.getD i 0 ∈ p.take c:=fun {i} hi g=>by
   refine List.mem_of_getElem? (i:=i) ?_
   rw[List.getElem?_take,if_pos hi];exact g
  refine h3 (hg _ _ _ hsp _ (mem (by omega) ga) _ (mem hbc gb) (fun e => ?_) h1.symm h2.symm)
  rw[e] at ga
  have:=B43 h.nd ga gb
  omega
 .intro hg
  refine Classical.byContradiction fun hn=>hg fun p1 v p2 e x hx y hy hne h1 h2 => ?_
  have hlen:=h.len
  rw[e,List.length_append,List.length_cons] at hlen
  have hv:p[p1.length]? = some v:=by rw[e];simp
  have hvD:p.getD p1.length 0=v:=by rw[List.getD_eq_getElem?_getD,hv];rfl
  obtain⟨i,hi⟩:=List.getElem?_of_mem hx
  obtain⟨j,hj⟩:=List.getElem?_of_mem hy
  have hil:=(List.getElem?_eq_some_iff.1 hi).1
  have hjl:=(List.getElem?_eq_some_iff.1 hj).1
  have dI:∀ {i x:Nat},i<p1.length->p1[i]? = some x->p.getD i 0=x:=fun {i x} hil hi=>by
   rw[List.getD_eq_getElem?_getD,e,List.getElem?_append_left hil,hi];rfl
  have di:=dI hil hi
  have dj:=dI hjl hj
  refine Classical.byContradiction fun hna=>hn ?_
  rcases Nat.lt_trichotomy i j with hij | hij | hij
  .refine⟨i,j,p1.length,hij,hjl,by omega,?_,?_,?_⟩
   .rw[hR.adj,hs (by omega),hs (by omega),di,hvD];exact h1.symm
   .rw[hR.adj,hs (by omega),hs (by omega),dj,hvD];exact h2.symm
   .rw[hR.adj,hs (by omega),hs (by omega),di,dj];exact hna
  .subst hij
   rw[hi] at hj;cases hj
   exact absurd rfl hne
  .refine⟨j,i,p1.length,hij,hil,by omega,?_,?_,?_⟩
   .rw[hR.adj,hs (by omega),hs (by omega),dj,hvD];exact h2.symm
   .rw[hR.adj,hs (by omega),hs (by omega),di,hvD];exact h1.symm
   .rw[hR.adj,hs (by omega),hs (by omega),di,dj];exact fun g=>hna g.symm
end
def J12(es:List Nat)(n f:Nat):Prop:=PE es/\¬ J13 (V3 es) n f []/\¬ D53 es f
theorem E51 (hf:f<=n) (h:IsF f p):J12 (V7 es p) n f<->(PE es/\¬ J13 (V3 es) n f [])/\M24 (G12 es) p:=by
 have hR:=h.ren es
 unfold J12
 rw[hR.pe,hR.fpth h.sgm_lt (h.sgm_n hf),h.trio,Classical.not_not,and_assoc]
def J15(es:List Nat)(n f:Nat):Option (List Nat):=nr f (fun q=>J12 (V7 es q) n f) f [] none
theorem E38(hf:f<=n)(h:¬ (PE es/\¬ J13 (V3 es) n f [])):J15 es n f=none:=
 X36 f [] none List.nodup_nil (fun x hx=>by simp at hx) (by simp) fun r h1 h2 h3 h4=>h ((E51 hf ⟨h1,h2,h3⟩).1 h4).1
theorem Y67(hf:f<=n)(h:PE es/\¬ J13 (V3 es) n f []):pr f (G12 es) f [] none=J15 es n f:=
 R65 (fun q h1 h2 h3=>(E51 hf ⟨h1,h2,h3⟩).trans ⟨fun g=>g.2,fun g=>⟨h,g⟩⟩) f [] none List.nodup_nil (fun x hx=>by simp at hx) (by simp) B61
end Go.Proofs.YtoiioigihocgbaaGreatDoor

namespace Go.Clo
variable {H H':Y0} {M:Nat->Option Value} {r:Nat}
def D4(H:Y0)(r:Nat)(M:Nat->Option Value):Prop:=∃ es c,J0 H r=some (.map es c)/\(∀ x ∈ es,MapKept.IsKey (.int .i64) x.key) /\
 (∀(i j:Nat) (x y:MapEntry),es[i]? = some x->es[j]? = some y->x.key=y.key->i=j)/\∀(n:Nat) (v:Value),M n=some v<->∃ x ∈ es,x.key = .int .i64 (n:Int)/\x.val=v
theorem D4.same(h:D4 H r M)(e:J0 H' r=J0 H r):D4 H' r M:=by
 obtain⟨es,c,h1,h2,h3,h4⟩:=h;exact⟨es,c,by rw[e];exact h1,h2,h3,h4⟩
theorem D4.ext{nx:Nat}{nx':Nat}(h:D4 H r M)(hr:r<nx)(e:D0 H nx H' nx'):D4 H' r M:=h.same (e.get r hr)
theorem D4.congr{M':Nat->Option Value}(h:D4 H r M)(e:∀ n,M' n=M n):D4 H r M':=by rw[show M'=M from funext e];exact h
theorem D4.nil{c:Nat}(h:J0 H r=some (.map [] c)):D4 H r fun _=>none:=⟨[],c,h,by simp,by simp,by simp⟩
theorem D4.find{es:List MapEntry}{M:Nat->Option Value}(h2:∀ x ∈ es,MapKept.IsKey (.int .i64) x.key)(h3:∀(i j:Nat)(x y:MapEntry),es[i]? = some x->es[j]? = some y->x.key=y.key->i=j)
  (h4:∀(n:Nat)(v:Value),M n=some v<->∃ x ∈ es,x.key = .int .i64 (n:Int)/\x.val=v)(n:Nat):
  (M n=none/\Instr.findNow (.int .i64) (.int .i64 (n:Int)) es 0=some none/\∀ x ∈ es,x.key ≠ .int .i64 (n:Int))\/∃ j e,M n=some e.val/\Instr.findNow (.int .i64) (.int .i64 (n:Int)) es 0=some (some (j,e.val))/\es[j]? = some e/\e.key = .int .i64 (n:Int):=by
 rcases MapKept.findNow_spec (d := .int .i64) (k := .int .i64 (n:Int)) rfl es 0 h2 with ⟨h,hn⟩ | ⟨j,e,h,hj,hk⟩
 .refine .inl ⟨?_,h,hn⟩
  cases hM:M n with
  | none=>rfl
  | some v=>
   obtain⟨x,hx,E,_⟩:=(h4 n v).1 hM;exact absurd E (hn x hx)
 .refine .inr ⟨j,e,(h4 n _).2 ⟨e,List.mem_of_getElem? hj,hk,rfl⟩,?_,hj,hk⟩
  rw[h,Nat.zero_add]
theorem D4.lk{r:Nat}{M:Nat->Option Value}(h:D4 H r M)(n:Nat)(z:Value)(ok:Bool)(k:VP):
  wLk (.int .i64) z (.map (some r)) (.int .i64 (n:Int)) ok H k=(M n).elim (cond ok (k (.tuple ⟨[z,.bool false]⟩)) (k z)) fun v=>cond ok (k (.tuple ⟨[v,.bool true]⟩)) (k v):=by
 obtain⟨es,c,h1,h2,h3,h4⟩:=h;unfold wLk;rw[show Q9 (.int .i64) (.int .i64 (n:Int))=true from rfl];simp only[cond_true];rw[Y4,h1];simp only[Option.elim_some];rcases D4.find h2 h3 h4 n with ⟨hM,hf,_⟩ | ⟨j,e,hM,hf,_⟩
 .rw[hf,hM];rfl
 .rw[hf,hM];rfl
theorem D4.lkN'{M:Nat->Option Value}(h:D4 H r M){n:Nat}(hn:M n=none)(z:Value)(k:VP):wLk (.int .i64) z (.map (some r)) (.int .i64 (n:Int)) false H k=k z:=by
 rw[h.lk,hn];rfl
theorem D4.lkS'{M:Nat->Option Value}(h:D4 H r M){n:Nat}{v:Value}(hn:M n=some v)(z:Value)(k:VP):wLk (.int .i64) z (.map (some r)) (.int .i64 (n:Int)) false H k=k v:=by
 rw[h.lk,hn];rfl
theorem M31{n m:Nat}(h:Value.int .i64 (n:Int) = .int .i64 (m:Int)):n=m:=by
 injection h with _ h;omega
theorem D4.put{nx r:Nat}{M:Nat->Option Value}(h:D4 H r M)(n:Nat)(v:Value){k:EP}(hk:∀ es c,D4 (hs H r (some (.map es c))) r (fun t=>if t=n then some v else M t)->k undef (hs H r (some (.map es c))) nx):
  W56 (.int .i64) (.map (some r)) (.int .i64 (n:Int)) v H nx k:=by
 obtain⟨es,c,h1,h2,h3,h4⟩:=h;unfold W56;dsimp only;rw[Y4,h1];simp only[Option.elim_some,G52];rw[show Q9 (.int .i64) (.int .i64 (n:Int))=true from rfl];rcases D4.find h2 h3 h4 n with ⟨hM,hf,V⟩ | ⟨j,e,hM,hf,hj,U⟩
 .rw[hf]
  simp only[cond_true];rw[V2,G1,G4];refine hk _ _ ⟨_,_,E0 _ _ _,?_,?_,fun t u => ?_⟩
  .intro x hx
   rcases List.mem_append.1 hx with hx | hx
   .exact h2 x hx
   .rw[List.mem_singleton.1 hx];rfl
  .intro i j x y hx hy O
   rw[List.getElem?_append] at hx hy
   split at hx<;>split at hy
   .exact h3 i j x y hx hy O
   .have a0:y={ key := .int .i64 (n:Int),val:=v,born:=c }:=by
     have:=List.mem_of_getElem? hy;simpa using this
    rw[a0] at O;exact absurd O (V x (List.mem_of_getElem? hx))
   .have Z:x={ key := .int .i64 (n:Int),val:=v,born:=c }:=by
     have:=List.mem_of_getElem? hx;simpa using this
    rw[Z] at O;exact absurd O.symm (V y (List.mem_of_getElem? hy))
   .have h5:=(List.getElem?_eq_some_iff.1 hx).1
    have h6:=(List.getElem?_eq_some_iff.1 hy).1;simp at h5 h6;omega
  .by_cases Q:t=n
   .subst Q
    dsimp only;rw[if_pos rfl]
    constructor
    .intro hu
     cases hu
     exact⟨_,List.mem_append_right _ (List.mem_singleton.2 rfl),rfl,rfl⟩
    .rintro⟨x,hx,E,J⟩
     rcases List.mem_append.1 hx with hx | hx
     .exact absurd E (V x hx)
     .rw[List.mem_singleton.1 hx] at J
      rw[<- J]
   .dsimp only
    rw[if_neg Q,h4]
    constructor
    .rintro⟨x,hx,h⟩
     exact⟨x,List.mem_append_left _ hx,h⟩
    .rintro⟨x,hx,E,J⟩
     rcases List.mem_append.1 hx with hx | hx
     .exact⟨x,hx,E,J⟩
     .rw[List.mem_singleton.1 hx] at E
      exact absurd (M31 E).symm Q
 .rw[hf]
  simp only[cond_true];rw[Q8,hj];simp only;rw[V2,G4,K25];have W:=(List.getElem?_eq_some_iff.1 hj).1;refine hk _ _ ⟨_,_,E0 _ _ _,?_,?_,fun t u => ?_⟩
  .intro x hx
   rcases List.mem_or_eq_of_mem_set hx with hx | rfl
   .exact h2 x hx
   .rfl
  .intro i i' x y hx hy O
   rw[List.getElem?_set] at hx hy
   split at hx<;>split at hy
   .omega
   .rename_i g1 g2
    try rw[if_pos (by omega)] at hx
    cases hx
    have:=h3 j i' e y hj hy (U.trans O);omega
   .rename_i g1 g2
    try rw[if_pos (by omega)] at hy
    cases hy
    have:=h3 i j x e hx hj (O.trans U.symm);omega
   .exact h3 i i' x y hx hy O
  .by_cases Q:t=n
   .subst Q
    dsimp only;rw[if_pos rfl]
    constructor
    .intro hu
     cases hu
     exact⟨_,List.mem_set W _,rfl,rfl⟩
    .rintro⟨x,hx,E,J⟩
     obtain⟨i,hi⟩:=List.getElem?_of_mem hx;rw[List.getElem?_set] at hi
     split at hi
     .try rw[if_pos (by omega)] at hi
      cases hi
      rw[<- J]
     .rename_i g
      exact absurd (h3 j i e x hj hi (U.trans E.symm)) g
   .dsimp only
    rw[if_neg Q,h4]
    constructor
    .rintro⟨x,hx,E,J⟩
     obtain⟨i,hi⟩:=List.getElem?_of_mem hx;have a1:j≠i:=by
      rintro rfl;rw[hj] at hi
      cases hi
      exact Q (M31 (E.symm.trans U))
     refine⟨x,List.mem_of_getElem? (i:=i) ?_,E,J⟩;rw[List.getElem?_set,if_neg a1];exact hi
    .rintro⟨x,hx,E,J⟩
     obtain⟨i,hi⟩:=List.getElem?_of_mem hx;rw[List.getElem?_set] at hi
     split at hi
     .try rw[if_pos (by omega)] at hi
      cases hi
      exact absurd (M31 E).symm Q
     .exact⟨x,List.mem_of_getElem? hi,E,J⟩
theorem D4.clr(h:D4 H r M){k:Y0->Prop}(hk:∀ c,D4 (hs H r (some (.map [] c))) r (fun _=>none)->k (hs H r (some (.map [] c)))):M41 (.map (some r)) H k:=by
 obtain⟨es,c,h1,h2,h3,h4⟩:=h;unfold M41;dsimp only;rw[Y4,h1];simp only[Option.elim_some];rw[G4];exact hk _ (D4.nil (E0 _ _ _))
end Go.Clo

namespace Go.Proofs.YtoiioigihocgbaaGreatDoor
open Go.Clo
variable {N:Nb} {n v w:Nat} {rest:List Nat}
def C25(v m e:Nat):Nat:=if e.testBit v then m ||| e else m
def Z16(es:List Nat)(v:Nat):Nat:=es.foldl (C25 v) 0
theorem X38{es:List Nat}{i e:Nat}(h:es[i]? = some e):Z16 (es.take (i+1)) v=C25 v (Z16 (es.take i) v) e:=by
 unfold Z16;rw[C7 h,List.foldl_append];rfl
theorem X41(v w:Nat):∀(es:List Nat) (m:Nat),(es.foldl (C25 v) m).testBit w=(m.testBit w || es.any fun e=>e.testBit v&&e.testBit w)
 | [],m=>by simp
 | e :: es,m=>by
  rw[List.foldl_cons,X41 v w es,List.any_cons,<- Bool.or_assoc];congr 1;unfold C25
  split
  .rename_i h;rw[Nat.testBit_or,h,Bool.true_and]
  .rename_i h;simp at h;simp[h]
theorem W46(v:Nat):∀(es:List Nat) (m:Nat),m<4294967296->C4 es->es.foldl (C25 v) m<4294967296
 | [],m,hm,_=>hm
 | e :: es,m,hm,h=>by
  rw[List.foldl_cons];refine W46 v es _ ?_ fun x hx=>h x (List.mem_cons_of_mem _ hx)
  unfold C25
  split
  .exact M54 hm (h e List.mem_cons_self)
  .exact hm
theorem E67{es:List Nat}(h:C4 es)(v:Nat):Z16 es v<4294967296:=W46 v es 0 (by omega) h
theorem R67{es:List Nat}{n:Nat}(h:∀ e ∈ es,e<2^n)(v:Nat):Z2 (Z16 es v) (2^v)=Q1 (adj es v) n:=by
 rw[<- E36 h v];apply Nat.eq_of_testBit_eq;intro w;rw[N1,E44];unfold Z16;rw[X41,Nat.zero_testBit,Bool.false_or,Nat.testBit_two_pow];unfold adj
 by_cases hv:v=w
 .subst hv;simp
 .simp[hv]
def V18(N:Nb)(n:Nat):List Nat:=(List.range n).map fun v=>Q1 (N v) n
theorem G25(N:Nb)(n:Nat):(V18 N n).length=n:=by simp[V18]
theorem N20(N:Nb)(hv:v<n):(V18 N n)[v]? = some (Q1 (N v) n):=by simp[V18,hv]
theorem V69{n:Nat}(hn:n<=32)(A:Option Addr)(es:List Nat)(cap:Nat)(H:Y0)(nx:Nat)(hS:Sl H nx A (C0 es))(ac:∀ e ∈ es,e<2^n)(al:es.length<=64):
  Q2 Tryz.prog 105 [.slice A es.length cap,.int .i64 (n:Int)] H nx fun r H' nx'=>∃ q,nx<=q/\q<nx'/\r = .slice (some ⟨q,0,none⟩) n n/\J0 H' q=some (.cells (C0 (V18 (adj es) n)) 0)/\D0 H nx H' nx':=by
 have Q:C4 es:=fun e he=>Nat.lt_of_lt_of_le (ac e he) (Nat.le_trans (Nat.pow_le_pow_right (by omega) hn) (by decide))
 refine spec105 ?_;unfold F105;rw[M27 (by omega),C23];have ah:D0 H nx (hs H nx (some (.cells (C0 (List.replicate n 0)) 0))) (nx+1):=(D0.refl H nx).new _ (Nat.le_refl _) (by omega);simp(disch:=first|omega|assumption)only[W0,Q0.val];refine B1 (m:=n) (fun m L H' nx'=>∃(i:Nat) (l:List Nat),m+i=n/\L=[.int .i64 (i:Int)]/\l.length=n/\(∀ v,v<n->l[v]? = some (if v<i then Q1 (adj es v) n else 0))/\J0 H' nx=some (.cells (C0 l) 0)/\D0 H nx H' nx'/\nx<nx') ?_ ⟨0,List.replicate n 0,rfl,rfl,by simp,fun v hv=>by rw[List.getElem?_replicate,if_pos hv];simp,E0 _ _ _,ah,by omega⟩;rintro m ih L H2 nx2 ⟨i,l,hm,rfl,hl,a5,hg,aa,a0⟩ ag;simp(disch:=first|omega|assumption)only[W0]
 by_cases hi:i<n
 case neg=>
  have a8:¬ (i:Int)<(n:Int):=by omega
  have ai:l=V18 (adj es) n:=by
   apply List.ext_getElem?;intro v
   by_cases hv:v<n
   .rw[a5 v hv,N20 _ hv,if_pos (by omega)]
   .rw[List.getElem?_eq_none (by omega),List.getElem?_eq_none (by rw[G25];omega)]
  subst ai;simp(disch:=first|omega|assumption)only[W0,a8];exact⟨nx,Nat.le_refl _,a0,rfl,hg,aa⟩
 have a8:(i:Int)<(n:Int):=by omega
 simp(disch:=first|omega|assumption)only[W0,a8];refine B1 (m:=es.length) (fun m L H' nx'=>∃(j:Nat) (l:List Nat),m+j=es.length/\L=[.int .i64 (j:Int)]/\l.length=n/\(∀ v,v<n->l[v]? = some (if v<i then Q1 (adj es v) n else if v=i then Z16 (es.take j) i else 0))/\J0 H' nx=some (.cells (C0 l) 0)/\D0 H nx H' nx'/\nx<nx') ?_
  ⟨0,l,rfl,rfl,hl,fun v hv=>by rw[a5 v hv];simp[Z16],hg,aa,a0⟩
 rintro m3 ap L3 H3 aq ⟨j,l3,ak,rfl,V,J,a7,U,Z⟩ W;have a2:l3[i]? = some (Z16 (es.take j) i):=by rw[J i hi,if_neg (by omega),if_pos rfl]
 have O:(C0 l3).length=n:=by rw[E1];exact V
 have ad:=E67 (X33 Q j) i;have gc:=Q3 a2;have a9:i<l3.length:=by omega
 have a1:∀ x (y:Nat->Nat),(∀ v,v<n->v≠i->(if v<i then Q1 (adj es v) n else if v=i then Z16 (es.take j) i else 0)=y v)->x=y i->∀ v,v<n->(l3.set i x)[v]? = some (y v):=by
  intro x y h1 h2 v hv;rw[List.getElem?_set]
  by_cases E:i=v
  .subst E;rw[if_pos rfl,if_pos (by omega),h2]
  .rw[if_neg E,J v hv,h1 v hv (fun h=>E h.symm)]
 simp(disch:=first|omega|assumption)only[W0]
 by_cases hj:j<es.length
 case neg=>
  have a6:¬ (j:Int)<(es.length:Int):=by omega
  have hp:2^i<4294967296:=Y18 (by omega);rw[D23 hj] at gc a2 ad;simp(disch:=first|omega|assumption)only[W0,a6,a7,gc,Z10,V10 a9,O];refine⟨by omega,ag (m-1) _ _ _ (by omega) ⟨i+1,l3.set i (Z2 (Z16 es i) (2^i)),by omega,by simp,by rw[List.length_set];exact V,?_,by rw[E0],U.hs (Nat.le_refl _),Z⟩⟩;refine a1 _ (fun v=>if v<i+1 then Q1 (adj es v) n else 0) (fun v hv E => ?_) ?_
  .by_cases h1:v<i
   .rw[if_pos h1,if_pos (by omega)]
   .rw[if_neg h1,if_neg E,if_neg (by omega)]
  .rw[if_pos (by omega),R67 ac]
 have a6:(j:Int)<(es.length:Int):=by omega
 obtain⟨e,he⟩:∃ e,es[j]? = some e:=⟨_,List.getElem?_eq_getElem hj⟩
 obtain⟨b,o,row,rfl,hb,a3,ae⟩:=(hS.ext U).open (i:=j) (by rw[E1];omega);have ab:=Q.get he;have g0:=ae _ _ (Q3 he);have an:b≠nx:=by
  obtain⟨b',o',aj,e1,ao,_⟩:=hS.open (i:=j) (by rw[E1];omega)
  cases e1
  omega
 simp(disch:=first|omega|assumption)only[W0,a6,X3 a3,g0,R1];refine R0 (W53 ab (by omega) _ _) ?_;rintro _ _ _ ⟨rfl,rfl,rfl⟩
 cases a4:e.testBit i with
 | false=>
  simp(disch:=first|omega|assumption)only[W0];refine W (m3-1) _ _ _ (by omega) ⟨j+1,l3,by omega,by simp,V,fun v hv => ?_,a7,U,Z⟩;rw[J v hv]
  by_cases h1:v=i
  .subst h1;rw[if_neg (by omega),if_pos rfl,if_neg (by omega),if_pos rfl,X38 he,C25,if_neg (by simp[a4])]
  .rw[if_neg h1,if_neg h1]
 | true=>
  simp(disch:=first|omega|assumption)only[W0,a7,gc,X3 a3,g0,V10 a9,O];refine⟨by omega,W (m3-1) _ _ _ (by omega) ⟨j+1,l3.set i (Z16 (es.take j) i ||| e),by omega,by simp,by rw[List.length_set];exact V,?_,by rw[E0],(U.hs (Nat.le_refl _)).more (by omega),by omega⟩⟩;refine a1 _ (fun v=>if v<i then Q1 (adj es v) n else if v=i then Z16 (es.take (j+1)) i else 0) (fun v hv E => ?_) ?_
  .rw[if_neg E,if_neg E]
  .rw[if_neg (by omega),if_pos rfl,X38 he,C25,if_pos a4]
theorem Q48{a:Nat}(h:1<=a)(ha:a<4294967296)(k:VP):U0 .sub (.int .u32 (a:Int)) (.int .u32 1) k=k (.int .u32 ((a-1:Nat):Int)):=by
 rw[R11];have e:(a:Int)-1=((a-1:Nat):Int):=by omega
 rw[e,D15 (by omega)]
def C21(es:List Nat)(n:Nat):Nb->List Nat->Bool
 | _,[]=>true
 | N,v :: rest=>R10 es (Q1 (K9 N v rest) n ||| 2^v)&&C21 es n (U9 N v rest) rest
theorem R63(p q:Nat->Bool)(n:Nat):Q1 p n &&& Q1 q n=Q1 (fun w=>p w&&q w) n:=by
 apply Nat.eq_of_testBit_eq;intro w;rw[Nat.testBit_and,C2,C2,C2]
 cases decide (w<n)<;>simp
theorem V58{v:Nat}(hv:v ∉ rest):Z2 (Q1 (fun w=>decide (w ∈ v :: rest)) n) (2^v)=Q1 (fun w=>decide (w ∈ rest)) n:=by
 apply Nat.eq_of_testBit_eq;intro w;rw[N1,C2,C2,Nat.testBit_two_pow]
 by_cases h:v=w
 .subst h;simp[hv]
 .have h':¬ w=v:=fun e=>h e.symm
  simp[h,h']
theorem B64{E:List Nat}(J:∀ w,w<n->w ∈ E):2^n-1=Q1 (fun w=>decide (w ∈ E)) n:=by
 apply Nat.eq_of_testBit_eq;intro w;rw[Nat.testBit_two_pow_sub_one,C2]
 by_cases h:w<n
 .simp[h,J w h]
 .simp[h]
theorem N60(hN:Z44 N)(hk:K9 N v rest w=true):Z2 (Q1 (N w) n ||| Q1 (K9 N v rest) n) (2^w)=Q1 (U9 N v rest w) n:=by
 apply Nat.eq_of_testBit_eq;intro x;rw[N1,Nat.testBit_or,C2,C2,C2,Nat.testBit_two_pow];unfold U9
 by_cases h:w=x
 .subst h;simp[hN.irr]
 .have h':decide (w≠x)=true:=by simp[h]
  rw[h',hk]
  cases decide (x<n)<;>simp[h]
theorem N58(hk:K9 N v rest w=false):U9 N v rest w=N w:=by
 funext x;simp[U9,hk]
set_option maxHeartbeats 2000000 in
theorem X61{n f:Nat}(hn:n<32)(hf:f<=n)(A:Option Addr)(es:List Nat)(cap:Nat)(P:Option Addr)(l:List Int)(an:Nat)(E:List Nat)(H:Y0)(nx:Nat)(hS:Sl H nx A (C0 es))(ah:∀ e ∈ es,e<2^n)(ag:es.length<=64)
  (hP:Sl H nx P (U4 l))(ay:Has H nx P)(hl:l.length<=40)(ho:l++R6 f f=E.map fun(w:Nat)=>(w:Int))(av:E.Nodup)(ad:∀ w ∈ E,w<n)(a4:E.length=n):
  Q2 Tryz.prog 89 [.slice A es.length cap,.int .i64 (n:Int),.int .i64 (f:Int),.slice P l.length an] H nx fun r H' nx'=>r = .bool (C21 es n (adj es) E)/\D0 H nx H' nx':=by
 have a8:C4 es:=fun e he=>Nat.lt_of_lt_of_le (ah e he) (Nat.le_trans (Nat.pow_le_pow_right (by omega) (show n<=32 by omega)) (by decide))
 refine spec89 ?_;unfold F89;simp(disch:=first|omega|assumption)only[W0,Q0.val,U21];have hX:D0 H nx (hs H nx (some (.cells [] 0))) (nx+1):=(D0.refl H nx).new _ (Nat.le_refl _) (by omega);refine R20 (lo:=nx) (H0:=H) (E0 _ _ _) (Nat.le_refl _) (by omega) (C27 (hP.ext hX) (ay.ext hX) (by rw[X9];omega) (by omega)) (K13 l) (by omega) (by omega) hX ?_;intro v1 H1 cc _ b3 bc;refine B1 (m:=f) (fun m L H' nx'=>∃(i:Nat) (u:Value),m+i=f/\L=[u,.int .i64 ((f:Int)-1-i)]/\E23 nx H' nx' u (U4 (l++R6 f i))/\D0 H nx H' nx') ?_ ⟨0,v1,rfl,by simp,by simpa [R6] using b3,bc⟩;rintro m ih L H2 nx2 ⟨i,u,hm,rfl,a6,Q⟩ ba;have bv:=Q.le;simp(disch:=first|omega|assumption)only[W0]
 by_cases hi:i<f
 .have a9:(f:Int)-1-i ≥ 0:=by omega
  have b8:∀(x:Int) k,K6 1 1 [.int .i64 0] [(0,.int .i64 x)] k=k [.int .i64 x]:=fun x k=>rfl
  simp(disch:=first|omega|assumption)only[W0,a9,b8];have a1:D0 H2 nx2 (hs H2 nx2 (some (.cells [.int .i64 ((f:Int)-1-i)] 0))) (nx2+1):=(D0.refl _ _).new _ (Nat.le_refl _) (by omega);have bw:=Y17 f i;refine K38 (H0:=H) (lo:=nx) (y := .int .i64 ((f:Int)-1-i)) (a6.ext a1) (J9 (E0 _ _ _) rfl (by omega)) rfl (by omega) (by rw[X9,List.length_append];omega) (Q.trans a1) (by omega) ?_;intro v' H' bd bo _;refine ba (m-1) _ _ _ (by omega) ⟨i+1,v',by omega,by simp;omega,?_,bo⟩;have e:U4 (l++R6 f (i+1))=U4 (l++R6 f i)++[.int .i64 ((f:Int)-1-i)]:=by simp[R6,U4]
  rw[e];exact bd
 have a9:¬ (f:Int)-1-i ≥ 0:=by omega
 have:i=f:=by omega
 subst this;rw[ho] at a6;obtain⟨B,rfl,bt,_⟩:=a6.sl;have ai:(U4 (E.map fun(w:Nat)=>(w:Int))).length=n:=by simp[U4,a4]
 rw[ai];have hp:=Nat.pow_lt_pow_right (a:=2) (by omega) hn;have ca:1<=2^n:=Nat.pow_pos (by omega);simp(disch:=first|omega|assumption)only[W0,a9];refine R0 (V69 (n:=n) (by omega) A es cap H2 nx2 (hS.ext Q) ah ag) ?_;rintro _ H3 c9 ⟨q,ce,bf,rfl,b4,a1⟩;have aj:∀ w,w<n->w ∈ E:=fun w hw=>Q58 av ad a4 hw
 simp(disch:=first|omega|assumption)only[W0,Z10,Q48,B64 aj];refine B1 (m:=n) (fun m L H' nx'=>∃(i:Nat) (N:Nb),m+i=n/\L=[.int .u32 ((Q1 (fun w=>decide (w ∈ E.drop i)) n:Nat):Int),.int .i64 (i:Int)]/\Z44 N/\C21 es n (adj es) E=C21 es n N (E.drop i) /\
   J0 H' q=some (.cells (C0 (V18 N n)) 0)/\D0 H2 nx2 H' nx'/\q<nx') ?_ ⟨0,adj es,rfl,by simp,Y70 es,by simp,b4,a1,bf⟩
 rintro m3 c7 L3 H4 bz ⟨i,N,c3,rfl,hN,J,au,W,aw⟩ ae;simp(disch:=first|omega|assumption)only[W0]
 by_cases c6:i<n
 case neg=>
  have U:¬ (i:Int)<(n:Int):=by omega
  simp(disch:=first|omega|assumption)only[W0,U];rw[J,List.drop_eq_nil_of_le (by omega)];exact⟨rfl,Q.trans W⟩
 have U:(i:Int)<(n:Int):=by omega
 obtain⟨v,hv⟩:∃ v,E[i]? = some v:=⟨_,List.getElem?_eq_getElem (by omega)⟩
 have b5:v<n:=ad v (List.mem_of_getElem? hv);have az:(v:Int)<(n:Int):=by omega
 have Z:=Z19 hv;have ak:=Q44 av hv;obtain⟨b,o,row,rfl,hb,aq,ap⟩:=(bt.ext W).open (i:=i) (by rw[ai];omega);have g0:=ap i (.int .i64 (v:Int)) (Z9 (by rw[List.getElem?_map,hv];rfl));rw[Z] at J;rw[Z];generalize E.drop (i+1)=rest at Z ak J
 replace J:C21 es n (adj es) E=(R10 es (Q1 (K9 N v rest) n ||| 2^v)&&C21 es n (U9 N v rest) rest):=J
 have gv:=Q3 (N20 N b5);have ax:2^v<4294967296:=Y18 (by omega);have k1:=R19 (n:=n) (by omega) (fun w=>decide (w ∈ v :: rest));have k2:=R19 (n:=n) (by omega) (fun w=>decide (w ∈ rest));have k3:=R19 (n:=n) (by omega) (N v);have k4:=R19 (n:=n) (by omega) (K9 N v rest);have al:Q1 (N v) n &&& Q1 (fun w=>decide (w ∈ rest)) n=Q1 (K9 N v rest) n:=R63 _ _ _;simp(disch:=first|omega|assumption)only[W0,U,X3 aq,g0,Z10,V58 ak,au,gv,al];refine R0 (B45 (M54 k4 ax) A es cap _ _ (hS.ext (Q.trans W)) a8 ag) ?_;rintro _ _ _ ⟨rfl,rfl,rfl⟩;have bg:decide (Q1 (K9 N v rest) n ||| 2^v=0)=false:=by
  rw[decide_eq_false_iff_not];intro h;have:=congrArg (fun x=>x.testBit v) h;simp at this
 rw[bg,Bool.or_false]
 cases a5:R10 es (Q1 (K9 N v rest) n ||| 2^v) with
 | false=>
  rw[a5,Bool.false_and] at J;simp(disch:=first|omega|assumption)only[W0];rw[J];exact⟨rfl,Q.trans W⟩
 | true=>
  rw[a5,Bool.true_and] at J;simp(disch:=first|omega|assumption)only[W0];refine B1 (m:=n) (fun m L H' nx'=>∃(w:Nat) (l3:List Nat),m+w=n/\L=[.int .i64 (w:Int)]/\l3.length=n/\(∀ x,x<n->l3[x]? = some (if x<w then Q1 (U9 N v rest x) n else Q1 (N x) n)) /\
    J0 H' q=some (.cells (C0 l3) 0)/\D0 H2 nx2 H' nx'/\q<nx') ?_ ⟨0,V18 N n,rfl,rfl,G25 _ _,fun x hx=>by rw[N20 _ hx];simp,au,W,aw⟩
  rintro m5 c8 L5 H5 bx ⟨w,l3,c4,rfl,aa,O,ab,ac,V⟩ a3;have a7:(C0 l3).length=n:=by rw[E1];exact aa
  simp(disch:=first|omega|assumption)only[W0]
  by_cases hw:w<n
  case neg=>
   have a2:¬ (w:Int)<(n:Int):=by omega
   have bu:l3=V18 (U9 N v rest) n:=by
    apply List.ext_getElem?;intro x
    by_cases hx:x<n
    .rw[O x hx,N20 _ hx,if_pos (by omega)]
    .rw[List.getElem?_eq_none (by omega),List.getElem?_eq_none (by rw[G25];omega)]
   subst bu;simp(disch:=first|omega|assumption)only[W0,a2];refine ae (m3-1) _ _ _ (by omega) ⟨i+1,U9 N v rest,by omega,?_,Y66 hN v rest,?_,ab,ac,V⟩
   .have e:=Z19 hv
    rw[Z] at e;injection e with _ e;rw[<- e];simp
   .have e:=Z19 hv
    rw[Z] at e;injection e with _ e;rw[J,<- e]
  have a2:(w:Int)<(n:Int):=by omega
  have ao:l3[w]? = some (Q1 (N w) n):=by rw[O w hw,if_neg (by omega)]
  have gc:=Q3 ao;have bk:w<l3.length:=by omega
  have k5:=R19 (n:=n) (by omega) (N w);have cd:2^w<4294967296:=Y18 (by omega);simp(disch:=first|omega|assumption)only[W0,a2,R1];refine R0 (W53 k4 (by omega) _ _) ?_;rintro _ _ _ ⟨rfl,rfl,rfl⟩;have bh:(Q1 (K9 N v rest) n).testBit w=K9 N v rest w:=by rw[C2];simp[hw]
  rw[bh]
  cases hk:K9 N v rest w with
  | false=>
   simp(disch:=first|omega|assumption)only[W0];refine a3 (m5-1) _ _ _ (by omega) ⟨w+1,l3,by omega,by simp,aa,fun x hx => ?_,ab,ac,V⟩;rw[O x hx]
   by_cases a0:x=w
   .subst a0;rw[if_neg (by omega),if_pos (by omega),N58 hk]
   .by_cases h1:x<w
    .rw[if_pos h1,if_pos (by omega)]
    .rw[if_neg h1,if_neg (by omega)]
  | true=>
   have cf:=M54 k5 k4;simp(disch:=first|omega|assumption)only[W0,ab,gc,Z10,N60 hN hk,V10 bk,a7];refine⟨by omega,a3 (m5-1) _ _ _ (by omega) ⟨w+1,l3.set w (Q1 (U9 N v rest w) n),by omega,by simp,by rw[List.length_set];exact aa,fun x hx => ?_,by rw[E0],ac.hs (by omega),V⟩⟩;rw[List.getElem?_set]
   by_cases a0:w=x
   .subst a0;rw[if_pos rfl,if_pos (by omega),if_pos (by omega)]
   .rw[if_neg a0,O x hx]
    by_cases h1:x<w
    .rw[if_pos h1,if_pos (by omega)]
    .rw[if_neg h1,if_neg (by omega)]
end Go.Proofs.YtoiioigihocgbaaGreatDoor
