/-
  Contracts: the closure of EliminationBest,perms.
  THE LAW EliminationBest returns true.
-/
import Derived.Test.YtpiobdofbhkmjaaDoorK45
import Derived.Test.YtpiobdofbhkmjaaDoorK16
set_option linter.unusedSimpArgs false
set_option linter.unusedVariables false
set_option linter.unusedSectionVars false
namespace Go.Proofs.YtpiobdofbhkmjaaDoor
open Go.Clo
variable {B:Option Addr}
theorem J62:∀ {l:List Nat} {i v:Nat},l.Nodup->l[i]? = some v->l.erase v=l.take i++l.drop (i+1)
 | [],i,v,_,h=>by simp at h
 | a :: l,0,v,_,h=>by
  simp at h
  subst h
  simp
 | a :: l,i+1,v,hnd,h=>by
  rw[List.nodup_cons] at hnd
  have h2:l[i]? = some v:=by simpa using h
  have hne:a≠v:=fun e=>hnd.1 (e ▸ List.mem_of_getElem? h2)
  rw[List.erase_cons_tail (by simpa using hne),J62 hnd.2 h2]
  simp
structure KX (a b c:Nat) (H:Y0) (nx:Nat) (H':Y0) (nx':Nat):Prop where
 le:nx<=nx'
 get:∀ x,x<nx->x≠a->x≠b->x≠c->X0 H' x=X0 H x
theorem KX.trans {a b c:Nat} {H:Y0} {nx:Nat} {H1:Y0} {n1:Nat} {H2:Y0} {n2:Nat} (h:KX a b c H nx H1 n1) (h':KX a b c H1 n1 H2 n2):KX a b c H nx H2 n2:=
 ⟨Nat.le_trans h.le h'.le,fun x h1 h2 h3 h4=>(h'.get x (Nat.lt_of_lt_of_le h1 h.le) h2 h3 h4).trans (h.get x h1 h2 h3 h4)⟩
theorem W64 {a b c:Nat} {H:Y0} {nx:Nat} {H':Y0} {nx':Nat} (h:D0 H nx H' nx'):KX a b c H nx H' nx':=⟨h.le,fun x h1 _ _ _=>h.get x h1⟩
theorem KX.hs {a b c:Nat} {H:Y0} {nx:Nat} {H':Y0} {nx' i:Nat} {k:Option V4} (h:KX a b c H nx H' nx') (hi:nx<=i\/i=a\/i=b\/i=c):KX a b c H nx (Go.Clo.hs H' i k) nx':=
 ⟨h.le,fun x h1 h2 h3 h4=>by rw[M0 _ (by omega)];exact h.get x h1 h2 h3 h4⟩
structure LS (es:List Nat) (N f:Nat) (A:Option Addr) (cap q2 q5 q14 q13 q12:Nat) (s:List Nat × Rat) (H:Y0) (m:Nat):Prop where
 g2:X0 H q2=some (.cells [.int .i64 (N:Int),.slice A es.length cap] 0)
 g5:X0 H q5=some (.cells [.int .i64 (f:Int)] 0)
 g14:X0 H q14=some (.cells [.bool true] 0)
 c13:∃ c,G9 c/\X0 H q13=some (.cells c 0)/\RR H m (.agg ⟨c⟩) s.2
 c12:∃ B,X0 H q12=some (.cells [.slice B s.1.length s.1.length] 0)/\Sl H m B (R3 (s.1.map fun (x:Nat)=>(x:Int)))
 eS:Sl H m A (N1 es)
 sh:X4 s.2 100000
 l2:q2<m
 l5:q5<m
 l14:q14<m
 l13:q13<m
 l12:q12<m
section
variable {es:List Nat} {N f:Nat} {A:Option Addr} {cap q2 q5 q14 q13 q12:Nat} {s:List Nat × Rat} {H:Y0} {m:Nat} {H':Y0} {m':Nat}
theorem LS.ext (h:LS es N f A cap q2 q5 q14 q13 q12 s H m) (e:D0 H m H' m'):LS es N f A cap q2 q5 q14 q13 q12 s H' m':=by
 have hle:=e.le
 obtain⟨c,h1,h2,h3⟩:=h.c13
 obtain⟨B,h4,h5⟩:=h.c12
 have a1:=h.l2;have a2:=h.l5;have a3:=h.l14;have a4:=h.l13;have a5:=h.l12
 exact⟨(e.get _ a1).trans h.g2,(e.get _ a2).trans h.g5,(e.get _ a3).trans h.g14,⟨c,h1,(e.get _ a4).trans h2,h3.ext e⟩,⟨B,(e.get _ a5).trans h4,h5.ext e⟩,h.eS.ext e,h.sh,by omega,by omega,by omega,by omega,by omega⟩
theorem LS.keep (h:LS es N f A cap q2 q5 q14 q13 q12 s H m) (e:KX q12 q13 q14 H m H' m') {l:List Int} (hS:Sl H m B (R3 l)):Sl H' m' B (R3 l):=by
 intro j v hv
 obtain⟨b,o,row,e1,e2,e3,e4⟩:=hS j v hv
 obtain⟨x,_,rfl⟩:=List.mem_map.1 (List.mem_of_getElem? hv)
 have hm:=List.mem_of_getElem? e4
 refine⟨b,o,row,e1,Nat.lt_of_lt_of_le e2 e.le,?_,e4⟩
 have n12:b≠q12:=by
  rintro rfl
  obtain⟨B',h4,_⟩:=h.c12
  rw[V3,h4] at e3
  cases (Option.some.inj e3)
  simp at hm
 have n13:b≠q13:=by
  rintro rfl
  obtain⟨c,h1,h2,_⟩:=h.c13
  rw[V3,h2] at e3
  obtain⟨s1,A1,l1,k1,C1,l1',k1',rfl⟩:=h1
  cases (Option.some.inj e3)
  simp at hm
 have n14:b≠q14:=by
  rintro rfl
  rw[V3,h.g14] at e3
  cases (Option.some.inj e3)
  simp at hm
 unfold V3
 rw[e.get b e2 n12 n13 n14];exact e3
theorem LS.has (h:LS es N f A cap q2 q5 q14 q13 q12 s H m) (e:KX q12 q13 q14 H m H' m') (hB:Has H m B) (hnew:∀ b o t,B=some ⟨b,o,t⟩->b≠q12/\b≠q13/\b≠q14):Has H' m' B:=by
 rcases hB with h0 | ⟨b,o,row,h1,h2,h3⟩
 .exact .inl h0
 .obtain⟨n1,n2,n3⟩:=hnew b o none h1
  exact .inr ⟨b,o,row,h1,Nat.lt_of_lt_of_le h2 e.le,by unfold V3;rw[e.get b h2 n1 n2 n3];exact h3⟩
variable (hN:N<=6) (hf:f<=N) (hsm:∀ e ∈ es,e<2^N) (hle:es.length<=8) (hcov:∀ w,w<N->∃ e ∈ es,e.testBit w=true) (hd1:q12≠q13) (hd2:q12≠q14) (hd3:q13≠q14) (hd4:q2≠q12/\q2≠q13/\q2≠q14/\q5≠q12/\q5≠q13/\q5≠q14)
include hN hf hsm hle hcov hd1 hd2 hd3 hd4
set_option maxHeartbeats 4000000 in
theorem V81 (h:LS es N f A cap q2 q5 q14 q13 q12 s H m) {l:List Nat} {P:Option Addr} (hP:IsP N f l) (hl:Sl H m P (R3 (l.map fun (x:Nat)=>(x:Int)))) (h0:Has H m P):
  J2 Tryd.prog 16 [.slice P l.length l.length,.pointer (some ⟨q2,0,none⟩),.pointer (some ⟨q5,0,none⟩),.pointer (some ⟨q14,0,none⟩),.pointer (some ⟨q13,0,none⟩),.pointer (some ⟨q12,0,none⟩)] H m
   fun r H' m'=>LS es N f A cap q2 q5 q14 q13 q12 (K30 (wid es N f) s l) H' m'/\KX q12 q13 q14 H m H' m':=by
 have hp64:2^N<=64:=Nat.pow_le_pow_right (n:=2) (by omega) hN
 have hsm32:Z4 es:=fun e he=>by have:=hsm e he;omega
 have hfc:V9 (N:Int) (f:Int) es=0:=by
  unfold V9
  rw[W14 (by omega) (by omega) fun i e he=>hsm e (List.mem_of_getElem? he)]
  simp;omega
 have hlen:=hP.len
 have hlenI:(l.map fun (x:Nat)=>(x:Int)).length=l.length:=by simp
 rw[show K30 (wid es N f) s l=if wid es N f l<s.2 then (l,wid es N f l) else s from rfl]
 refine spec16 ?_
 unfold F16
 simp (disch:=first|omega|assumption) only[W0,B0.val,h.g2,h.g5,J3]
 have hb13:=M80 (N:Int) (f:Int) A es cap P (l.map fun (x:Nat)=>(x:Int)) l.length H m h.eS hsm32 hl h0 (by rw[hlenI];omega)
 rw[hlenI] at hb13
 refine K0 hb13 ?_
 rintro r1 H1 m1 ⟨hE1,h1⟩
 rcases h1 with ⟨h0',_⟩ | ⟨n',f',en,ef,_,_,_,h1⟩
 .exact absurd hfc h0'
 obtain rfl:N=n':=by omega
 obtain rfl:f=f':=by omega
 rcases h1 with ⟨hno',_⟩ | ⟨hok,order,ho,hnd,hlt,hol,R,rfl,hR,_⟩
 .exact absurd (hP.ok hf) hno'
 obtain rfl:=E42 (n:=N) ho
 have hR:Sl H1 m1 R (M8 (Q9 es N f (l.map fun (x:Nat)=>(x:Int)))):=hR
 have hS1:=h.ext hE1
 simp (disch:=first|omega|assumption) only[W0,hS1.g2,J3]
 refine K0 (J86 hS1.eS hR (J10 es N f _) hN hsm hle (fun b hb => ?_) hcov) ?_
 .obtain⟨i,hi,rfl⟩:=List.getElem_of_mem hb
  have hib:=List.getElem?_eq_getElem hi
  obtain⟨s1,s2⟩:=K19 hN hf hP hib
  obtain⟨b',a1,a2,a3⟩:=D49 (es:=es) (hP.ok hf) hf (show i<N by rw[J10] at hi;exact hi)
  rw[hib] at a1;cases a1
  exact⟨by omega,s1,s2⟩
 rintro r2 H2 m2 ⟨hE2,c2,C2,rfl,hr2⟩
 have hr2:RR H2 m2 (.agg ⟨c2⟩) (wid es N f l):=hr2
 have hc2:=hr2.tri
 have hwS:X4 (wid es N f l) 100000:=V42 hle N (by rw[J10];exact Nat.le_refl _)
 generalize wid es N f l=x at *
 have hS2:=hS1.ext hE2
 have hle2:=hE2.le
 simp (disch:=first|omega|assumption) only[W0,Nat.reduceAdd,hc2.three,hc2.one,Z5 (show c2.length=[Value.bool false,.slice none 0 0,.slice none 0 0].length from hc2.three)]
 have hE4:D0 H2 m2 (Go.Clo.hs (Go.Clo.hs H2 m2 (some (.cells [.bool false,.slice none 0 0,.slice none 0 0] 0))) m2 (some (.cells c2 0))) (m2+1):=((D0.refl _ _).new _ (Nat.le_refl _) (m:=m2+1) (by omega)).hs (Nat.le_refl _)
 have g49:X0 (Go.Clo.hs (Go.Clo.hs H2 m2 (some (.cells [.bool false,.slice none 0 0,.slice none 0 0] 0))) m2 (some (.cells c2 0))) m2=some (.cells c2 0):=Q0 _ _ _
 generalize Go.Clo.hs (Go.Clo.hs H2 m2 (some (.cells [.bool false,.slice none 0 0,.slice none 0 0] 0))) m2 (some (.cells c2 0))=H4 at *
 have hS4:=hS2.ext hE4
 have hr4:=hr2.ext hE4
 have hE04:=(hE1.trans hE2).trans hE4
 have hl4:=hl.ext hE04
 obtain⟨c13,hc13,g13,hr13⟩:=hS4.c13
 obtain⟨B12,g12,hS12⟩:=hS4.c12
 have b1:=h.l12;have b2:=h.l13;have b3:=h.l14;have b4:=h.l2;have b5:=h.l5
 have hm1:=hE1.le
 have hr4':RR (Go.Clo.hs H4 q14 (some (.cells [.bool true] 0))) (m2+1) (.agg ⟨c2⟩) x:=hr4.boxs hS4.g14 (X8 rfl) (.inl rfl)
 have hr13':RR (Go.Clo.hs H4 q14 (some (.cells [.bool true] 0))) (m2+1) (.agg ⟨c13⟩) s.2:=hr13.boxs hS4.g14 (X8 rfl) (.inl rfl)
 have nob:∀ l:List Int,∀ v ∈ R3 l,v ∉ [Value.bool true]:=fun l v hv hh=>by
  obtain⟨y,_,rfl⟩:=List.mem_map.1 hv
  simp at hh
 have noe:∀ v ∈ N1 es,v ∉ [Value.bool true]:=fun v hv hh=>by
  obtain⟨y,_,rfl⟩:=List.mem_map.1 hv
  simp at hh
 have hS5:LS es N f A cap q2 q5 q14 q13 q12 s (Go.Clo.hs H4 q14 (some (.cells [.bool true] 0))) (m2+1):=by
  refine⟨by rw[M0 _ (by omega)];exact hS4.g2,by rw[M0 _ (by omega)];exact hS4.g5,Q0 _ _ _,⟨c13,hc13,by rw[M0 _ hd3];exact g13,hr13'⟩,⟨B12,by rw[M0 _ hd2];exact g12,hS12.write hS4.g14 (nob _)⟩,hS4.eS.write hS4.g14 noe,h.sh,by omega,by omega,by omega,by omega,by omega⟩
 have g59:X0 (Go.Clo.hs H4 q14 (some (.cells [.bool true] 0))) m2=some (.cells c2 0):=by rw[M0 _ (by omega)];exact g49
 have hl5:Sl (Go.Clo.hs H4 q14 (some (.cells [.bool true] 0))) (m2+1) P (R3 (l.map fun (x:Nat)=>(x:Int))):=hl4.write hS4.g14 (nob _)
 have hk5:KX q12 q13 q14 H m (Go.Clo.hs H4 q14 (some (.cells [.bool true] 0))) (m2+1):=(W64 hE04).hs (.inr (.inr (.inr rfl)))
 have hput1:∀ a b:Value,G6 [a] 0 [b]=[b]:=fun _ _=>rfl
 simp (disch:=first|omega|assumption) only[W0,hS4.g14,K3,hput1,g49,Q3 hc2,g13,Q3 hc13]
 generalize Go.Clo.hs H4 q14 (some (.cells [.bool true] 0))=H5 at *
 refine K0 (N20 hr4' hr13' hwS h.sh) ?_
 rintro _ H9 m9 ⟨rfl,hE9⟩
 have hS9:=hS5.ext hE9
 have hle9:=hE9.le
 have hk9:=hk5.trans (W64 hE9)
 by_cases hlt:x<s.2
 .have hg:=Q22.2 hlt
  have hst:(if x<s.2 then (l,x) else s)=(l,x):=if_pos hlt
  have g99:=(hE9.get m2 (by omega)).trans g59
  obtain⟨c13c,hc13c,g13c,hr13c⟩:=hS9.c13
  obtain⟨B9,g129,hS129⟩:=hS9.c12
  have hr9:=(hr4'.ext hE9).ext (D0.self (m:=m9+4) (by omega))
  have hl9:=(hl5.ext hE9).ext (D0.self (m:=m9+4) (by omega))
  simp (disch:=first|omega|assumption) only[W0,hg,g99,Q3 hc2,g129,hput1,g13c,hc2.three,hc2.one,Z5 (show c2.length=c13c.length by rw[hc2.three,hc13c.three])]
  have n13:q13≠m2:=by omega
  have nsl:∀ (v:Value) (K:IntKind) (z:Int),v = .int K z->∀ (B:Option Addr) (a b:Nat),v ∉ [Value.slice B a b]:=fun v K z e B a b hh=>by subst e;simp at hh
  have ntr:∀ {c:List Value} (v:Value) (K:IntKind) (z:Int),G9 c->v = .int K z->v ∉ c:=fun {c} v K z hc e hh=>by
   obtain⟨s1,A1,l1,k1,C1,l1',k1',rfl⟩:=hc
   subst e;simp at hh
  have w12:X0 (Go.Clo.hs H9 q12 (some (.cells [.slice P l.length l.length] 0))) q13=some (.cells c13c 0):=by rw[M0 _ (by omega)];exact g13c
  rw[hst]
  refine⟨by rw[hc13c.three];omega,⟨by rw[M0 _ (by omega),M0 _ (by omega)];exact hS9.g2,by rw[M0 _ (by omega),M0 _ (by omega)];exact hS9.g5,by rw[M0 _ (by omega),M0 _ (by omega)];exact hS9.g14,⟨c2,hc2,Q0 _ _ _,?_⟩,⟨P,by rw[M0 _ (by omega)];exact Q0 _ _ _,?_⟩,?_,?_,by omega,by omega,by omega,by omega,by omega⟩,?_⟩
  .exact (hr9.boxs g129 (X8 rfl) (.inl rfl)).boxs w12 (D23 hc13c) (.inl rfl)
  .refine (hl9.write g129 fun v hv => ?_).write w12 fun v hv => ?_
   .obtain⟨y,_,rfl⟩:=List.mem_map.1 hv;exact nsl _ _ _ rfl _ _ _
   .obtain⟨y,_,rfl⟩:=List.mem_map.1 hv;exact ntr _ _ _ hc13c rfl
  .refine ((hS9.eS.ext (D0.self (m:=m9+4) (by omega))).write g129 fun v hv => ?_).write w12 fun v hv => ?_
   .obtain⟨y,_,rfl⟩:=List.mem_map.1 hv;exact nsl _ _ _ rfl _ _ _
   .obtain⟨y,_,rfl⟩:=List.mem_map.1 hv;exact ntr _ _ _ hc13c rfl
  .exact hwS
  .exact ((hk9.trans (W64 (D0.self (m:=m9+4) (by omega)))).hs (.inr (.inl rfl))).hs (.inr (.inr (.inl rfl)))
 .have hg:¬ Q11 x s.2<0:=fun hh=>hlt (Q22.1 hh)
  have hst:(if x<s.2 then (l,x) else s)=s:=if_neg hlt
  simp (disch:=first|omega|assumption) only[W0,hg]
  rw[hst]
  exact⟨hS9,hk9⟩
set_option maxHeartbeats 4000000 in
theorem X77:∀ (n:Nat) (l rest:List Nat),rest.length=n->rest.Nodup->l.length+n<=32->(∀ x ∈ Q10 n l rest,IsP N f x)->∀ (s:List Nat × Rat) (H:Y0) (m:Nat),LS es N f A cap q2 q5 q14 q13 q12 s H m->∀ (P R:Option Addr) (capR:Nat),
  Sl H m P (R3 (l.map fun (x:Nat)=>(x:Int)))->Has H m P->(∀ b o t,P=some ⟨b,o,t⟩->b≠q12/\b≠q13/\b≠q14)->Sl H m R (R3 (rest.map fun (x:Nat)=>(x:Int)))->Has H m R->(∀ b o t,R=some ⟨b,o,t⟩->b≠q12/\b≠q13/\b≠q14)->(R=none->capR=0) ->
  J2 Tryd.prog 14 [.slice P l.length l.length,.slice R n capR,.func (.func 16) ⟨[]⟩ ⟨[.pointer (some ⟨q2,0,none⟩),.pointer (some ⟨q5,0,none⟩),.pointer (some ⟨q14,0,none⟩),.pointer (some ⟨q13,0,none⟩),.pointer (some ⟨q12,0,none⟩)]⟩] H m
   fun r H' m'=>LS es N f A cap q2 q5 q14 q13 q12 ((Q10 n l rest).foldl (K30 (wid es N f)) s) H' m'/\KX q12 q13 q14 H m H' m':=by
 intro n
 induction n with
 | zero=>
  intro l rest hn hnd hll hx s H m h P R capR hl h0 _ hr _ _ _
  refine spec14 ?_
  unfold F14
  have hP:IsP N f l:=hx l (by simp[Q10])
  simp (disch:=first|omega|assumption) only[W0,B0.val]
  refine Y34 (V81 hN hf hsm hle hcov hd1 hd2 hd3 hd4 h hP hl h0) ?_
  rintro _ H1 m1 ⟨h1,h2⟩
  exact⟨h1,h2⟩
 | succ n ih=>
  intro l rest hn hnd hll hx s H m h P R capR hl h0 hPn hr hr0 hRn hcR
  refine spec14 ?_
  unfold F14
  have hn0:¬ (((n+1:Nat):Int)=0):=by omega
  have hPc:P=none->l.length=0:=fun e=>by
   subst e
   cases l with
   | nil=>rfl
   | cons x l=>
    obtain⟨b,o,row,e,_⟩:=hl.open (i:=0) (by simp[R3])
    cases e
  have hrl:(rest.map fun (x:Nat)=>(x:Int)).length=n+1:=by rw[List.length_map];exact hn
  have hll2:(l.map fun (x:Nat)=>(x:Int)).length=l.length:=by simp
  simp (disch:=first|omega|assumption) only[W0,B0.val,hn0]
  refine E1 (m:=n+1) (fun k L' H' m'=>∃ i:Nat,k+i=n+1/\L'=[.int .i64 (i:Int)]/\LS es N f A cap q2 q5 q14 q13 q12 (((rest.take i).flatMap fun v=>Q10 n (l++[v]) (rest.erase v)).foldl (K30 (wid es N f)) s) H' m'/\KX q12 q13 q14 H m H' m') ?_
   ⟨0,by omega,rfl,by simpa using h,W64 (D0.refl H m)⟩
  rintro k ihk L1 H2 m2 ⟨i,hk,rfl,h2,hk2⟩ hih
  by_cases hi:i<n+1
  case neg=>
   have hi':¬ (i:Int)<((n+1:Nat):Int):=by omega
   obtain rfl:i=n+1:=by omega
   rw[List.take_of_length_le (by omega)] at h2
   simp (disch:=first|omega|assumption) only[W0,hi']
   exact⟨h2,hk2⟩
  have hi':(i:Int)<((n+1:Nat):Int):=by omega
  obtain⟨v,hv⟩:∃ v,rest[i]? = some v:=⟨_,List.getElem?_eq_getElem (by omega)⟩
  have hvm:=List.mem_of_getElem? hv
  have hvI:(rest.map fun (x:Nat)=>(x:Int))[i]? = some (v:Int):=by rw[List.getElem?_map,hv];rfl
  have hl2:=h.keep hk2 hl
  have hr2:=h.keep hk2 hr
  have hP2:=h.has hk2 h0 hPn
  have hR2:=h.has hk2 hr0 hRn
  obtain⟨Rb,o,row,rfl,hRn2,hrow,hget⟩:=hr2.open (i:=i) (by rw[W5];omega)
  have q0:=hget _ _ (U17 hvI)
  have hle2:=hk2.le
  simp (disch:=first|omega|assumption) only[W0,hi',Y3 hrow,q0]
  have hc1:=Z58 (cap:=l.length) hl2 hP2 (by rw[hll2];omega) hPc
  rw[hll2] at hc1
  refine K0 hc1 ?_
  rintro v3 H3 m3 ⟨hA3,hE3⟩
  have hbs:∀ (x:Int) k,G7 1 1 [.int .i64 0] [(0,.int .i64 x)] k=k [.int .i64 x]:=fun x k=>rfl
  rw[hbs]
  have hE4:D0 H3 m3 (Go.Clo.hs H3 m3 (some (.cells [.int .i64 (v:Int)] 0))) (m3+1):=(D0.refl _ _).new _ (Nat.le_refl _) (by omega)
  have g4:X0 (Go.Clo.hs H3 m3 (some (.cells [.int .i64 (v:Int)] 0))) m3=some (.cells [.int .i64 (v:Int)] 0):=Q0 _ _ _
  have hle3:=hE3.le
  generalize Go.Clo.hs H3 m3 (some (.cells [.int .i64 (v:Int)] 0))=H4 at *
  refine Z57 (H0:=H2) (lo:=m2) (y := .int .i64 (v:Int)) (hA3.ext hE4) (Z8 g4 rfl (by omega)) rfl (by omega) (by rw[W5,hll2];omega) (hE3.trans hE4) (by omega) ?_
  intro v5 H5 hA5 hE5 _
  have eL:R3 (l.map fun (x:Nat)=>(x:Int))++[.int .i64 (v:Int)]=R3 ((l++[v]).map fun (x:Nat)=>(x:Int)):=by simp[R3]
  rw[eL] at hA5
  obtain⟨P5,rfl,hP5,hP5h⟩:=hA5.sl
  have hlen5:(R3 ((l++[v]).map fun (x:Nat)=>(x:Int))).length=(l++[v]).length:=by rw[W5,List.length_map]
  rw[hlen5]
  have hP5n:∀ b o t,P5=some ⟨b,o,t⟩->m2<=b:=fun b o t e=>by
   rcases hA5 with ⟨_,⟨_,e2⟩ | ⟨q,a1,a2,a3,a4⟩⟩ | ⟨_,q,a1,a2,a3,a4⟩
   .injection e2 with e3
    rw[e] at e3;cases e3
   .injection a3 with e3
    rw[e] at e3
    injection e3 with e4
    injection e4 with e5
    omega
   .injection a3 with e3
    rw[e] at e3
    injection e3 with e4
    injection e4 with e5
    omega
  have hr5:=hr2.ext hE5
  have hc6:=Z58 (cap:=capR) hr5 (hR2.ext hE5) (by rw[hrl];omega) (fun e=>by cases e)
  rw[hrl] at hc6
  refine K0 hc6 ?_
  rintro v6 H6 m6 ⟨hA6,hE6⟩
  have hne6:R3 (rest.map fun (x:Nat)=>(x:Int))≠[]:=fun e=>by
   have:=congrArg List.length e
   rw[W5,hrl] at this;simp at this
  obtain⟨b6,a1,a2,rfl,a4⟩:∃ b,m3+1+1<=b/\b<m6/\v6 = .slice (some ⟨b,0,none⟩) (n+1) (n+1)/\X0 H6 b=some (.cells (R3 (rest.map fun (x:Nat)=>(x:Int))) 1):=by
   rcases hA6 with ⟨_,⟨e0,_⟩ | ⟨q,a1,a2,a3,a4⟩⟩ | ⟨e0,_⟩
   .rw[W5,hrl] at e0;omega
   .rw[W5,hrl] at a3
    exact⟨q,a1,a2,a3,a4⟩
   .exact absurd e0 hne6
  have hlen6:=hE6.le
  have hdel:=D75 (i:=i) a2 a4 (by rw[hrl];exact hi) (by rw[hrl];omega)
  rw[hrl] at hdel
  refine K0 hdel ?_
  rintro _ H7 m7 ⟨rfl,hH7,hm7⟩
  rw[hH7,hm7]
  clear hH7 hm7
  have hE27:D0 H2 m2 (Go.Clo.hs H6 b6 (some (.cells (R3 ((rest.map fun (x:Nat)=>(x:Int)).take i++(rest.map fun (x:Nat)=>(x:Int)).drop (i+1)++[0])) 1))) m6:=(hE5.trans hE6).hs (by omega)
  have herase:(rest.erase v).map (fun (x:Nat)=>(x:Int))=(rest.map fun (x:Nat)=>(x:Int)).take i++(rest.map fun (x:Nat)=>(x:Int)).drop (i+1):=by
   rw[J62 hnd hv,List.map_append,List.map_take,List.map_drop]
  have hel:(rest.erase v).length=n:=by rw[List.length_erase_of_mem hvm];omega
  rw[<- herase]
  have h7:=h2.ext hE27
  have hrest7:Sl (Go.Clo.hs H6 b6 (some (.cells (R3 ((rest.erase v).map (fun (x:Nat)=>(x:Int))++[0])) 1))) m6 (some ⟨b6,0,none⟩) (R3 ((rest.erase v).map fun (x:Nat)=>(x:Int))):=fun j u hu=>by
   refine⟨b6,0,_,rfl,a2,by rw[V3,Q0];rfl,?_⟩
   rw[Nat.zero_add,E34,List.getElem?_append_left (List.getElem?_eq_some_iff.1 hu).1]
   exact hu
  rw[<- herase] at h7 hE27
  have hP7:Sl (Go.Clo.hs H6 b6 (some (.cells (R3 ((rest.erase v).map (fun (x:Nat)=>(x:Int))++[0])) 1))) m6 P5 (R3 ((l++[v]).map fun (x:Nat)=>(x:Int))):=hP5.ext (hE6.hs (by omega))
  have hP7h:Has (Go.Clo.hs H6 b6 (some (.cells (R3 ((rest.erase v).map (fun (x:Nat)=>(x:Int))++[0])) 1))) m6 P5:=hP5h.ext (hE6.hs (by omega))
  have hn1:n+1-1=n:=by omega
  rw[hn1]
  have lt12:=h2.l12;have lt13:=h2.l13;have lt14:=h2.l14
  refine K0 (ih (l++[v]) (rest.erase v) hel (hnd.erase v) (by simp;omega) (fun x hxm=>hx x ?_) _ _ _ h7 P5 (some ⟨b6,0,none⟩) (n+1) hP7 hP7h (fun b o t e => ?_) hrest7 (.inr ⟨b6,0,_,rfl,a2,by rw[V3,Q0];rfl⟩) (fun b o t e => ?_) (fun e=>by cases e)) ?_
  .show x ∈ rest.flatMap fun v=>Q10 n (l++[v]) (rest.erase v)
   exact List.mem_flatMap.2 ⟨v,hvm,hxm⟩
  .have:=hP5n b o t e
   omega
  .cases e
   omega
  rintro _ H8 m8 ⟨h8,hk8⟩
  refine hih (k-1) _ _ _ (by omega) ⟨i+1,by omega,by simp,?_,(hk2.trans (W64 hE27)).trans hk8⟩
  rw[K9 hv,List.flatMap_append,List.foldl_append]
  simpa using h8
end
end Go.Proofs.YtpiobdofbhkmjaaDoor

namespace Go.Clo
theorem B67 {a b:Nat} (hb:b<=a) (ha:a<4294967296) (k:VP):J0 .sub (.int .u32 (a:Int)) (.int .u32 (b:Int)) k=k (.int .u32 ((a-b:Nat):Int)):=by
 rw[C7]
 have e:IntKind.u32.wrap ((a:Int)-(b:Int))=((a-b:Nat):Int):=by
  simp only[IntKind.wrap,IntKind.signed,IntKind.bits]
  simp
  omega
 show k (.int .u32 (IntKind.u32.wrap ((a:Int)-(b:Int))))=_
 rw[e]
end Go.Clo
namespace Go.Proofs.YtpiobdofbhkmjaaDoor
open Go.Clo
theorem U75:X4 1000 100000:=by
 have h1:(R0 1).length<=1:=X7 (by omega)
 have h0:(R0 1000).length<=1:=X7 (by omega)
 exact⟨by show (R0 1000).length<_;omega,by show (R0 1).length<_;omega⟩
theorem LS.rr {es:List Nat} {N f:Nat} {A:Option Addr} {cap q2 q5 q14 q13 q12:Nat} {s s':List Nat × Rat} {H H':Y0} {m m':Nat} (h:LS es N f A cap q2 q5 q14 q13 q12 s H m) (h':LS es N f A cap q2 q5 q14 q13 q12 s' H' m') (e:KX q12 q13 q14 H m H' m')
  (hd1:q12≠q13) (hd2:q12≠q14) (hd3:q13≠q14) {v:Value} {x:Rat} (hr:RR H m v x):RR H' m' v x:=by
 obtain⟨B1,g12,_⟩:=h.c12
 obtain⟨c1,hc1,g13,_⟩:=h.c13
 obtain⟨B2,g12',_⟩:=h'.c12
 obtain⟨c2,hc2,g13',_⟩:=h'.c13
 have r1:=hr.boxs (row':=[.slice B2 s'.1.length s'.1.length]) g12 (X8 rfl) (.inl rfl) (s':=0)
 have k13:X0 (hs H q12 (some (.cells [.slice B2 s'.1.length s'.1.length] 0))) q13=some (.cells c1 0):=by rw[M0 _ (by omega)];exact g13
 have r2:=r1.boxs (row':=c2) k13 (D23 hc1) (.inl rfl) (s':=0)
 have k14:X0 (hs (hs H q12 (some (.cells [.slice B2 s'.1.length s'.1.length] 0))) q13 (some (.cells c2 0))) q14=some (.cells [.bool true] 0):=by rw[M0 _ (by omega),M0 _ (by omega)];exact h.g14
 have r3:=r2.boxs (row':=[.bool true]) k14 (X8 rfl) (.inl rfl) (s':=0)
 refine (r3.sub fun i b hi hb => ?_).ext (D0.self e.le)
 by_cases e14:i=q14
 .subst e14;rw[Q0] at hb;rw[<- hb];exact h'.g14
 by_cases e13:i=q13
 .subst e13;rw[M0 _ e14,Q0] at hb;rw[<- hb];exact g13'
 by_cases e12:i=q12
 .subst e12;rw[M0 _ e14,M0 _ e13,Q0] at hb;rw[<- hb];exact g12'
 rw[M0 _ e14,M0 _ e13,M0 _ e12] at hb
 rw[e.get i hi e12 e13 e14];exact hb
set_option maxHeartbeats 8000000 in
theorem Z97 (N:Int) (fr:Nat) (A:Option Addr) (es:List Nat) (cap:Nat) (H:Y0) (nx:Nat) (hS:Sl H nx A (N1 es)) (hsm32:Z4 es) (hfr:fr<256):
  J2 Tryd.prog 4 [gv N A es.length cap,.int .u8 (fr:Int)] H nx fun r _ _=>r = .bool true:=by
 refine spec4 ?_
 unfold F4
 have hE1:D0 H nx (hs H nx (some (.cells [.int .i64 N,.slice A es.length cap] 0))) (nx+1):=(D0.refl H nx).new _ (Nat.le_refl _) (by omega)
 have g1:X0 (hs H nx (some (.cells [.int .i64 N,.slice A es.length cap] 0))) nx=some (.cells [.int .i64 N,.slice A es.length cap] 0):=Q0 _ _ _
 simp only[gv]
 rw[X31]
 refine (@if_pos _ _ (show Z0 [Value.int .i64 N,.slice A es.length cap]=true from rfl) _ _ _).mpr ?_
 rw[X18]
 simp only[B0.val]
 generalize hs H nx (some (.cells [.int .i64 N,.slice A es.length cap] 0))=H1 at *
 refine J6 (fun L' H' m'=>∃ q:Bool,L'=[.bool q]/\(q=false->∃ n:Nat,N=n/\1<=n/\n<=6/\es.length<=8/\∀ e ∈ es,e<2^n)/\D0 H1 (nx+1) H' m') (fun j hj => ?_) ?_
 case refine_1=>
  simp (disch:=first|omega|assumption) only[W0,g1,J3]
  refine K0 (Z90 N A es cap _ _ (hS.ext hE1) hsm32) ?_
  rintro _ H3 m3 ⟨⟨c,rfl,hc⟩,hE3⟩
  have g3:=(hE3.get nx (by omega)).trans g1
  cases c with
  | false=>
   simp (disch:=first|omega|assumption) only[W0]
   exact hj _ _ _ ⟨true,rfl,fun h=>(by cases h),hE3⟩
  | true=>
   obtain⟨h0,h6,hle,hgc⟩:=hc rfl
   simp (disch:=first|omega|assumption) only[W0,g3]
   refine hj _ _ _ ⟨_,rfl,fun hq => ?_,hE3⟩
   have hN0:¬ N=0:=by simpa using hq
   have hfc:V9 N 0 es=0:=by
    unfold V9
    rw[hgc];simp;omega
   obtain⟨n,f,e1,_,_,_,_,hes⟩:=D42 hfc
   exact⟨n,e1,by omega,by omega,by omega,hes⟩
 rintro _ H2 nx2 ⟨q,rfl,hq,hE2⟩
 cases q with
 | true=>
  simp (disch:=first|omega|assumption) only[W0,B0.val]
  refine K0 (C21 _ _) ?_
  rintro _ _ _ ⟨rfl,rfl,rfl⟩
  simp (disch:=first|omega|assumption) only[]
 | false=>
 obtain⟨n,rfl,hn1,hn6,hle,hsm⟩:=hq rfl
 have g2:=(hE2.get nx (by omega)).trans g1
 have hle2:=hE2.le
 have hE02:=hE1.trans hE2
 obtain⟨f,hfd⟩:∃ f:Nat,f=if n > 4+fr%(n+1) then n-4 else fr%(n+1):=⟨_,rfl⟩
 have hfm:fr%(n+1)<n+1:=Nat.mod_lt _ (by omega)
 have hf:f<=n:=by rw[hfd];split<;>omega
 have ec:∀ k,M3 .i64 (.int .u8 (fr:Int)) k=k (.int .i64 (fr:Int)):=fun k=>by rw[W17,R26 (by omega) (by omega)]
 have hcz:(n:Int)+1≠0:=by omega
 have hmod:Int.tmod (fr:Int) ((n:Int)+1)=((fr%(n+1):Nat):Int):=rfl
 have hmax:(if (n:Int)-4 > ((fr%(n+1):Nat):Int) then (n:Int)-4 else ((fr%(n+1):Nat):Int))=(f:Int):=by
  rw[hfd]
  split<;>split<;>omega
 have hput1:∀ a b:Value,G6 [a] 0 [b]=[b]:=fun _ _=>rfl
 simp (config:={ maxSteps:=2000000 }) (disch:=first|omega|assumption) only[W0,B0.val,ec,g2,G37 _ _ _ _ hcz,hmod,D68,hmax,hput1,J3]
 generalize hK7:hs (hs H2 (nx2+10) (some (.cells [.int .i64 0] 0))) (nx2+10) (some (.cells [.int .i64 (f:Int)] 0))=H7
 have hE7:D0 H2 nx2 H7 (nx2+12):=by rw[<- hK7];exact ((D0.self (by omega):D0 H2 nx2 H2 (nx2+12)).hs (by omega)).hs (by omega)
 have g75:X0 H7 (nx2+10)=some (.cells [.int .i64 (f:Int)] 0):=by rw[<- hK7,Q0]
 have g72:=(hE7.get nx (by omega)).trans g2
 clear hK7
 have hE07:=hE02.trans hE7
 refine K0 (R69 (hS.ext hE07) hn6 hf hsm hle) ?_
 rintro r8 H8 nx8 ⟨hE8,hr8⟩
 have hle8:=hE8.le
 have hE08:=hE07.trans hE8
 have g82:=(hE8.get nx (by omega)).trans g72
 have g85:=(hE8.get (nx2+10) (by omega)).trans g75
 obtain⟨P,lp,w,U9,rfl,⟨c8,rfl,hc8⟩,hans⟩:∃ P lp w U9,r8 = .tuple ⟨[.slice P lp lp,w,.int .i64 U9]⟩/\(∃ c8,w = .agg ⟨c8⟩/\G9 c8)/\((orF es es.length≠2^n-1/\lp=0/\U9=9) \/
   (orF es es.length=2^n-1/\U9=0/\lp=(N27 es n f).length/\Sl H8 nx8 P (R3 (N27 es n f))/\RR H8 nx8 w (J7 es n f))):=by
  rcases hr8 with ⟨h1,rfl⟩ | ⟨h1,B,w,rfl,h2,h3⟩
  .exact⟨none,0,M74,9,rfl,⟨_,rfl,_,_,_,_,_,_,_,rfl⟩,.inl ⟨h1,rfl,rfl⟩⟩
  .obtain⟨c,rfl,hc⟩:=h3.num
   exact⟨B,_,_,0,rfl,⟨c,rfl,hc⟩,.inr ⟨h1,rfl,rfl,h2,h3⟩⟩
 have hE10:D0 H8 nx8 (hs (hs H8 nx8 (some (.cells [.bool false,.slice none 0 0,.slice none 0 0] 0))) nx8 (some (.cells c8 0))) (nx8+1):=((D0.refl _ _).new _ (Nat.le_refl _) (m:=nx8+1) (by omega)).hs (Nat.le_refl _)
 have g107:X0 (hs (hs H8 nx8 (some (.cells [.bool false,.slice none 0 0,.slice none 0 0] 0))) nx8 (some (.cells c8 0))) nx8=some (.cells c8 0):=Q0 _ _ _
 simp (config:={ maxSteps:=2000000 }) (disch:=first|omega|assumption) only[W0,Nat.reduceAdd,hc8.three,hc8.one,Z5 (show c8.length=[Value.bool false,.slice none 0 0,.slice none 0 0].length from hc8.three),g82]
 generalize hs (hs H8 nx8 (some (.cells [.bool false,.slice none 0 0,.slice none 0 0] 0))) nx8 (some (.cells c8 0))=H10 at *
 have hE010:=hE08.trans hE10
 have g102:=(hE10.get nx (by omega)).trans g82
 have g105:=(hE10.get (nx2+10) (by omega)).trans g85
 have horl:=G36 hsm
 refine E1 (m:=es.length) (fun m L H' nx'=>∃ i:Nat,m+i=es.length/\L=[.int .u32 (orF es i:Int),.int .i64 (i:Int)]/\H10=H'/\nx8+1=nx') ?_ ⟨0,by omega,rfl,rfl,rfl⟩
 rintro m2 ih2 L2 _ _ ⟨i2,hm2,rfl,rfl,rfl⟩ hih2
 have hp64:2^n<=64:=Nat.pow_le_pow_right (n:=2) (by omega) hn6
 have hp1:0<2^n:=Nat.two_pow_pos n
 by_cases hi2:i2<es.length
 .have hi2':(i2:Int)<(es.length:Int):=by omega
  obtain⟨e,he⟩:∃ e,es[i2]? = some e:=⟨_,List.getElem?_eq_getElem hi2⟩
  obtain⟨B,o,row,rfl,hBn,hrow,hget⟩:=(hS.ext hE010).open (i:=i2) (by rw[G1];omega)
  have q0:=hget _ _ (G3 he)
  have he32:=hsm32.get he
  have h1:=horl i2 (by omega)
  have h132:orF es i2<4294967296:=by omega
  simp (config:={ maxSteps:=2000000 }) (disch:=first|omega|assumption) only[W0,hi2',Y3 hrow,q0]
  exact hih2 (m2-1) _ _ _ (by omega) ⟨i2+1,by omega,by rw[N48 he];simp,rfl,rfl⟩
 have hi2':¬ (i2:Int)<(es.length:Int):=by omega
 obtain rfl:i2=es.length:=by omega
 clear hih2
 have horE:=horl es.length (Nat.le_refl _)
 have hp32:2^n<4294967296:=by omega
 have hsub:∀ k,J0 .sub (.int .u32 ((2^n:Nat):Int)) (.int .u32 1) k=k (.int .u32 ((2^n-1:Nat):Int)):=fun k=>B67 (b:=1) hp1 hp32 k
 have hn32:n<32:=by omega
 rcases hans with ⟨hco,rfl,rfl⟩ | ⟨hco,rfl,rfl,hP,hw⟩
 .have hco':¬ (orF es es.length:Int)=((2^n-1:Nat):Int):=by omega
  simp (config:={ maxSteps:=2000000 }) (disch:=first|omega|assumption) only[W0,hi2',g102,hsub,hco',ne_eq,not_false_eq_true]
  refine K0 (C21 _ _) ?_
  rintro _ _ _ ⟨rfl,rfl,rfl⟩
  simp (config:={ maxSteps:=2000000 }) (disch:=first|omega|assumption) only[W0]
 have hcov:∀ w,w<n->∃ e ∈ es,e.testBit w=true:=fun w hw=>N28.1 (by rw[hco,Nat.testBit_two_pow_sub_one];simpa using hw)
 obtain⟨gg,hg1,hg2,hg3,hg4⟩:=C36 hn6 hsm hle hcov hf
 have hmin:=fun l hl=>D37 hn6 hsm hle hcov hf (Z15 (N:=n) (f:=f) (x:=l) hl)
 have hfold:(Q10 (n-f) [] (B11 n f)).foldl (K30 (wid es n f)) ([],1000)=(gg,J7 es n f):=N56 hmin (by show J7 es n f<1000;grind) hg1
 have hWS:X4 (J7 es n f) 100000:=Z37 hf hle _ (Nat.le_refl _)
 simp (config:={ maxSteps:=2000000 }) (disch:=first|omega|assumption) only[W0,hi2',g102,hsub,hco,ne_eq,not_true_eq_false]
 have hE13:D0 H10 (nx8+1) (hs H10 (nx8+1) (some (.cells [.slice none 0 0] 0))) (nx8+1+1):=(D0.refl _ _).new _ (Nat.le_refl _) (by omega)
 have g1312:X0 (hs H10 (nx8+1) (some (.cells [.slice none 0 0] 0))) (nx8+1)=some (.cells [.slice none 0 0] 0):=Q0 _ _ _
 generalize hs H10 (nx8+1) (some (.cells [.slice none 0 0] 0))=H13 at *
 refine K0 (V16 (n:=1000) (by omega) (by omega) _ _) ?_
 rintro r14 H14 nx14 ⟨hr14,hE14⟩
 obtain⟨c14,rfl,hc14⟩:=hr14.num
 have hle14:=hE14.le
 have g1412:=(hE14.get (nx8+1) (by omega)).trans g1312
 have g142:=(hE14.get nx (by omega)).trans ((hE13.get nx (by omega)).trans g102)
 have g145:=(hE14.get (nx2+10) (by omega)).trans ((hE13.get (nx2+10) (by omega)).trans g105)
 have g147:=(hE14.get nx8 (by omega)).trans ((hE13.get nx8 (by omega)).trans g107)
 have hE014:=(hE010.trans hE13).trans hE14
 have hE814:=(hE10.trans hE13).trans hE14
 simp (config:={ maxSteps:=2000000 }) (disch:=first|omega|assumption) only[W0,Nat.reduceAdd,hc14.three,hc14.one,Z5 (show c14.length=[Value.bool false,.slice none 0 0,.slice none 0 0].length from hc14.three),hput1,g145,g142]
 generalize hK18:hs (hs (hs (hs H14 nx14 (some (.cells [.bool false,.slice none 0 0,.slice none 0 0] 0))) (nx14+1) (some (.cells [.bool false] 0))) nx14 (some (.cells c14 0))) (nx14+1) (some (.cells [.bool true] 0))=H18
 have hE18:D0 H14 nx14 H18 (nx14+1+1):=by rw[<- hK18];exact (((((D0.self (by omega):D0 H14 nx14 H14 (nx14+1+1)).hs (by omega)).hs (by omega)).hs (by omega)).hs (by omega))
 have s13:X0 H18 nx14=some (.cells c14 0):=by rw[<- hK18,M0 _ (by omega),Q0]
 have s14:X0 H18 (nx14+1)=some (.cells [.bool true] 0):=by rw[<- hK18,Q0]
 clear hK18
 have hr18:=hr14.ext hE18
 refine K0 (E87 (n:=n) hf (by omega)) ?_
 rintro r19 H19 nx19 ⟨hA19,hE19⟩
 have hle19:=hE19.le
 obtain⟨R,rfl,hR,hRH⟩:=Y71 hA19
 have hRn:∀ b o t,R=some ⟨b,o,t⟩->nx14+1+1<=b:=fun b o t e=>by
  obtain⟨_,⟨_,e2⟩ | ⟨q,a1,a2,a3,a4⟩⟩:=hA19
  .injection e2 with e3
   rw[e] at e3;cases e3
  .injection a3 with e3
   rw[e] at e3
   injection e3 with e4
   injection e4 with e5
   omega
 have hR0:R=none->n-f=0:=fun e=>by
  obtain⟨_,⟨h0,_⟩ | ⟨q,a1,a2,a3,a4⟩⟩:=hA19
  .exact h0
  .injection a3 with e3
   rw[e] at e3;cases e3
 rw[J70] at hR
 have hE1419:=hE18.trans hE19
 have hLS:LS es n f A cap nx (nx2+10) (nx14+1) nx14 (nx8+1) ([],1000) H19 nx19:=
  ⟨(hE1419.get nx (by omega)).trans g142,(hE1419.get (nx2+10) (by omega)).trans g145,(hE19.get (nx14+1) (by omega)).trans s14,⟨c14,hc14,(hE19.get nx14 (by omega)).trans s13,hr18.ext hE19⟩,
   ⟨none,(hE1419.get (nx8+1) (by omega)).trans g1412,Sl.nil _ _ _⟩,(hS.ext hE014).ext hE1419,U75,by omega,by omega,by omega,by omega,by omega⟩
 have hP19:=hP.ext (hE814.trans hE1419)
 have hw19:=hw.ext (hE814.trans hE1419)
 have g197:=(hE1419.get nx8 (by omega)).trans g147
 have hd:(nx8+1≠nx14)/\(nx8+1≠nx14+1)/\(nx14≠nx14+1):=by omega
 refine K0 (X77 hn6 hf hsm hle hcov hd.1 hd.2.1 hd.2.2 (by omega) (n-f) [] (B11 n f) (by simp[B11]) ((G15 n f).imp fun h=>Nat.ne_of_lt h) (by simp;omega) (fun x hx=>Z15 hx) _ _ _ hLS none R (n-f)
  (Sl.nil _ _ _) (.inl rfl) (fun b o t e=>by cases e) hR hRH (fun b o t e=>by have:=hRn b o t e;omega) hR0) ?_
 rintro _ H20 nx20 ⟨h20,hk20⟩
 rw[hfold] at h20
 have hP20:=hLS.keep hk20 hP19
 have hw20:=hLS.rr h20 hk20 hd.1 hd.2.1 hd.2.2 hw19
 have g207:=(hk20.get nx8 (by omega) (by omega) (by omega) (by omega)).trans g197
 obtain⟨B12,g12,hB12⟩:=h20.c12
 obtain⟨c13,hc13,g13,hr13⟩:=h20.c13
 have hg14:=h20.g14
 refine K0 (C21 _ _) ?_
 rintro _ _ _ ⟨rfl,rfl,rfl⟩
 dsimp only at g12 hB12 hr13
 simp (config:={ maxSteps:=2000000 }) (disch:=first|omega|assumption) only[W0,hg14,g12]
 have hlg:(gg.map fun (x:Nat)=>(x:Int)).length=gg.length:=by simp
 have heq:=G81 (ca:=(N27 es n f).length) (cb:=gg.length) hP20 hB12 (by rw[hg2,hlg,(Z15 (List.mem_of_find?_eq_some hg1)).len];omega)
 rw[hlg] at heq
 refine K0 heq ?_
 rintro _ H22 nx22 ⟨rfl,hE22⟩
 have d1:decide (N27 es n f=gg.map fun (x:Nat)=>(x:Int))=true:=decide_eq_true hg2
 have g227:=(hE22.get nx8 (by have:=hk20.le;omega)).trans g207
 have g2213:=(hE22.get nx14 (by have:=hk20.le;omega)).trans g13
 simp (config:={ maxSteps:=2000000 }) (disch:=first|omega|assumption) only[W0,d1,g227,Q3 hc8,g2213,Q3 hc13]
 refine K0 (N20 (hw20.ext hE22) (hr13.ext hE22) hWS hWS) ?_
 rintro _ H23 nx23 ⟨rfl,hE23⟩
 have hz:Q11 (J7 es n f) (J7 es n f)=0:=by
  have a1:=(G43 (x:=J7 es n f) (y:=J7 es n f)).2 Rat.le_refl
  have a2:=(K70 (x:=J7 es n f) (y:=J7 es n f)).2 Rat.le_refl
  omega
 simp (config:={ maxSteps:=2000000 }) (disch:=first|omega|assumption) only[W0,hz]
end Go.Proofs.YtpiobdofbhkmjaaDoor
