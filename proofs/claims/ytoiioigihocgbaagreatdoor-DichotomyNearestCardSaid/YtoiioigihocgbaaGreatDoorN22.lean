/-
  Contracts: dichotomy.clique,the closure of search,search.
  Contract: dichotomy.search.
-/
import Derived.Test.YtoiioigihocgbaaGreatDoorN20
import Derived.Test.YtoiioigihocgbaaGreatDoorN21
import Derived.Test.YtoiioigihocgbaaGreatDoorN17
set_option linter.all false
noncomputable section
namespace Go.Clo
theorem B66{H:Y0}{nx b s bytes n cap:Nat}{c:List Value}{x y:Value}{k:EP}(hg:J0 H b=some (.cells c s))(hl:c.length=cap)(hn:n<cap)(hx:Src H 1 x 1 [y])(ho:Z0 [y]=true)(hb:bytes<=16)(hc:cap<=1000):
  B5 (.slice (some ⟨b,0,none⟩) n cap) x 1 bytes H nx k=k (.slice (some ⟨b,0,none⟩) (n+1) cap) (hs H b (some (.cells (c.set n y) s))) nx:=by
 have E:(2*(n+1)+1000)*bytes<=281474976710656:=by
  have:=Nat.mul_le_mul (show 2*(n+1)+1000<=4000 by omega) hb;omega
 unfold B5 Z22;rw[hx.len];dsimp only;rw[G1,V6 E,V6 (show n+1<=1000000000 by omega)];simp only[Bool.and_self,cond_true];rw[hx.first,ho,V6 (show n+1<=cap by omega)];simp only[cond_true];unfold C42;dsimp only;rw[G1,J30,hg,U20,Nat.zero_add,Nat.mul_one,N31 (by omega)];exact propext ⟨fun h=>h.2,fun h=>⟨by simp;omega,h⟩⟩
theorem R62{n:Nat}(h:n<=1000000)(z:Int)(k:List Value->Nat->Nat->Prop):D30 (.int .i64 0) (.int .i64 (n:Int)) [.int .i64 z] k=k (U4 (List.replicate n z)) 0 n:=by
 show(cond (Nat.ble 0 n&&Nat.ble n 1000000) (Go.Clo.spine (U3 [.int .i64 z] n) fun cs=>k cs 0 n) False)=_;rw[V6 (Nat.zero_le n),V6 h,B29];exact V2 _ _
end Go.Clo
namespace Go.Proofs.YtoiioigihocgbaaGreatDoor
open Go.Clo Go.Inv
theorem V57 (a:Addr) (l:List Nat) (cap:Nat) (H:Y0) (nx:Nat) (hS:Sl H nx (some a) (U4 (l.map fun (x:Nat)=>(x:Int)))) (h0:Has H nx (some a)) (hl:l.length<=100):
  Q2 Tryz.prog 26 [.slice (some a) l.length cap] H nx fun r H' nx'=>(∃ B,r = .slice B l.length l.length/\(l=[]\/∃ x s,B=some ⟨x,0,none⟩/\nx<=x/\x<nx'/\J0 H' x=some (.cells (U4 (l.map fun (x:Nat)=>(x:Int))) s)))/\D0 H nx H' nx':=by
 refine spec26 ?_
 unfold F26
 rw[G21]
 simp (disch:=first|omega|assumption|exact G0 (by assumption)|exact V0 (by assumption)|exact X0 (by omega)|fail) only[W0,Q0.val,Option.isNone,U21]
 have hX:D0 H nx (hs H nx (some (.cells [] 0))) (nx+1):=(D0.refl H nx).new _ (Nat.le_refl _) (by omega)
 refine R20 (lo:=nx) (H0:=H) (l:=U4 (l.map fun (x:Nat)=>(x:Int))) (E0 _ _ _) (Nat.le_refl _) (by omega) (C27 (hS.ext hX) (h0.ext hX) (by rw[J6,Nat.mul_one]) (by omega)) (K13 _) (by omega) (by omega) hX ?_
 intro v1 H1 nx1 _ hA1 hE1
 have hA2:=hA1
 obtain⟨P,rfl,hP,_⟩:=hA1.sl
 rw[J6]
 refine⟨⟨P,rfl,?_⟩,hE1⟩
 rcases hA2 with hA2 | ⟨e,_⟩
 .rcases hA2.2 with ⟨e,_⟩ | ⟨q,q1,q2,q3,q4⟩
  .rw[J6] at e
   exact .inl (List.length_eq_zero_iff.1 e)
  .injection q3 with q5
   exact .inr ⟨q,_,q5,q1,q2,q4⟩
 .have:=congrArg List.length e
  rw[J6] at this
  exact .inl (List.length_eq_zero_iff.1 this)
theorem Z54{f b set:Nat}{nl:List Nat}(hf:f<=6)(hl:nl.length=f)(W:∀ x ∈ nl,x<64)(hs:set<64)(H:Y0)(nx:Nat)(hg:J0 H b=some (.cells (C0 nl) 0)):
  Q2 Tryz.prog 84 [.slice (some ⟨b,0,none⟩) f f,.int .u32 (set:Int)] H nx fun r H' nx'=>(∃ c:Bool,r = .bool c/\(c=true<->∀ u x:Nat,u<f->nl[u]? = some x->set.testBit u=true->Z2 set x=2^u))/\D0 H nx H' nx':=by
 refine spec84 ?_;unfold F84;simp(disch:=first|omega|assumption)only[W0];refine B1 (m:=f) (fun m L H' nx'=>∃ i:Nat,m+i=f/\L=[.int .i64 (i:Int)]/\(∀ u x:Nat,u<i->nl[u]? = some x->set.testBit u=true->Z2 set x=2^u)/\H=H'/\nx<=nx') ?_ ⟨0,rfl,rfl,fun u x h=>by omega,rfl,Nat.le_refl _⟩;rintro m ih L _ n2 ⟨i,hm,rfl,O,rfl,V⟩ Q
 by_cases hi:i<f
 .have E:(i:Int)<(f:Int):=by omega
  obtain⟨x,hx⟩:∃ x,nl[i]? = some x:=⟨_,List.getElem?_eq_getElem (by omega)⟩
  have g0:=Q3 hx;have a0:=W x (List.mem_of_getElem? hx);have Z:i<32:=by omega
  have U:set<4294967296:=by omega
  have a2:x<4294967296:=by omega
  have a1:=G0 (n:=i) U
  cases hb:set.testBit i with
  | false=>
   simp(config:={ maxSteps:=2000000 }) (disch:=first|omega|assumption)only[W0,E,R1,hb];refine Q (m-1) _ _ _ (by omega) ⟨i+1,by omega,by simp,fun u y hu hy J => ?_,rfl,by omega⟩
   by_cases e:u=i
   .subst e;rw[hb] at J;cases J
   .exact O u y (by omega) hy J
  | true=>
   have a3:2^i<4294967296:=Y18 Z
   by_cases he:Z2 set x=2^i
   .have d1:decide (((Z2 set x:Nat):Int)≠((2^i:Nat):Int))=false:=by simp[he]
    simp(config:={ maxSteps:=2000000 }) (disch:=first|omega|assumption)only[W0,E,R1,hb,hg,g0,d1];refine Q (m-1) _ _ _ (by omega) ⟨i+1,by omega,by simp,fun u y hu hy J => ?_,rfl,by omega⟩
    by_cases e:u=i
    .subst e;rw[hx] at hy;cases hy;exact he
    .exact O u y (by omega) hy J
   .have d1:decide (((Z2 set x:Nat):Int)≠((2^i:Nat):Int))=true:=by
     rw[decide_eq_true_eq];intro e;exact he (Int.ofNat.inj e)
    simp(config:={ maxSteps:=2000000 }) (disch:=first|omega|assumption)only[W0,E,R1,hb,hg,g0,d1];exact⟨⟨false,rfl,fun h=>(by cases h),fun h=>absurd (h i x hi hx hb) he⟩,D0.self (by omega)⟩
 .have E:¬ (i:Int)<(f:Int):=by omega
  simp(disch:=first|omega|assumption)only[W0,E];exact⟨⟨true,rfl,fun _ u x hu hx hb=>O u x (by omega) hx hb,fun _=>rfl⟩,D0.self V⟩
structure QQ where
 fr:Nat
 ar:Nat
 nr:Nat
 be:Nat
 le:Nat
 fo:Nat
 se:Nat
 bl:Nat
def W17(l:List Nat):List Value:=U4 (l.map fun(x:Nat)=>(x:Int))
theorem K49(l:List Nat):(W17 l).length=l.length:=J6 l
def U37(best:Option (List Nat)):Nat:=match best with
 | some b=>R5 b
 | none=>0
structure SE (es:List Nat) (n f:Nat) (q:QQ) (best:Option (List Nat)) (c:List Value) (H:Y0) (m:Nat):Prop where
 o1:q.fr<q.ar
 o2:q.ar<q.nr
 o3:q.nr<q.be
 o4:q.be<q.le
 o5:q.le<q.fo
 o6:q.fo<q.se
 o7:q.se<q.bl
 o8:q.bl<m
 gfr:J0 H q.fr=some (.cells [.int .i64 (f:Int)] 0)
 gar:J0 H q.ar=some (.cells (C0 (nlF es n f)) 0)
 gnr:J0 H q.nr=some (.cells [.slice (some ⟨q.ar,0,none⟩) f f] 0)
 gbe:∃ B,J0 H q.be=some (.cells [.slice B (best.getD []).length (best.getD []).length] 0)/\(best.getD []=[]\/∃ x s,B=some ⟨x,0,none⟩/\q.bl<x/\x<m/\J0 H x=some (.cells (W17 (best.getD [])) s))
 gle:J0 H q.le=some (.cells [.int .i64 (U37 best:Int)] 0)
 gfo:J0 H q.fo=some (.cells [.bool best.isSome] 0)
 gse:J0 H q.se=some (.cells [.func (.func 83) ⟨[]⟩ ⟨[.pointer (some ⟨q.fo,0,none⟩),.pointer (some ⟨q.le,0,none⟩),.pointer (some ⟨q.fr,0,none⟩),.pointer (some ⟨q.be,0,none⟩),.pointer (some ⟨q.nr,0,none⟩),.pointer (some ⟨q.se,0,none⟩)]⟩] 0)
 gbl:J0 H q.bl=some (.cells c 0)
 cl:c.length=f
section
variable {es:List Nat} {n f:Nat} {q:QQ} {best:Option (List Nat)} {c:List Value} {H:Y0} {m:Nat}
theorem SE.ext{H':Y0}{m':Nat}(h:SE es n f q best c H m)(e:D0 H m H' m'):SE es n f q best c H' m':=by
 have o1:=h.o1;have o2:=h.o2;have o3:=h.o3;have o4:=h.o4;have o5:=h.o5;have o6:=h.o6;have o7:=h.o7;have o8:=h.o8;have E:=e.le;obtain⟨B,b1,b2⟩:=h.gbe;refine⟨o1,o2,o3,o4,o5,o6,o7,by omega,(e.get _ (by omega)).trans h.gfr,(e.get _ (by omega)).trans h.gar,(e.get _ (by omega)).trans h.gnr,⟨B,(e.get _ (by omega)).trans b1,?_⟩,(e.get _ (by omega)).trans h.gle,(e.get _ (by omega)).trans h.gfo,(e.get _ (by omega)).trans h.gse,(e.get _ (by omega)).trans h.gbl,h.cl⟩;rcases b2 with b2 | ⟨x,s,rfl,x1,x2,x3⟩
 .exact .inl b2
 .exact .inr ⟨x,s,rfl,x1,by omega,(e.get _ x2).trans x3⟩
theorem SE.put(h:SE es n f q best c H m){c':List Value}(hc:c'.length=f):SE es n f q best c' (hs H q.bl (some (.cells c' 0))) m:=by
 have o1:=h.o1;have o2:=h.o2;have o3:=h.o3;have o4:=h.o4;have o5:=h.o5;have o6:=h.o6;have o7:=h.o7;have o8:=h.o8;obtain⟨B,b1,b2⟩:=h.gbe;refine⟨o1,o2,o3,o4,o5,o6,o7,o8,(Z1 _ (by omega)).trans h.gfr,(Z1 _ (by omega)).trans h.gar,(Z1 _ (by omega)).trans h.gnr,⟨B,(Z1 _ (by omega)).trans b1,?_⟩,(Z1 _ (by omega)).trans h.gle,(Z1 _ (by omega)).trans h.gfo,(Z1 _ (by omega)).trans h.gse,E0 _ _ _,hc⟩;rcases b2 with b2 | ⟨x,s,rfl,x1,x2,x3⟩
 .exact .inl b2
 .exact .inr ⟨x,s,rfl,x1,x2,(Z1 _ (by omega)).trans x3⟩
theorem SE.found(h:SE es n f q best c H m){p:List Nat}{B:Option Addr}(hB:p=[]\/∃ x s,B=some ⟨x,0,none⟩/\q.bl<x/\x<m/\J0 H x=some (.cells (W17 p) s)):
  SE es n f q (some p) c (hs (hs (hs H q.be (some (.cells [.slice B p.length p.length] 0))) q.le (some (.cells [.int .i64 (R5 p:Int)] 0))) q.fo (some (.cells [.bool true] 0))) m:=by
 have o1:=h.o1;have o2:=h.o2;have o3:=h.o3;have o4:=h.o4;have o5:=h.o5;have o6:=h.o6;have o7:=h.o7;have o8:=h.o8;have key:∀ {i:Nat} {x y z:Option C1},i≠q.be->i≠q.le->i≠q.fo->J0 (hs (hs (hs H q.be x) q.le y) q.fo z) i=J0 H i:=fun a1 a2 a3=>by rw[Z1 _ a3,Z1 _ a2,Z1 _ a1]
 refine⟨o1,o2,o3,o4,o5,o6,o7,o8,(key (by omega) (by omega) (by omega)).trans h.gfr,(key (by omega) (by omega) (by omega)).trans h.gar,(key (by omega) (by omega) (by omega)).trans h.gnr,⟨B,?_,?_⟩,?_,E0 _ _ _,(key (by omega) (by omega) (by omega)).trans h.gse,(key (by omega) (by omega) (by omega)).trans h.gbl,h.cl⟩
 .rw[Z1 _ (by omega),Z1 _ (by omega)];exact E0 _ _ _
 .rcases hB with hB | ⟨x,s,rfl,x1,x2,x3⟩
  .exact .inl hB
  .exact .inr ⟨x,s,rfl,x1,x2,(key (by omega) (by omega) (by omega)).trans x3⟩
 .rw[Z1 _ (by omega)];exact E0 _ _ _
theorem Z51{Q:List Nat->Nat->Prop}{p:List Nat}(h:¬ Lss p best):∀ k,pr f Q k p best=best
 | 0=>by rw[pr,if_neg h]
 | k+1=>by rw[pr,if_neg h]
open Classical in
def prS(f:Nat)(Q:List Nat->Nat->Prop)(k:Nat)(p:List Nat)(best:Option (List Nat))(v:Nat):Option (List Nat):=
 (List.range v).foldl (fun s v=>if v ∉ p/\Q p v then pr f Q k (p++[v]) s else s) best
open Classical in
theorem Z31{Q:List Nat->Nat->Prop}{k:Nat}{p:List Nat}{v:Nat}:prS f Q k p best (v+1)=if v ∉ p/\Q p v then pr f Q k (p++[v]) (prS f Q k p best v) else prS f Q k p best v:=by
 unfold prS;rw[List.range_succ,List.foldl_append];rfl
theorem U60{x:Nat}(hn:n<=6)(h:x ∈ nlF es n f):x<64:=by
 obtain⟨v,_,rfl⟩:=List.mem_map.1 h;have:=G11 (adj es v) n;have h2:2^n<=2^6:=Nat.pow_le_pow_right (by omega) hn;omega
variable (hn:n<=6) (hf:f<=n)
include hn hf
set_option maxRecDepth 20000 in
set_option maxHeartbeats 8000000 in
theorem C61:∀ (k:Nat) (p:List Nat) (best:Option (List Nat)) (c:List Value) (H:Y0) (m:Nat),SE es n f q best c H m->p.Nodup->(∀ x ∈ p,x<f)->p.length+k=f->c.take p.length=W17 p ->
  Q2 Tryz.prog 83 [.slice (some ⟨q.bl,0,none⟩) p.length f,.int .u32 (E6 f p:Int),.int .i64 (R5 p:Int),.pointer (some ⟨q.fo,0,none⟩),.pointer (some ⟨q.le,0,none⟩),.pointer (some ⟨q.fr,0,none⟩),.pointer (some ⟨q.be,0,none⟩),.pointer (some ⟨q.nr,0,none⟩),.pointer (some ⟨q.se,0,none⟩)] H m
   fun r H' m'=>(∃ c',SE es n f q (pr f (G12 es) k p best) c' H' m'/\c'.take p.length=c.take p.length)/\m<=m'/\∀ i,i<q.fr->J0 H' i=J0 H i:=by
 intro k
 induction k with
 | zero=>
  intro p best c H m hE hnd hlt hpk htk
  have o1:=hE.o1;have o2:=hE.o2;have o3:=hE.o3;have o4:=hE.o4;have o5:=hE.o5;have o6:=hE.o6;have o7:=hE.o7;have o8:=hE.o8
  refine spec83 ?_
  unfold F83
  refine N5 (fun L H' m'=>(∃ c:Bool,L=[.bool c]/\(c=true<->¬ Lss p best))/\H=H'/\m=m') ?_ ?_
  .intro j hj
   cases best with
   | none=>
    simp (disch:=first|omega|assumption|exact G0 (by assumption)|exact V0 (by assumption)|exact X0 (by omega)|fail) only[W0,hE.gfo,Option.isSome_none]
    exact hj _ _ _ ⟨⟨false,rfl,fun h=>(by cases h),fun h=>absurd (fun b e=>by cases e) h⟩,rfl,rfl⟩
   | some b0=>
    simp (disch:=first|omega|assumption|exact G0 (by assumption)|exact V0 (by assumption)|exact X0 (by omega)|fail) only[W0,hE.gfo,hE.gle,Option.isSome_some,U37]
    refine hj _ _ _ ⟨⟨_,rfl,?_⟩,rfl,rfl⟩
    rw[decide_eq_true_eq]
    exact⟨fun h hl=>by have:=hl b0 rfl;omega,fun h=>Classical.byContradiction fun h2=>h fun b e=>by cases e;omega⟩
  rintro _ _ _ ⟨⟨cc,rfl,hcc⟩,rfl,rfl⟩
  cases cc with
  | true=>
   rw[Z51 (hcc.1 rfl)]
   simp (disch:=first|omega|assumption|exact G0 (by assumption)|exact V0 (by assumption)|exact X0 (by omega)|fail) only[W0,Q0.val]
   exact⟨⟨c,hE,rfl⟩,fun _ _=>trivial⟩
  | false=>
  have hL:Lss p best:=Classical.byContradiction fun h=>by have:=hcc.2 h;cases this
  rw[pr,if_pos hL]
  have d1:decide ((p.length:Int)=(f:Int))=true:=by simp;omega
  simp (disch:=first|omega|assumption|exact G0 (by assumption)|exact V0 (by assumption)|exact X0 (by omega)|fail) only[W0,Q0.val,hE.gfr,d1]
  have hci:c=W17 p:=by rw[<- htk,List.take_of_length_le (by have:=hE.cl;omega)]
  have hSl:Sl H m (some ⟨q.bl,0,none⟩) (W17 p):=fun i u hu=>⟨q.bl,0,c,rfl,o8,by unfold Q5;rw[hE.gbl];rfl,by rw[Nat.zero_add,hci];exact hu⟩
  refine R0 (V57 ⟨q.bl,0,none⟩ p f H m hSl (.inr ⟨q.bl,0,c,rfl,o8,by unfold Q5;rw[hE.gbl];rfl⟩) (by omega)) ?_
  rintro _ H2 m2 ⟨⟨B,rfl,hB⟩,hE2⟩
  have hS2:=hE.ext hE2
  have hle2:=hE2.le
  obtain⟨B0,gb0,_⟩:=hS2.gbe
  have hput1:∀ a b:Value,B12 [a] 0 [b]=[b]:=fun _ _=>rfl
  have n1:q.le≠q.be:=by omega
  have n2:q.fo≠q.be:=by omega
  have n3:q.fo≠q.le:=by omega
  simp (disch:=first|omega|assumption|exact G0 (by assumption)|exact V0 (by assumption)|exact X0 (by omega)|fail) only[W0,gb0,hS2.gle,hS2.gfo,hput1,Z1 _ n1,Z1 _ n2]
  refine⟨⟨c,hS2.found ?_,rfl⟩,hle2,fun i hi => ?_⟩
  .rcases hB with hB | ⟨x,s,e,x1,x2,x3⟩
   .exact .inl hB
   .exact .inr ⟨x,s,e,by omega,x2,x3⟩
  .rw[Z1 _ (by omega),Z1 _ (by omega),Z1 _ (by omega)]
   exact hE2.get i (by omega)
 | succ k ih=>
  intro p best c H m hE hnd hlt hpk htk
  have o1:=hE.o1;have o2:=hE.o2;have o3:=hE.o3;have o4:=hE.o4;have o5:=hE.o5;have o6:=hE.o6;have o7:=hE.o7;have o8:=hE.o8
  refine spec83 ?_
  unfold F83
  refine N5 (fun L H' m'=>(∃ c:Bool,L=[.bool c]/\(c=true<->¬ Lss p best))/\H=H'/\m=m') ?_ ?_
  .intro j hj
   cases best with
   | none=>
    simp (disch:=first|omega|assumption|exact G0 (by assumption)|exact V0 (by assumption)|exact X0 (by omega)|fail) only[W0,hE.gfo,Option.isSome_none]
    exact hj _ _ _ ⟨⟨false,rfl,fun h=>(by cases h),fun h=>absurd (fun b e=>by cases e) h⟩,rfl,rfl⟩
   | some b0=>
    simp (disch:=first|omega|assumption|exact G0 (by assumption)|exact V0 (by assumption)|exact X0 (by omega)|fail) only[W0,hE.gfo,hE.gle,Option.isSome_some,U37]
    refine hj _ _ _ ⟨⟨_,rfl,?_⟩,rfl,rfl⟩
    rw[decide_eq_true_eq]
    exact⟨fun h hl=>by have:=hl b0 rfl;omega,fun h=>Classical.byContradiction fun h2=>h fun b e=>by cases e;omega⟩
  rintro _ _ _ ⟨⟨cc,rfl,hcc⟩,rfl,rfl⟩
  cases cc with
  | true=>
   rw[Z51 (hcc.1 rfl)]
   simp (disch:=first|omega|assumption|exact G0 (by assumption)|exact V0 (by assumption)|exact X0 (by omega)|fail) only[W0,Q0.val]
   exact⟨⟨c,hE,rfl⟩,fun _ _=>trivial⟩
  | false=>
  have hL:Lss p best:=Classical.byContradiction fun h=>by have:=hcc.2 h;cases this
  rw[pr,if_pos hL]
  have d1:decide ((p.length:Int)=(f:Int))=false:=by simp;omega
  have hu64:=D44 (f:=f) (by omega) p
  have hu32:E6 f p<4294967296:=by omega
  simp (disch:=first|omega|assumption|exact G0 (by assumption)|exact V0 (by assumption)|exact X0 (by omega)|fail) only[W0,Q0.val,hE.gfr,d1]
  refine B1 (m:=f) (fun mm L H' m'=>∃ (v:Nat) (c':List Value),mm+v=f/\L=[.int .i64 (v:Int)]/\SE es n f q (prS f (G12 es) k p best v) c' H' m'/\c'.take p.length=c.take p.length/\m<=m'/\∀ i,i<q.fr->J0 H' i=J0 H i) ?_ ⟨0,c,by omega,rfl,hE,rfl,Nat.le_refl _,fun i _=>rfl⟩
  rintro mm ihm L H2 m2 ⟨v,c2,hmm,rfl,hS,htk2,hm2,hlow⟩ hih
  by_cases hv:v<f
  case neg=>
   obtain rfl:v=f:=by omega
   have hv':¬ (v:Int)<(v:Int):=by omega
   simp (disch:=first|omega|assumption|exact G0 (by assumption)|exact V0 (by assumption)|exact X0 (by omega)|fail) only[W0,hv']
   exact⟨⟨c2,hS,htk2⟩,hm2,hlow⟩
  have hv':(v:Int)<(f:Int):=by omega
  have v32:v<32:=by omega
  have hsv:=G0 (n:=v) hu32
  have hbit:=Q20 f p v
  rw[decide_eq_true hv,Bool.true_and] at hbit
  by_cases hmem:v ∈ p
  .rw[decide_eq_true hmem] at hbit
   simp (config:={ maxSteps:=2000000 }) (disch:=first|omega|assumption|exact G0 (by assumption)|exact V0 (by assumption)|exact X0 (by omega)|fail) only[W0,hv',R1,hbit]
   refine hih (mm-1) _ _ _ (by omega) ⟨v+1,c2,by omega,by simp,?_,htk2,by omega,hlow⟩
   rw[Z31,if_neg (fun a=>a.1 hmem)]
   exact hS.ext (D0.self (by omega))
  rw[decide_eq_false hmem] at hbit
  have gnl:=Q3 (Z23 es n hv)
  have hms64:Q1 (adj es v) n<64:=U60 (f:=f) hn (List.mem_of_getElem? (Z23 es n hv))
  have hset:=G67 (es:=es) (n:=n) (v:=v) hf hlt
  have hset64:Q1 (adj es v) n &&& E6 f p<64:=Nat.lt_of_le_of_lt Nat.and_le_left hms64
  have hms32:Q1 (adj es v) n<4294967296:=by omega
  simp (config:={ maxSteps:=2000000 }) (disch:=first|omega|assumption|exact G0 (by assumption)|exact V0 (by assumption)|exact X0 (by omega)|fail) only[W0,hv',R1,hbit,hS.gnr,hS.gar,gnl]
  refine R0 (Z54 (f:=f) (nl:=nlF es n f) (by omega) (D51 es n f) (fun x hx=>U60 hn hx) hset64 _ _ hS.gar) ?_
  rintro _ H10 n10 ⟨⟨cc,rfl,hcq⟩,hE10⟩
  rw[hset] at hcq
  have hS10:=(hS.ext (D0.self (m:=m2+15) (by omega))).ext hE10
  have hle10:=hE10.le
  have hlow10:∀ i,i<q.fr->J0 H10 i=J0 H i:=fun i hi=>(hE10.get i (by have:=hS.o8;omega)).trans (hlow i hi)
  cases cc with
  | false=>
   simp (config:={ maxSteps:=2000000 }) (disch:=first|omega|assumption|exact G0 (by assumption)|exact V0 (by assumption)|exact X0 (by omega)|fail) only[W0]
   refine hih (mm-1) _ _ _ (by omega) ⟨v+1,c2,by omega,by simp,?_,htk2,by omega,hlow10⟩
   rw[Z31,if_neg (fun a=>by have:=hcq.2 a.2;cases this)]
   exact hS10
  | true=>
   have hQ:=hcq.1 rfl
   have hbs:∀ (x:Int) k,K6 1 1 [.int .i64 0] [(0,.int .i64 x)] k=k [.int .i64 x]:=fun x k=>rfl
   simp (config:={ maxSteps:=2000000 }) (disch:=first|omega|assumption|exact G0 (by assumption)|exact V0 (by assumption)|exact X0 (by omega)|fail) only[W0,hS10.gse,hbs]
   have hE12:D0 H10 n10 (Go.Clo.hs H10 (n10+3) (some (.cells [.int .i64 (v:Int)] 0))) (n10+16):=(D0.refl _ _).new _ (by omega) (by omega)
   have g12:J0 (Go.Clo.hs H10 (n10+3) (some (.cells [.int .i64 (v:Int)] 0))) (n10+3)=some (.cells [.int .i64 (v:Int)] 0):=E0 _ _ _
   generalize Go.Clo.hs H10 (n10+3) (some (.cells [.int .i64 (v:Int)] 0))=H12 at *
   have hS12:=hS10.ext hE12
   have hlow12:∀ i,i<q.fr->J0 H12 i=J0 H i:=fun i hi=>(hE12.get i (by have:=hS10.o8;omega)).trans (hlow10 i hi)
   have hpl:p.length<f:=by omega
   rw[B66 hS12.gbl hS12.cl hpl (J9 (cap:=1) g12 rfl (by omega)) rfl (by omega) (by omega)]
   have hS13:=hS12.put (c':=c2.set p.length (.int .i64 (v:Int))) (by rw[List.length_set];exact hS12.cl)
   have hlow13:∀ i,i<q.fr->J0 (Go.Clo.hs H12 q.bl (some (.cells (c2.set p.length (.int .i64 (v:Int))) 0))) i=J0 H i:=fun i hi=>(Z1 _ (by omega)).trans (hlow12 i hi)
   generalize Go.Clo.hs H12 q.bl (some (.cells (c2.set p.length (.int .i64 (v:Int))) 0))=H13 at *
   have hp32:2^v<4294967296:=Y18 v32
   have hor:=V62 (p:=p) hv
   have hsv64:E6 f p >>> v<64:=Nat.lt_of_le_of_lt (Nat.shiftRight_le _ _) hu64
   simp (config:={ maxSteps:=2000000 }) (disch:=first|omega|assumption|exact G0 (by assumption)|exact V0 (by assumption)|exact X0 (by omega)|fail) only[W0,hor]
   refine R0 (R44 hsv64 _ _) ?_
   rintro _ H14 n14 ⟨rfl,hE14⟩
   rw[M43 (f:=f) (by omega) hv hnd hlt hmem]
   have hS14:=hS13.ext hE14
   have hle14:=hE14.le
   have hinv:(R5 p:Int)+((p.countP fun x=>decide (v<x):Nat):Int)=(R5 (p++[v]):Int):=by rw[D40];omega
   have hcn:(p.countP fun x=>decide (v<x))<=p.length:=List.countP_le_length
   have hil:=D35 (p.map fun (x:Nat)=>(x:Int))
   rw[List.length_map] at hil
   have hil2:R5 p<=36:=Nat.le_trans hil (Nat.mul_le_mul (show p.length<=6 by omega) (show p.length<=6 by omega))
   simp (config:={ maxSteps:=2000000 }) (disch:=first|omega|assumption|exact G0 (by assumption)|exact V0 (by assumption)|exact X0 (by omega)|fail) only[W0,hinv]
   have htk14:(c2.set p.length (.int .i64 (v:Int))).take (p++[v]).length=W17 (p++[v]):=by
    have hcl:=hS12.cl
    rw[List.length_append,List.length_singleton,List.take_set,List.take_add_one,List.set_append_right _ _ (by simp;omega)]
    rw[htk2,htk]
    have e1:(W17 p).length=p.length:=K49 p
    obtain⟨z,hz⟩:∃ z,c2[p.length]? = some z:=⟨_,List.getElem?_eq_getElem (by omega)⟩
    rw[hz,e1]
    simp[W17,U4]
   have hcall:=ih (p++[v]) (prS f (G12 es) k p best v) _ H14 n14 hS14 (N22 hnd hmem) (K22 hlt hv) (by simp;omega) htk14
   rw[List.length_append,List.length_singleton] at hcall
   refine V22 hcall ?_
   rintro r H15 n15 ⟨⟨c15,hS15,htk15⟩,hm15,hlow15⟩
   simp (config:={ maxSteps:=2000000 }) (disch:=first|omega|assumption|exact G0 (by assumption)|exact V0 (by assumption)|exact X0 (by omega)|fail) only[W0,hS14.gse,hS13.gse]
   refine hih (mm-1) _ _ _ (by omega) ⟨v+1,c15,by omega,by simp,?_,?_,by omega,fun i hi => ?_⟩
   .rw[Z31,if_pos ⟨hmem,hQ⟩];exact hS15
   .have h1:=congrArg (List.take p.length) htk15
    rw[List.take_take,List.take_take,Nat.min_eq_left (by omega),List.take_set_of_le (by omega)] at h1
    rw[h1];exact htk2
   .rw[hlow15 i hi,hE14.get i (by have:=hS13.o8;omega)];exact hlow13 i hi
end
end Go.Proofs.YtoiioigihocgbaaGreatDoor

namespace Go.Proofs.YtoiioigihocgbaaGreatDoor
open Go.Clo Go.Inv
set_option maxRecDepth 20000 in
set_option maxHeartbeats 8000000 in
theorem G63{n f:Nat}(hn:n<=6)(hf:f<=n)(A:Option Addr)(es:List Nat)(cap:Nat)(ag:∀ e ∈ es,e<2^n)(b4:es.length<=8)(H:Y0)(nx:Nat)(hS:Sl H nx A (C0 es)):
  Q2 Tryz.prog 50 [gv (n:Int) A es.length cap,.int .i64 (f:Int)] H nx fun r H' nx'=>(∃ B,r = .tuple ⟨[.slice B ((pr f (G12 es) f [] none).getD []).length ((pr f (G12 es) f [] none).getD []).length,.int .i64 (U37 (pr f (G12 es) f [] none):Int),.bool (pr f (G12 es) f [] none).isSome]⟩/\Sl H' nx' B (W17 ((pr f (G12 es) f [] none).getD [])))/\D0 H nx H' nx':=by
 have ax:N3 n es=0:=V11 (by omega) (by omega) fun i e he=>ag e (List.mem_of_getElem? he)
 have ab:∀ a b:Value,B12 [a] 0 [b]=[b]:=fun _ _=>rfl
 refine spec50 ?_;unfold F50;simp only[gv];have aj:D0 H nx (hs H nx (some (.cells [.int .i64 (n:Int),.slice A es.length cap] 0))) (nx+1):=(D0.refl H nx).new _ (Nat.le_refl _) (by omega);have g1:J0 (hs H nx (some (.cells [.int .i64 (n:Int),.slice A es.length cap] 0))) nx=some (.cells [.int .i64 (n:Int),.slice A es.length cap] 0):=E0 _ _ _;simp(config:={ maxSteps:=2000000 }) (disch:=first|omega|assumption)only[W0,Z0,Q0.val,ab];generalize hs H nx (some (.cells [.int .i64 (n:Int),.slice A es.length cap] 0))=H1 at *
 have a9:D0 H1 (nx+1) (hs H1 (nx+1) (some (.cells [.int .i64 (f:Int)] 0))) (nx+1+1):=(D0.refl _ _).new _ (Nat.le_refl _) (by omega);have g2:J0 (hs H1 (nx+1) (some (.cells [.int .i64 (f:Int)] 0))) (nx+1)=some (.cells [.int .i64 (f:Int)] 0):=E0 _ _ _;have k2:=(a9.get nx (by omega)).trans g1;generalize hs H1 (nx+1) (some (.cells [.int .i64 (f:Int)] 0))=H2 at *
 have a2:=aj.trans a9;rw[M27 (by omega),C23];simp only[Nat.add_assoc,Nat.reduceAdd];have Z:D0 H2 (nx+2) (hs H2 (nx+2) (some (.cells (C0 (List.replicate f 0)) 0))) (nx+3):=(D0.refl _ _).new _ (Nat.le_refl _) (by omega);have g3:J0 (hs H2 (nx+2) (some (.cells (C0 (List.replicate f 0)) 0))) (nx+2)=some (.cells (C0 (List.replicate f 0)) 0):=E0 _ _ _;have k3:=(Z.get nx (by omega)).trans k2;have f3:=(Z.get (nx+1) (by omega)).trans g2;generalize hs H2 (nx+2) (some (.cells (C0 (List.replicate f 0)) 0))=H3 at *
 have a5:=a2.trans Z;have U:D0 H3 (nx+3) (hs (hs H3 (nx+3) (some (.cells [.slice none 0 0] 0))) (nx+3) (some (.cells [.slice (some ⟨nx+2,0,none⟩) f f] 0))) (nx+4):=((D0.refl _ _).new _ (Nat.le_refl _) (m:=nx+4) (by omega)).hs (Nat.le_refl _);have g4:J0 (hs (hs H3 (nx+3) (some (.cells [.slice none 0 0] 0))) (nx+3) (some (.cells [.slice (some ⟨nx+2,0,none⟩) f f] 0))) (nx+3)=some (.cells [.slice (some ⟨nx+2,0,none⟩) f f] 0):=E0 _ _ _;have k4:=(U.get nx (by omega)).trans k3;have f4:=(U.get (nx+1) (by omega)).trans f3;have a4:=(U.get (nx+2) (by omega)).trans g3;generalize hs (hs H3 (nx+3) (some (.cells [.slice none 0 0] 0))) (nx+3) (some (.cells [.slice (some ⟨nx+2,0,none⟩) f f] 0))=H4 at *
 have a6:=a5.trans U;refine B1 (m:=f) (fun mm L H' m'=>∃(v:Nat) (l:List Nat),mm+v=f/\L=[.int .i64 (v:Int)]/\l.length=f/\(∀ u,u<v->l[u]? = some (Q1 (adj es u) n))/\J0 H' (nx+2)=some (.cells (C0 l) 0)/\J0 H' nx=some (.cells [.int .i64 (n:Int),.slice A es.length cap] 0)/\J0 H' (nx+1)=some (.cells [.int .i64 (f:Int)] 0)/\J0 H' (nx+3)=some (.cells [.slice (some ⟨nx+2,0,none⟩) f f] 0)/\D0 H nx H' m'/\nx+4<=m') ?_
  ⟨0,List.replicate f 0,by omega,rfl,by simp,fun u h=>by omega,a4,k4,f4,g4,a6,Nat.le_refl _⟩
 clear g4 k4 f4 a4 a6 U a5 f3 k3 g3 Z a2 k2 g2 a9 g1 aj;rintro mm bd L H5 m5 ⟨v,l,ba,rfl,hl,a7,ha,hk,a1,a0,hE,b5⟩ aw
 by_cases hv:v<f
 .have aa:(v:Int)<(f:Int):=by omega
  simp(config:={ maxSteps:=2000000 }) (disch:=first|omega|assumption)only[W0,aa,a0,hk,U2];refine R0 (U61 (n:=n) (v:=v) (by omega) (by omega) A es cap H5 (m5+7) (hS.ext (hE.trans (D0.self (m:=m5+7) (by omega)))) ag (by omega) ax) ?_;rintro _ H6 m6 ⟨rfl,O⟩;have b8:=O.le;have az:=(O.get (nx+2) (by omega)).trans ha;have au:=(O.get nx (by omega)).trans hk;have ai:=(O.get (nx+1) (by omega)).trans a1;have a3:=(O.get (nx+3) (by omega)).trans a0;have al:v<l.length:=by omega
  have ah:v+1<=(C0 l).length:=by rw[E1];omega
  simp(config:={ maxSteps:=2000000 }) (disch:=first|omega|assumption)only[W0,a3,az,ah,V10 al];refine aw (mm-1) _ _ _ (by omega) ⟨v+1,l.set v (Q1 (adj es v) n),by omega,by simp,by rw[List.length_set];exact hl,fun u hu => ?_,E0 _ _ _,by rw[Z1 _ (by omega)];exact au,by rw[Z1 _ (by omega)];exact ai,by rw[Z1 _ (by omega)];exact a3,(hE.trans (D0.trans (D0.self (m:=m5+7) (by omega)) O)).hs (by omega),by omega⟩;rw[List.getElem?_set]
  by_cases e:v=u
  .subst e;rw[if_pos rfl,if_pos al]
  .rw[if_neg e];exact a7 u (by omega)
 have aa:¬ (v:Int)<(f:Int):=by omega
 have ay:l=nlF es n f:=by
  apply List.ext_getElem?;intro u
  by_cases hu:u<f
  .rw[a7 u (by omega),Z23 es n hu]
  .rw[List.getElem?_eq_none (by omega),List.getElem?_eq_none (by rw[D51];omega)]
 subst ay;simp(config:={ maxSteps:=2000000 }) (disch:=first|omega|assumption)only[W0,aa];have q1:D0 H5 m5 (hs H5 m5 (some (.cells [.slice none 0 0] 0))) (m5+1):=(D0.refl _ _).new _ (Nat.le_refl _) (by omega);have b1:J0 (hs H5 m5 (some (.cells [.slice none 0 0] 0))) m5=some (.cells [.slice none 0 0] 0):=E0 _ _ _;generalize hs H5 m5 (some (.cells [.slice none 0 0] 0))=H6 at *
 have q2:D0 H6 (m5+1) (hs H6 (m5+1) (some (.cells [.int .i64 0] 0))) (m5+1+1):=(D0.refl _ _).new _ (Nat.le_refl _) (by omega);have b2:J0 (hs H6 (m5+1) (some (.cells [.int .i64 0] 0))) (m5+1)=some (.cells [.int .i64 0] 0):=E0 _ _ _;generalize hs H6 (m5+1) (some (.cells [.int .i64 0] 0))=H7 at *
 have q3:D0 H7 (m5+1+1) (hs H7 (m5+1+1) (some (.cells [.bool false] 0))) (m5+1+1+1):=(D0.refl _ _).new _ (Nat.le_refl _) (by omega);have b3:J0 (hs H7 (m5+1+1) (some (.cells [.bool false] 0))) (m5+1+1)=some (.cells [.bool false] 0):=E0 _ _ _;have an:=(q3.get (m5+1) (by omega)).trans b2;generalize hs H7 (m5+1+1) (some (.cells [.bool false] 0))=H8 at *
 simp(config:={ maxSteps:=2000000 }) (disch:=first|omega|assumption)only[W0,a1];rw[R62 (by omega)];have ak:D0 H5 m5 H8 (m5+3):=(q1.trans q2).trans q3;have ao:J0 H8 m5=some (.cells [.slice none 0 0] 0):=(q3.get m5 (by omega)).trans ((q2.get m5 (by omega)).trans b1);clear b1 b2 b3 an q1 q2 q3;obtain⟨fv,a8⟩:∃ fv:Value,fv = .func (.func 83) ⟨[]⟩ ⟨[.pointer (some ⟨m5+2,0,none⟩),.pointer (some ⟨m5+1,0,none⟩),.pointer (some ⟨nx+1,0,none⟩),.pointer (some ⟨m5,0,none⟩),.pointer (some ⟨nx+3,0,none⟩),.pointer (some ⟨m5+3,0,none⟩)]⟩:=⟨_,rfl⟩
 obtain⟨H9,h9⟩:∃ H9,H9=hs (hs H8 (m5+1) (some (.cells [.int .i64 0] 0))) (m5+2) (some (.cells [.bool false] 0)):=⟨_,rfl⟩
 rw[<- h9];obtain⟨ad,Q⟩:∃ ad,ad=hs (hs H9 (m5+3) (some (.cells [.nilFunc] 0))) (m5+3) (some (.cells [fv] 0)):=⟨_,rfl⟩
 obtain⟨E,J⟩:∃ E,E=hs ad (m5+6) (some (.cells (U4 (List.replicate f 0)) 0)):=⟨_,rfl⟩
 rw[<- a8,<- Q,<- J];have hX:D0 H5 m5 E (m5+8):=by
  rw[J,Q,h9];exact(((((ak.hs (by omega)).hs (by omega)).hs (by omega)).hs (by omega)).hs (by omega)).more (by omega)
 have av:SE es n f ⟨nx+1,nx+2,nx+3,m5,m5+1,m5+2,m5+3,m5+6⟩ none (U4 (List.replicate f 0)) E (m5+8):=by
  refine⟨show nx+1<nx+2 by omega,show nx+2<nx+3 by omega,show nx+3<m5 by omega,show m5<m5+1 by omega,show m5+1<m5+2 by omega,show m5+2<m5+3 by omega,show m5+3<m5+6 by omega,show m5+6<m5+8 by omega,
   (hX.get (nx+1) (by omega)).trans a1,(hX.get (nx+2) (by omega)).trans ha,(hX.get (nx+3) (by omega)).trans a0,⟨none,?_,.inl rfl⟩,?_,?_,?_,?_,by rw[X9];simp⟩
  .show J0 E m5=_
   rw[J,Q,h9,Z1 _ (by omega),Z1 _ (by omega),Z1 _ (by omega),Z1 _ (by omega),Z1 _ (by omega)];exact ao
  .show J0 E (m5+1)=_
   rw[J,Q,h9,Z1 _ (by omega),Z1 _ (by omega),Z1 _ (by omega),Z1 _ (by omega),E0];rfl
  .show J0 E (m5+2)=_
   rw[J,Q,h9,Z1 _ (by omega),Z1 _ (by omega),Z1 _ (by omega),E0];rfl
  .show J0 E (m5+3)=_
   rw[J,Q,Z1 _ (by omega),E0,a8]
  .show J0 E (m5+6)=_
   rw[J,E0]
 have W:=C61 hn hf f [] none (U4 (List.replicate f 0)) E (m5+8) av List.nodup_nil (fun x h=>by simp at h) (by simp) rfl;rw[N39,show R5 []=0 from rfl,List.length_nil] at W;rw[a8];refine V22 W ?_;rintro r ac bc ⟨⟨c',V,_⟩,aq,ae⟩;obtain⟨B,gb,hB⟩:=V.gbe;have gb:J0 ac m5=some (.cells [.slice B ((pr f (G12 es) f [] none).getD []).length ((pr f (G12 es) f [] none).getD []).length] 0):=gb;have gle:J0 ac (m5+1)=some (.cells [.int .i64 (U37 (pr f (G12 es) f [] none):Int)] 0):=V.gle;have gfo:J0 ac (m5+2)=some (.cells [.bool (pr f (G12 es) f [] none).isSome] 0):=V.gfo;simp(config:={ maxSteps:=2000000 }) (disch:=first|omega|assumption)only[W0,gb,gle,gfo];have ap:=hE.trans hX;refine⟨⟨B,rfl,?_⟩,⟨by omega,fun i hi=>(ae i (show i<nx+1 by omega)).trans (ap.get i hi)⟩⟩;rcases hB with hB | ⟨x,s,rfl,x1,x2,x3⟩
 .rw[hB]
  exact fun i v hv=>by simp[W17,U4] at hv
 .exact fun i u hu=>⟨x,0,_,rfl,by omega,by unfold Q5;rw[x3];rfl,by rw[Nat.zero_add];exact hu⟩
end Go.Proofs.YtoiioigihocgbaaGreatDoor
