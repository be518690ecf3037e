/-
  THE STATEMENT DichotomyNearest: for every input the law returns true,and each argument reads behind the call as it did (what the row lists of Go's tables is tied to the program's text). No condition.
  THE LAW DichotomyNearest returns true.
  Contract: dichotomy.Nearest.
-/
import Derived.Test.YtoiioigihocgbaaGreatDoorN22
import Derived.Test.YtoiioigihocgbaaGreatDoorN24
import Derived.Test.YtoiioigihocgbaaGreatDoorN25
import Derived.Test.YtoiioigihocgbaaGreatDoorN28
import Derived.Test.YtoiioigihocgbaaGreatDoorN26
import Derived.Test.YtoiioigihocgbaaGreatDoorN27
import Derived.Test.YtoiioigihocgbaaGreatDoorTie
import Derived.Test.YtoiioigihocgbaaGreatDoorCards
import Derived.SevenTiedAt
set_option linter.all false
namespace Go.Proofs.YtoiioigihocgbaaGreatDoor
open Go.Clo Go.Inv
variable {N free:Int}
theorem G35{es:List Nat}(h:C5 N free es=0):∃ n f:Nat,N=n/\free=f/\n<=32/\f<=n/\(∀ e ∈ es,e<2^n)/\∀ v,v<n->U6 es v:=by
 have E:Q6 N free es=0:=by
  unfold C5 at h
  split at h
  .rename_i h1;exact absurd h h1
  .rename_i h1;exact Classical.byContradiction h1
 obtain⟨n,f,rfl,rfl,Q,O,_,U⟩:=U27 E;have eN:((n:Nat):Int).toNat=n:=by omega
 have J:W14 es n=true:=by
  unfold C5 at h;rw[E,if_neg (by simp),eN] at h
  cases hc:W14 es n with
  | true=>rfl
  | false=>rw[hc] at h;simp at h
 refine⟨n,f,rfl,rfl,Q,O,U,fun v hv => ?_⟩;unfold W14 at J;rw[List.all_eq_true] at J;obtain⟨e,h1,h2⟩:=J46.1 (J v (List.mem_range.2 hv));exact⟨e,h1,h2 v (by rw[Nat.testBit_two_pow_self])⟩
def D69(es:List Nat)(N free:Int)(r:Value)(H:Y0)(nx:Nat):Prop:=∃(B:Option Addr) (len:Nat) (m G6:Int),r = .tuple ⟨[.slice B len len,.int .i64 m,.int .i64 G6]⟩ /\
 ((C5 N free es≠0/\len=0/\m=0/\G6=C5 N free es)\/(C5 N free es=0/\((J15 es N.toNat free.toNat=none/\len=0/\m=0/\(PE es->G6=25)/\(¬ PE es->G6=24)) \/
  ∃ b,J15 es N.toNat free.toNat=some b/\len=b.length/\m=(R5 b:Int)/\G6=0/\Sl H nx B (W17 b))))
set_option maxRecDepth 20000 in
set_option maxHeartbeats 4000000 in
theorem X46(A:Option Addr)(es:List Nat)(cap:Nat)(W:C4 es)(hF:K36 N free es)(H:Y0)(nx:Nat)(hS:Sl H nx A (C0 es))(hH:Has H nx A):
  Q2 Tryz.prog 17 [gv N A es.length cap,.int .i64 free] H nx fun r H' nx'=>D69 es N free r H' nx'/\D0 H nx H' nx':=by
 refine spec17 ?_;unfold F17;have a4:D0 H nx (hs H nx (some (.cells [.int .i64 N,.slice A es.length cap] 0))) (nx+1):=(D0.refl H nx).new _ (Nat.le_refl _) (by omega);have k1:J0 (hs H nx (some (.cells [.int .i64 N,.slice A es.length cap] 0))) nx=some (.cells [.int .i64 N,.slice A es.length cap] 0):=E0 _ _ _;simp(disch:=first|omega|assumption)only[W0,Z0,Q0.val,U2];generalize hs H nx (some (.cells [.int .i64 N,.slice A es.length cap] 0))=K at *
 refine R0 (Y36 A es cap W hF K _ (hS.ext a4)) ?_;rintro _ H2 n2 ⟨rfl,a1⟩;have k2:=(a1.get nx (by omega)).trans k1;have E:=a4.trans a1;have ab:=a1.le
 by_cases hw:C5 N free es≠0
 .simp(disch:=first|omega|assumption)only[W0,decide_eq_true hw]
  exact⟨⟨none,0,0,_,rfl,.inl ⟨hw,rfl,rfl,rfl⟩⟩,E⟩
 have a0:C5 N free es=0:=Classical.byContradiction hw;obtain⟨n,f,rfl,rfl,ac,J,a3,_⟩:=G35 a0;have U:n<=6:=by have:=hF.2.1;omega
 have Z:=hF.1;have eN:((n:Nat):Int).toNat=n:=by omega
 have eF:((f:Nat):Int).toNat=f:=by omega
 have h8:¬ (f:Int) > 8:=by omega
 have fail:∀ {G6:Int} {H':Y0} {n':Nat},J15 es n f=none->(PE es->G6=25)->(¬ PE es->G6=24)->D69 es n f (.tuple ⟨[.slice none 0 0,.int .i64 0,.int .i64 G6]⟩) H' n':=fun h1 h2 h3=>
  ⟨none,0,0,_,rfl,.inr ⟨a0,.inl ⟨by rw[eN,eF];exact h1,rfl,rfl,h2,h3⟩⟩⟩
 simp(disch:=first|omega|assumption)only[W0,decide_eq_false hw,h8,k2,U2];refine R0 (R33 U A es cap H2 n2 (hS.ext E) (hH.ext E) a3 Z) ?_;rintro _ H3 n3 ⟨⟨c,rfl,hc⟩,a2⟩;have k3:=(a2.get nx (by omega)).trans k2;have O:=E.trans a2;have aa:=a2.le
 cases c with
 | false=>
  have a5:¬ PE es:=fun h=>by have:=hc.2 h;cases this
  simp(disch:=first|omega|assumption)only[W0];exact⟨fail (E38 J fun h=>a5 h.1) (fun h=>absurd h a5) (fun _=>rfl),O⟩
 | true=>
  have hp:=hc.1 rfl;simp(disch:=first|omega|assumption)only[W0,k3,U2];refine R0 (W68 U J A es cap a3 Z H3 n3 (hS.ext O)) ?_;rintro _ H4 n4 ⟨⟨v4,rfl,_⟩,a6⟩;have a7:=Y60 (es:=es) U J;have k4:=(a6.get nx (by omega)).trans k3;have Q:=O.trans a6
  cases hq:(K24 (B2 es n) n f).isSome with
  | true=>
   simp(disch:=first|omega|assumption)only[W0];exact⟨fail (E38 J fun h=>h.2 (a7.1 hq)) (fun _=>rfl) (fun h=>absurd hp h),Q⟩
  | false=>
   have a8:¬ J13 (V3 es) n f []:=fun h=>by have:=a7.2 h;rw[hq] at this;cases this
   simp(disch:=first|omega|assumption)only[W0,k4,U2];refine R0 (G63 U J A es cap a3 Z H4 n4 (hS.ext Q)) ?_;rintro _ H5 n5 ⟨⟨B,rfl,hB⟩,a9⟩;rw[Y67 J ⟨hp,a8⟩] at hB ⊢;have V:=Q.trans a9
   cases hr:J15 es n f with
   | none=>
    simp(disch:=first|omega|assumption)only[W0,Option.isSome_none];exact⟨fail hr (fun _=>rfl) (fun h=>absurd hp h),V⟩
   | some b=>
    rw[hr] at hB;simp(disch:=first|omega|assumption)only[W0,Option.isSome_some,Option.getD_some,U37];exact⟨⟨B,b.length,_,0,rfl,.inr ⟨a0,.inr ⟨b,by rw[eN,eF];exact hr,rfl,rfl,rfl,hB⟩⟩⟩,V⟩
end Go.Proofs.YtoiioigihocgbaaGreatDoor

namespace Go.Proofs.YtoiioigihocgbaaGreatDoor
open Go.Clo Go.Inv
set_option maxRecDepth 20000 in
set_option maxHeartbeats 8000000 in
theorem V71(N free:Int)(A:Option Addr)(es:List Nat)(cap:Nat)(H:Y0)(nx:Nat)(hS:Sl H nx A (C0 es))(hH:Has H nx A)(J:C4 es):
  Q2 Tryz.prog 4 [gv N A es.length cap,.int .i64 free] H nx fun r _ _=>r = .bool true:=by
 refine spec4 ?_;unfold F4;have ad:D0 H nx (hs H nx (some (.cells [.int .i64 N,.slice A es.length cap] 0))) (nx+1):=(D0.refl H nx).new _ (Nat.le_refl _) (by omega);have k1:J0 (hs H nx (some (.cells [.int .i64 N,.slice A es.length cap] 0))) nx=some (.cells [.int .i64 N,.slice A es.length cap] 0):=E0 _ _ _;simp only[gv];rw[Y31];refine(@if_pos _ _ (show Z0 [Value.int .i64 N,.slice A es.length cap]=true from rfl) _ _ _).mpr ?_;rw[Q37];simp only[Q0.val];generalize hs H nx (some (.cells [.int .i64 N,.slice A es.length cap] 0))=K at *
 refine R0 (X60 K _) ?_;rintro _ _ _ ⟨rfl,rfl,rfl⟩;simp(disch:=first|omega|assumption)only[W0];refine N5 (fun L H' nx'=>(∃ c:Bool,L=[.bool c]/\(c=false->K36 N free es))/\D0 K (nx+1) H' nx') ?_ ?_
 .intro j hj
  simp(disch:=first|omega|assumption)only[W0,k1,U2];refine R0 (J67 N free A es cap K _) ?_;rintro _ H3 n3 ⟨⟨c,rfl,hF⟩,E⟩;have k3:=(E.get nx (by omega)).trans k1
  cases c with
  | false=>
   simp(disch:=first|omega|assumption)only[W0];exact hj _ _ _ ⟨⟨true,rfl,fun h=>by cases h⟩,E⟩
  | true=>
   have hF:=hF rfl
   by_cases h1:free > 4
   .by_cases h2:N<=32
    .simp(disch:=first|omega|assumption)only[W0,h1,h2,k3]
     exact hj _ _ _ ⟨⟨_,rfl,fun _=>hF⟩,E⟩
    .simp(disch:=first|omega|assumption)only[W0,h1,h2,k3]
     exact hj _ _ _ ⟨⟨false,rfl,fun _=>hF⟩,E⟩
   .simp(disch:=first|omega|assumption)only[W0,h1]
    exact hj _ _ _ ⟨⟨false,rfl,fun _=>hF⟩,E⟩
 rintro _ H3 n3 ⟨⟨c,rfl,hF⟩,E⟩
 cases c with
 | true=>simp(disch:=first|omega|assumption)only[W0]
 | false=>
 have hF:=hF rfl;have k3:=(E.get nx (by omega)).trans k1;have O:=ad.trans E;have ag:=E.le;simp(disch:=first|omega|assumption)only[W0,k3,U2];refine R0 (X46 A es cap J hF H3 n3 (hS.ext O) (hH.ext O)) ?_;rintro _ H4 n4 ⟨⟨B,len,m,G6,rfl,hD⟩,a2⟩;have k4:=(a2.get nx (by omega)).trans k3;have Z:=O.trans a2;have ah:=a2.le;simp(disch:=first|omega|assumption)only[W0,k4,U2];refine R0 (C58 A es cap J hF H4 n4 (hS.ext Z)) ?_;rintro _ H6 n6 ⟨rfl,U⟩;have k6:=(U.get nx (by omega)).trans k4;have W:=Z.trans U;have ae:=U.le;rcases hD with ⟨hw,rfl,rfl,rfl⟩ | ⟨a8,hD⟩
 .simp(disch:=first|omega|assumption)only[W0,decide_eq_true hw]
 obtain⟨n,f,rfl,rfl,ak,ac,a9,a5⟩:=G35 a8;have a4:n<=6:=by have:=hF.2.1;omega
 have a7:=hF.1;have eN:((n:Nat):Int).toNat=n:=by omega
 have eF:((f:Nat):Int).toNat=f:=by omega
 rw[eN,eF] at hD;have d1:decide (C5 n f es≠0)=false:=by simp[a8]
 simp(disch:=first|omega|assumption)only[W0,d1,k6];refine R0 (B36 a4 ac A es cap a9 a7 a5 H6 n6 (hS.ext W)) ?_;rintro _ H7 n7 ⟨⟨B7,c7,rfl,a3⟩,a1⟩;have k7:=(a1.get nx (by omega)).trans k6;have V:=W.trans a1;rcases hD with ⟨hr,rfl,rfl,aa,ab⟩ | ⟨b,hr,rfl,rfl,rfl,hB⟩
 .rw[hr]
  simp(disch:=first|omega|assumption)only[W0,Option.isSome_none];refine N5 (fun L H' nx'=>L=[.int .i64 G6]) ?_ ?_
  .intro j hj
   simp(disch:=first|omega|assumption)only[W0,k7,U2];refine R0 (R33 a4 A es cap H7 n7 (hS.ext V) (hH.ext V) a9 a7) ?_;rintro _ H8 n8 ⟨⟨c,rfl,hc⟩,a6⟩
   cases c with
   | true=>
    simp(disch:=first|omega|assumption)only[W0];exact hj _ _ _ (by rw[aa (hc.1 rfl)])
   | false=>
    simp(disch:=first|omega|assumption)only[W0];exact hj _ _ _ (by rw[ab fun h=>by have:=hc.2 h;cases this])
  rintro _ H8 n8 rfl;simp(disch:=first|omega|assumption)only[W0]
 .rw[hr] at a3 ⊢
  have aj:b.length=f:=U36 f [] none (by simp) (fun b e=>by cases e) b hr;have hm:(b.map fun(x:Nat)=>(x:Int)).length=b.length:=List.length_map _;simp(disch:=first|omega|assumption)only[W0,Option.isSome_some,Option.getD_some];have Q:=B63 (ca:=b.length) (cb:=c7) ((hB.ext U).ext a1) a3 (by simp;omega);rw[Option.getD_some,hm] at Q;refine R0 Q ?_;rintro _ H8 n8 ⟨rfl,a6⟩;simp(disch:=first|omega|assumption)only[W0];have a0:=X56 B7 (b.map fun(x:Nat)=>(x:Int)) c7 H8 n8 (a3.ext a6) (by simp;omega);rw[hm] at a0;refine R0 a0 ?_;rintro _ _ n9 ⟨rfl,rfl,ai⟩;simp(disch:=first|omega|assumption)only[W0,show inv (b.map fun(x:Nat)=>(x:Int))=R5 b from rfl]
end Go.Proofs.YtoiioigihocgbaaGreatDoor

namespace Go.Proofs.YtoiioigihocgbaaGreatDoor.dichotomyNearest
open Go.ChangeShapes Go.WideShapes Go.ChangeAt Go.RowKit Go.Joins Go.Clo
set_option maxRecDepth 100000 in
theorem lifted(os:Os)(E:os.Started)(H:Type)(enc:TypeId × Value->H):
  ReturnsInHanded {} Tryz.checked os 4 .any (fun w args=>(Rows.dichotomyNearestSpec.pre enc Tryz.prog Tryz.f4 Rows.dichotomyNearestRow.domain false w args/\laidMetH Tryz.prog X16 w)/\sizedMet enc Tryz.prog Tryz.f4 (OpenSpec.ofChange Rows.dichotomyNearestSpec) false w args)
   (Rows.dichotomyNearestSpec.post enc Tryz.prog Tryz.f4 false true false false):=by
 refine returnsInHanded_of_change_and (C:=Tryz.checked) (X:=fun w _=>laidMetH Tryz.prog X16 w) (fun _ _ _ hh h=>h.of_heap hh) own E (by kernel_rfl) Tryz.func4
  (ChangeSpec.witness_shaped (enc:=enc) (C:=Tryz.checked) (os:=os) (X:=fun w _=>laidMetH Tryz.prog X16 w) false (World.laidAll Tryz.prog os X16) #[.agg #[.int .i64 0,.slice none 0 0],.int .i64 0] 8 (World.laidAll_os _ _ _)
   (Q69 os) (by kernel_rfl) (by kernel_rfl) (by kernel_rfl) (met os _)) ?_
 intro W base args ds gs Z Q hW _ _ O _;have J:∀(j:Nat) t v,Tryz.f4.params[j]? = some t->args[j]? = some v->Value.okWide Tryz.prog W .any base t v:=Q;have a0:=hW;obtain⟨p,q,a3,hV,rfl,_,_⟩:=hW;have hA:DataW.TrodAll enc Tryz.prog W 0 (fun _=>true) true Tryz.f4.params.toList args.toList ds p:=a3;have V:=hA;rw[Tryz.params4] at hA J;obtain⟨v0,ae,d0,aa,p0,q0,a8,rfl,rfl,h0,r0⟩:=trodAll_cons hA;obtain⟨v1,ac,d1,ad,p1,q1,rfl,rfl,rfl,h1,r1⟩:=trodAll_cons r0;obtain⟨rfl,rfl,rfl⟩:=trodAll_nil r1;obtain rfl:args = #[v0,v1]:=by cases args;simp_all
 obtain⟨rfl,rfl⟩:=trodVars_none hV;obtain⟨N,A,len,cap,n0,y0,rfl,_,U,a1⟩:=V55 (J 0 24 v0 rfl rfl) h0;obtain⟨free,rfl,rfl,rfl,_⟩:=open_int Tryz.underlying3 (J 1 3 v1 rfl rfl) h1;obtain⟨F1,H1,a4,A',es,a2,a9,a6,a5,hS,ab,hH⟩:=E52 (In.start W (B48 O)) U a1;have a7:VL F1 [gv N A' es.length cap,.int .i64 free] [.agg #[.int .i64 N,.slice A len cap],.int .i64 free]:=
  .cons (VR.agg' (.cons (.int _ _) (.cons a6 .nil))) (.cons (.int _ _) .nil)
 refine(Y46 (V71 N free A' es cap H1 a4 hS hH a5) (fun _ _ _ h=>h) a2 a7).mono fun e W' ⟨he,hb⟩ => ?_
 subst he;refine⟨_,rfl,D64 a0 rfl rfl rfl rfl (by kernel_rfl) ?_ hb V fun x hx=>List.mem_append_left _ hx⟩;rw[Tryz.params4];intro t ht;simp only[List.mem_cons,List.not_mem_nil,or_false] at ht;rcases ht with rfl | rfl<;>exact⟨by kernel_rfl,of_decide_eq_true (by kernel_rfl)⟩
theorem over:Rows.dichotomyNearestRow.holds Tryz.pinned (OpenSpec.ofChange Rows.dichotomyNearestSpec):=
 OpenClaim.holds_of_wide 4 Tryz.f4 rfl rfl rfl rfl rfl rfl rfl ⟨rfl,rfl,rfl,rfl,rfl⟩ rfl rfl rfl rfl rfl (by kernel_rfl) Tryz.func4 (by kernel_rfl)
  (of_decide_eq_true (by kernel_rfl)) (by unfold Func.isWrapper;first | (rw[if_pos (by decide +kernel)];kernel_rfl) | (rw[if_neg (by decide +kernel)];exact⟨rfl,rfl⟩))
  (fun os E H enc _=>lifted os E H enc)
theorem proved:Rows.DichotomyNearestCardSaid:=
 Claim7.holds_tied_plain_at .later [] [.data] true (true, "c5ae0ebca12fb395c0a3b7aa4c544d07c055311973735efb38106f23dc425963") false over (fun _ h => by cases h) (by kernel_rfl) (fun _ h => by cases h) dichotomyNearest_row_tie rfl ⟨rfl, rfl⟩ (by kernel_rfl) rfl
  (fun f fn hf hfn=>by
   obtain rfl:f=4:=Option.some.inj ((show Tryz.prog.funcNamed Rows.dichotomyNearestRow.func=some 4 by kernel_rfl).symm.trans hf) |>.symm
   obtain rfl:fn=Tryz.f4:=(Option.some.inj (Tryz.func4.symm.trans hfn)).symm
   exact⟨by kernel_rfl,fun j t ht=>by
    rw[Tryz.params4] at ht
    have hm:t ∈ [24,3]:=by simpa using Array.mem_of_getElem? ht
    have hall:([24,3].all fun u => !Tryz.prog.wantsStandIn u)=true:=by kernel_rfl
    exact (show Tryz.prog.wantsStandIn t=false by simpa using List.all_eq_true.1 hall t hm)⟩)
  (by kernel_rfl)
end Go.Proofs.YtoiioigihocgbaaGreatDoor.dichotomyNearest
