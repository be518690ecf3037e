/-
  Contracts: the reference's Reduce and Acyclic.
  THE LAW EliminationAccepts returns true.
-/
import Derived.Test.YtpiobdofbhkmjaaDoorL48
import Derived.Test.YtpiobdofbhkmjaaDoorL16
set_option linter.unusedSimpArgs false
set_option linter.unusedVariables false
set_option linter.unusedSectionVars false
namespace Go.Clo
theorem Q65 {H:Y0} {nx b s:Nat} {l:List Value} (hb:b<nx) (h:X0 H b=some (.cells l s)):Sl H nx (some ⟨b,0,none⟩) l:=
 fun i u hu=>⟨b,0,l,rfl,hb,by rw[V3,h];rfl,by rw[Nat.zero_add];exact hu⟩
end Go.Clo
namespace Go.Proofs.YtpiobdofbhkmjaaDoor
open Go.Clo
theorem dB3 (a b c:Int) (k:List Value->Prop):G7 1 3 [.int .i64 0,.int .i64 0,.int .i64 0] [(0,.agg ⟨[.int .i64 a,.int .i64 b,.int .i64 c]⟩)] k=k [.int .i64 a,.int .i64 b,.int .i64 c]:=rfl
set_option maxHeartbeats 8000000 in
theorem M76 {N:Nat} (hN:N<=6) (A:Option Addr) (es:List Nat) (cap:Nat) (hsm:∀ e ∈ es,e<2^N) (hle:es.length<=8) (hpos:0<es.length) (H:Y0) (nx:Nat) (hS:Sl H nx A (N1 es)):
  J2 Tryd.prog 38 [gv (N:Int) A es.length cap] H nx fun r H' nx'=>(∃ sv b M,r = .tuple ⟨[sv,.slice (some ⟨b,0,none⟩) es.length es.length]⟩/\M.length=es.length/\Z4 M/\Sl H' nx' (some ⟨b,0,none⟩) (N1 M)/\((∀ x ∈ M,x=0)<->PE es))/\D0 H nx H' nx':=by
 have hp64:2^N<=64:=Nat.pow_le_pow_right (n:=2) (by omega) hN
 refine spec38 ?_
 unfold F38
 have hE1:D0 H nx (hs H nx (some (.cells [.int .i64 (N:Int),.slice A es.length cap] 0))) (nx+1):=(D0.refl H nx).new _ (Nat.le_refl _) (by omega)
 have g1:X0 (hs H nx (some (.cells [.int .i64 (N:Int),.slice A es.length cap] 0))) nx=some (.cells [.int .i64 (N:Int),.slice A es.length cap] 0):=Q0 _ _ _
 simp (disch:=first|omega|assumption) only[W0,Z0,B0.val]
 generalize hs H nx (some (.cells [.int .i64 (N:Int),.slice A es.length cap] 0))=H1 at *
 refine N16 (lo:=nx+1) (H0:=H1) (m:=es.length) (l:=N1 es) (by omega) (Q6.nil _ _ _ 1) (R66 (hS.ext hE1) (by rw[G1];omega) (by omega)) hpos (Q14 es) (by omega) (by omega) (D0.refl _ _) (Nat.le_refl _) ?_
 intro v5 H5 hA5 hE5 _
 rw[Nat.zero_add,List.nil_append] at hA5
 rcases hA5.2 with ⟨e0,_⟩ | ⟨b5,q1,q2,rfl,g5⟩
 .omega
 simp (disch:=first|omega|assumption) only[W0,V12 (n:=es.length) (by omega),W45]
 have hE6:D0 H5 (nx+1+1) (hs H5 (nx+1+1) (some (.cells (U14 (List.replicate es.length false)) 0))) (nx+1+1+1):=(D0.refl _ _).new _ (Nat.le_refl _) (by omega)
 have gG:X0 (hs H5 (nx+1+1) (some (.cells (U14 (List.replicate es.length false)) 0))) (nx+1+1)=some (.cells (U14 (List.replicate es.length false)) 0):=Q0 _ _ _
 generalize hs H5 (nx+1+1) (some (.cells (U14 (List.replicate es.length false)) 0))=H6 at *
 have hstart:RdS es N es (List.replicate es.length false):=⟨Iff.rfl,rfl,by simp,hsm,fun i hi=>by
  rw[List.getElem?_replicate] at hi
  split at hi<;>cases hi⟩
 have hsum:es.sum+(List.replicate es.length false).count false<=1000:=by
  have:=Q82 (l:=es) (b:=63) fun x hx=>by have:=hsm x hx;omega
  simp
  omega
 refine E1 (m:=es.sum+(List.replicate es.length false).count false) (fun m L H' nx'=>∃ (k:Nat) (c:List Value) (sv:Value) (M:List Nat) (g:List Bool),m=M.sum+g.count false/\k+m<=1000/\L=[sv]/\RdS es N M g/\Q6 (nx+3) H' nx' 3 sv k c /\
  X0 H' nx=some (.cells [.int .i64 (N:Int),.slice A es.length cap] 0)/\X0 H' b5=some (.cells (N1 M) 1)/\X0 H' (nx+2)=some (.cells (U14 g) 0)/\D0 H nx H' nx'/\nx+3<=nx') ?_
  ⟨0,[],_,es,_,rfl,by omega,rfl,hstart,Q6.nil _ _ _ _,by rw[hE6.get nx (by omega),hE5.get nx (by omega)];exact g1,by rw[hE6.get b5 (by omega)];exact g5,gG,((hE1.trans hE5).trans hE6),by omega⟩
 clear hA5 g5 gG hE6 hE5 hstart hsum g1
 rintro m ih L H2 n2 ⟨k,c,sv,M,g,rfl,hkm,rfl,hR,hA,gb,gM,gG,hE2,hn2⟩ hih
 have hMs:Z4 M:=fun x hx=>by have:=hR.lt x hx;omega
 have hnx:=C84 (n:=N) (by omega) hMs (by rw[hR.lm];omega) (hR.lg.trans hR.lm.symm) es.length es.length (H:=H2) (nx:=n2) (Q65 (by omega) gM) (Q65 (by omega) gG)
 rw[hR.lm] at hnx
 simp (disch:=first|omega|assumption) only[W0,gb]
 refine K0 hnx ?_
 rintro r H3 n3 ⟨hr,h3⟩
 have gb3:=(h3.get _ (by omega)).trans gb
 have gM3:=(h3.get _ (by omega)).trans gM
 have gG3:=(h3.get _ (by omega)).trans gG
 have hA3:=hA.ext h3
 have hE3:=hE2.trans h3
 have hle3:=h3.le
 clear hnx gb gM gG hA hE2 h3
 have hbox:∀ (r:List Value),D0 H3 n3 (hs (hs H3 n3 (some (.cells [.int .i64 0,.int .i64 0,.int .i64 0] 0))) n3 (some (.cells r 0))) (n3+1):=fun r=>((D0.refl _ _).new _ (Nat.le_refl _) (m:=n3+1) (by omega)).hs (Nat.le_refl _)
 have gbox:∀ (r:List Value),X0 (hs (hs H3 n3 (some (.cells [.int .i64 0,.int .i64 0,.int .i64 0] 0))) n3 (some (.cells r 0))) n3=some (.cells r 0):=fun r=>Q0 _ _ _
 have app:∀ (x y z:Int) (kk:EP),(∀ sv' H' ,Q6 (nx+3) H' (n3+3) 3 sv' (k+1) (c++[.int .i64 x,.int .i64 y,.int .i64 z])->X0 H' nx=some (.cells [.int .i64 (N:Int),.slice A es.length cap] 0)->X0 H' b5=some (.cells (N1 M) 1)->X0 H' (nx+2)=some (.cells (U14 g) 0) ->
   X0 H' n3=some (.cells [.int .i64 x,.int .i64 y,.int .i64 z] 0)->D0 H nx H' (n3+3)->kk sv' H' (n3+3)) ->
   U7 sv (.slice (some ⟨n3+1,0,none⟩) 1 1) 3 24 (hs (hs (hs H3 n3 (some (.cells [.int .i64 0,.int .i64 0,.int .i64 0] 0))) n3 (some (.cells [.int .i64 x,.int .i64 y,.int .i64 z] 0))) (n3+1) (some (.cells [.int .i64 x,.int .i64 y,.int .i64 z] 0))) (n3+2) kk:=by
  intro x y z kk hkk
  have e1:=hbox [.int .i64 x,.int .i64 y,.int .i64 z]
  have g2:=gbox [.int .i64 x,.int .i64 y,.int .i64 z]
  generalize hs (hs H3 n3 (some (.cells [.int .i64 0,.int .i64 0,.int .i64 0] 0))) n3 (some (.cells [.int .i64 x,.int .i64 y,.int .i64 z] 0))=H4 at *
  have e2:D0 H4 (n3+1) (hs H4 (n3+1) (some (.cells [.int .i64 x,.int .i64 y,.int .i64 z] 0))) (n3+2):=(D0.refl _ _).new _ (Nat.le_refl _) (by omega)
  have g3:X0 (hs H4 (n3+1) (some (.cells [.int .i64 x,.int .i64 y,.int .i64 z] 0))) (n3+1)=some (.cells [.int .i64 x,.int .i64 y,.int .i64 z] 0):=Q0 _ _ _
  generalize hs H4 (n3+1) (some (.cells [.int .i64 x,.int .i64 y,.int .i64 z] 0))=H5' at *
  have e12:=e1.trans e2
  refine N16 (lo:=nx+3) (H0:=H5') (m:=1) (l:=[.int .i64 x,.int .i64 y,.int .i64 z]) (by omega) (hA3.ext e12) (Z8 g3 rfl (by omega)) (by omega) rfl (by omega) (by omega) (D0.self (by omega)) (by omega) ?_
  intro sv' H' a1 a2 a3
  refine hkk sv' H' a1 ?_ ?_ ?_ ?_ ?_
  .rw[a2.get nx (by omega),e12.get nx (by omega)];exact gb3
  .rw[a2.get b5 (by omega),e12.get b5 (by omega)];exact gM3
  .rw[a2.get (nx+2) (by omega),e12.get (nx+2) (by omega)];exact gG3
  .rw[a3 n3 (by omega) fun A' n' c' e => ?_,e2.get n3 (by omega)]
   .exact g2
   .rcases hA3.2 with ⟨_,e3⟩ | ⟨b,b1,b2,b3,_⟩
    .rw[e3] at e;cases e
    .rw[b3] at e;cases e
     show b≠n3
     omega
  .exact⟨by omega,fun i hi=>by rw[a2.get i (by omega),e12.get i (by omega)];exact hE3.get i hi⟩
 rcases hr with ⟨e,f,ha,rfl⟩ | ⟨e,v,hv,ha,rfl⟩ | ⟨h1,h2,rfl⟩
 .obtain⟨hR',hlt⟩:=hR.abs ha
  have hel:e<es.length:=by have:=(List.getElem?_eq_some_iff.1 ha.2.1).1;rw[hR.lg] at this;exact this
  simp (disch:=first|omega|assumption) only[W0,Z0,Nat.reduceAdd,G5,D3,dB3]
  refine app _ _ _ _ ?_
  intro sv' H4 a1 a2 a3 a4 a5 a6
  have hneg:¬ ((-1:Int) ≥ 0):=by omega
  have hM1:e+1<=(N1 M).length:=by rw[G1,hR.lm];omega
  have hG1:e+1<=(U14 g).length:=by rw[Y23,hR.lg];omega
  have s1:G6 (N1 M) e [.int .u32 0]=N1 (M.set e 0):=Z7 (x:=0) (by rw[hR.lm];exact hel)
  have s2:G6 (U14 g) e [.bool true]=U14 (g.set e true):=B75 (by rw[hR.lg];exact hel)
  have d1:b5≠n3:=by omega
  have d2:nx+2≠b5:=by omega
  simp (disch:=first|omega|assumption) only[W0,a5,hneg,a3,a4,hM1,hG1,s1,s2]
  refine hih _ _ _ _ hlt ⟨k+1,_,sv',_,_,rfl,by omega,rfl,hR',Q6.low (Q6.low a1 (by omega) _) (by omega) _,?_,?_,Q0 _ _ _,(a6.hs (by omega)).hs (by omega),by omega⟩
  .rw[M0 _ (by omega),M0 _ (by omega)];exact a2
  .rw[M0 _ (by omega)];exact Q0 _ _ _
 .obtain⟨x,hx⟩:∃ x,M[e]? = some x:=⟨_,ha.1.2.choose_spec.1⟩
  obtain⟨hpx,hR',hlt⟩:=hR.iso hx ha
  have hel:e<es.length:=by have:=(List.getElem?_eq_some_iff.1 ha.1.1).1;rw[hR.lg] at this;exact this
  have hx32:=hMs.get hx
  simp (disch:=first|omega|assumption) only[W0,Z0,Nat.reduceAdd,G5,D3,dB3]
  refine app _ _ _ _ ?_
  intro sv' H4 a1 a2 a3 a4 a5 a6
  have hv32:v<32:=by omega
  have hM1:e+1<=(N1 M).length:=by rw[G1,hR.lm];omega
  have s1:G6 (N1 M) e [.int .u32 ((x-2^v:Nat):Int)]=N1 (M.set e (x-2^v)):=Z7 (by rw[hR.lm];exact hel)
  have q0:=G3 hx
  have hvi:((v:Int) ≥ 0):=by omega
  simp (disch:=first|omega|assumption) only[W0,a5,a3,hM1,s1,q0,hvi,J68 hpx hx32]
  refine hih _ _ _ _ hlt ⟨k+1,_,sv',_,_,rfl,by omega,rfl,hR',Q6.low (a1.ext (D0.self (by omega))) (by omega) _,?_,Q0 _ _ _,?_,(a6.more (by omega)).hs (by omega),by omega⟩
  .rw[M0 _ (by omega)];exact a2
  .rw[M0 _ (by omega)];exact a4
 .simp (disch:=first|omega|assumption) only[W0,Z0,Nat.reduceAdd,G5]
  refine⟨⟨sv,b5,M,rfl,hR.lm,hMs,(Q65 (by omega) gM3).ext (hbox _),hR.stuck h1 h2⟩,hE3.trans (hbox _)⟩
theorem K68 {N:Nat} (hN:N<=6) (A:Option Addr) (es:List Nat) (cap:Nat) (hsm:∀ e ∈ es,e<2^N) (hle:es.length<=8) (hpos:0<es.length) (H:Y0) (nx:Nat) (hS:Sl H nx A (N1 es)):
  J2 Tryd.prog 11 [gv (N:Int) A es.length cap] H nx fun r H' nx'=>(∃ c:Bool,r = .bool c/\(c=true<->PE es))/\D0 H nx H' nx':=by
 refine spec11 ?_
 unfold F11
 have hE1:D0 H nx (hs H nx (some (.cells [.int .i64 (N:Int),.slice A es.length cap] 0))) (nx+1):=(D0.refl H nx).new _ (Nat.le_refl _) (by omega)
 simp (disch:=first|omega|assumption) only[W0,Z0,B0.val,J3]
 generalize hs H nx (some (.cells [.int .i64 (N:Int),.slice A es.length cap] 0))=H1 at *
 refine K0 (M76 hN A es cap hsm hle hpos _ _ (hS.ext hE1)) ?_
 rintro _ H2 n2 ⟨⟨sv,b,M,rfl,hM,hMs,hSM,hpe⟩,hE2⟩
 have hE:=hE1.trans hE2
 simp (disch:=first|omega|assumption) only[W0]
 refine E1 (m:=es.length) (fun m L H' nx'=>∃ i:Nat,m+i=es.length/\L=[.int .i64 (i:Int)]/\(∀ x ∈ M.take i,x=0)/\H2=H'/\n2=nx') ?_ ⟨0,rfl,rfl,by simp,rfl,rfl⟩
 rintro m ih L _ _ ⟨i,hm,rfl,hin,rfl,rfl⟩ hih
 simp (disch:=first|omega|assumption) only[W0]
 by_cases hi:i<es.length
 .have hi':(i:Int)<(es.length:Int):=by omega
  obtain⟨x,hx⟩:∃ x,M[i]? = some x:=⟨_,List.getElem?_eq_getElem (by omega)⟩
  obtain⟨B,o,row,e,hBn,hrow,hget⟩:=hSM.open (i:=i) (by rw[G1];omega)
  rw[e]
  have q0:=hget _ _ (G3 hx)
  by_cases h0:x=0
  .have d1:decide ((x:Int)≠0)=false:=by simp[h0]
   simp (disch:=first|omega|assumption) only[W0,hi',Y3 hrow,q0,d1]
   refine hih (m-1) _ _ _ (by omega) ⟨i+1,by omega,by simp,fun y hy => ?_,rfl,rfl⟩
   rw[K9 hx] at hy
   simp only[List.mem_append,List.mem_singleton] at hy
   rcases hy with hy | rfl
   .exact hin y hy
   .exact h0
  .have d1:decide ((x:Int)≠0)=true:=by simp[h0]
   simp (disch:=first|omega|assumption) only[W0,hi',Y3 hrow,q0,d1]
   exact⟨⟨false,rfl,fun h=>(by cases h),fun h=>absurd (hpe.2 h x (List.mem_of_getElem? hx)) h0⟩,hE⟩
 .have hi':¬ (i:Int)<(es.length:Int):=by omega
  simp (disch:=first|omega|assumption) only[W0,hi']
  rw[List.take_of_length_le (by omega)] at hin
  exact⟨⟨true,rfl,fun _=>hpe.1 hin,fun _=>rfl⟩,hE⟩
end Go.Proofs.YtpiobdofbhkmjaaDoor

namespace Go.Proofs.YtpiobdofbhkmjaaDoor
open Go.Clo
theorem Q92:X4 1 100000:=by
 have h1:(R0 1).length<=1:=X7 (by omega)
 exact⟨by show (R0 1).length<_;omega,by show (R0 1).length<_;omega⟩
set_option maxHeartbeats 8000000 in
theorem U97 (N:Int) (fr:Nat) (A:Option Addr) (es:List Nat) (cap:Nat) (H:Y0) (nx:Nat) (hS:Sl H nx A (N1 es)) (hsm32:Z4 es) (hfr:fr<256):
  J2 Tryd.prog 3 [gv N A es.length cap,.int .u8 (fr:Int)] H nx fun r _ _=>r = .bool true:=by
 refine spec3 ?_
 unfold F3
 have hE1:D0 H nx (hs H nx (some (.cells [.int .i64 N,.slice A es.length cap] 0))) (nx+1):=(D0.refl H nx).new _ (Nat.le_refl _) (by omega)
 have g1:X0 (hs H nx (some (.cells [.int .i64 N,.slice A es.length cap] 0))) nx=some (.cells [.int .i64 N,.slice A es.length cap] 0):=Q0 _ _ _
 simp only[gv]
 rw[X31]
 refine (@if_pos _ _ (show Z0 [Value.int .i64 N,.slice A es.length cap]=true from rfl) _ _ _).mpr ?_
 rw[X18]
 simp only[B0.val]
 generalize hs H nx (some (.cells [.int .i64 N,.slice A es.length cap] 0))=H1 at *
 refine J6 (fun L' H' m'=>∃ q:Bool,L'=[.bool q]/\(q=false->∃ n:Nat,N=n/\1<=n/\n<=6/\es.length<=8/\∀ e ∈ es,e<2^n)/\D0 H1 (nx+1) H' m') (fun j hj => ?_) ?_
 case refine_1=>
  simp (disch:=first|omega|assumption) only[W0,g1,J3]
  refine K0 (Z90 N A es cap _ _ (hS.ext hE1) hsm32) ?_
  rintro _ H3 m3 ⟨⟨c,rfl,hc⟩,hE3⟩
  have g3:=(hE3.get nx (by omega)).trans g1
  cases c with
  | false=>
   simp (disch:=first|omega|assumption) only[W0]
   exact hj _ _ _ ⟨true,rfl,fun h=>(by cases h),hE3⟩
  | true=>
   obtain⟨h0,h6,hle,hgc⟩:=hc rfl
   simp (disch:=first|omega|assumption) only[W0,g3]
   refine hj _ _ _ ⟨_,rfl,fun hq => ?_,hE3⟩
   have hN0:¬ N=0:=by simpa using hq
   have hfc:V9 N 0 es=0:=by
    unfold V9
    rw[hgc];simp;omega
   obtain⟨n,f,e1,_,_,_,_,hes⟩:=D42 hfc
   exact⟨n,e1,by omega,by omega,by omega,hes⟩
 rintro _ H2 nx2 ⟨q,rfl,hq,hE2⟩
 cases q with
 | true=>
  simp (disch:=first|omega|assumption) only[W0,B0.val]
  refine K0 (C21 _ _) ?_
  rintro _ _ _ ⟨rfl,rfl,rfl⟩
  simp (disch:=first|omega|assumption) only[]
 | false=>
 obtain⟨n,rfl,hn1,hn6,hle,hsm⟩:=hq rfl
 have g2:=(hE2.get nx (by omega)).trans g1
 have hle2:=hE2.le
 have hE02:=hE1.trans hE2
 obtain⟨f,hfd⟩:∃ f:Nat,f=fr%(n+1):=⟨_,rfl⟩
 have hf:f<=n:=by have:fr%(n+1)<n+1:=Nat.mod_lt _ (by omega);omega
 have ec:∀ k,M3 .i64 (.int .u8 (fr:Int)) k=k (.int .i64 (fr:Int)):=fun k=>by rw[W17,R26 (by omega) (by omega)]
 have hcz:(n:Int)+1≠0:=by omega
 have hmod:Int.tmod (fr:Int) ((n:Int)+1)=((fr%(n+1):Nat):Int):=rfl
 rw[<- hfd] at hmod
 simp (config:={ maxSteps:=2000000 }) (disch:=first|omega|assumption) only[W0,B0.val,ec,g2,G37 _ _ _ _ hcz,hmod,J3]
 refine K0 (R69 (hS.ext hE02) hn6 hf hsm hle) ?_
 rintro r8 H8 nx8 ⟨hE8,hr8⟩
 have hle8:=hE8.le
 have hE08:=hE02.trans hE8
 have g82:=(hE8.get nx (by omega)).trans g2
 obtain⟨P,lp,w,U9,rfl,⟨c8,rfl,hc8⟩,hans⟩:∃ P lp w U9,r8 = .tuple ⟨[.slice P lp lp,w,.int .i64 U9]⟩/\(∃ c8,w = .agg ⟨c8⟩/\G9 c8)/\((orF es es.length≠2^n-1/\U9=9) \/
   (orF es es.length=2^n-1/\U9=0/\RR H8 nx8 w (J7 es n f))):=by
  rcases hr8 with ⟨h1,rfl⟩ | ⟨h1,B,w,rfl,h2,h3⟩
  .exact⟨none,0,M74,9,rfl,⟨_,rfl,_,_,_,_,_,_,_,rfl⟩,.inl ⟨h1,rfl⟩⟩
  .obtain⟨c,rfl,hc⟩:=h3.num
   exact⟨B,_,_,0,rfl,⟨c,rfl,hc⟩,.inr ⟨h1,rfl,h3⟩⟩
 have hE10:D0 H8 nx8 (hs (hs H8 nx8 (some (.cells [.bool false,.slice none 0 0,.slice none 0 0] 0))) nx8 (some (.cells c8 0))) (nx8+1):=((D0.refl _ _).new _ (Nat.le_refl _) (m:=nx8+1) (by omega)).hs (Nat.le_refl _)
 have g107:X0 (hs (hs H8 nx8 (some (.cells [.bool false,.slice none 0 0,.slice none 0 0] 0))) nx8 (some (.cells c8 0))) nx8=some (.cells c8 0):=Q0 _ _ _
 have g102:=(hE10.get nx (by omega)).trans g82
 simp (config:={ maxSteps:=2000000 }) (disch:=first|omega|assumption) only[W0,Nat.reduceAdd,hc8.three,hc8.one,Z5 (show c8.length=[Value.bool false,.slice none 0 0,.slice none 0 0].length from hc8.three),g82,J3]
 generalize hs (hs H8 nx8 (some (.cells [.bool false,.slice none 0 0,.slice none 0 0] 0))) nx8 (some (.cells c8 0))=H10 at *
 have hE010:=hE08.trans hE10
 refine K0 (R93 (n:Int) A es.length cap _ _) ?_
 rintro _ H11 nx11 ⟨rfl,hE11⟩
 have hle11:=hE11.le
 have g117:=(hE11.get nx8 (by omega)).trans g107
 simp (config:={ maxSteps:=2000000 }) (disch:=first|omega|assumption) only[W0,Z0,Nat.reduceAdd,gv,C31]
 have hE12:D0 H11 nx11 (hs (hs H11 nx11 (some (.cells [.int .i64 0,.slice none 0 0] 0))) nx11 (some (.cells [.int .i64 (n:Int),.slice A es.length cap] 0))) (nx11+1):=((D0.refl _ _).new _ (Nat.le_refl _) (m:=nx11+1) (by omega)).hs (Nat.le_refl _)
 have g12x:X0 (hs (hs H11 nx11 (some (.cells [.int .i64 0,.slice none 0 0] 0))) nx11 (some (.cells [.int .i64 (n:Int),.slice A es.length cap] 0))) nx11=some (.cells [.int .i64 (n:Int),.slice A es.length cap] 0):=Q0 _ _ _
 generalize hs (hs H11 nx11 (some (.cells [.int .i64 0,.slice none 0 0] 0))) nx11 (some (.cells [.int .i64 (n:Int),.slice A es.length cap] 0))=H12 at *
 have hE012:=(hE010.trans hE11).trans hE12
 have g127:=(hE12.get nx8 (by omega)).trans g117
 rcases hans with ⟨hco,rfl⟩ | ⟨hco,rfl,hw⟩
 .simp (disch:=first|omega|assumption) only[W0]
  refine K0 (C21 _ _) ?_
  rintro _ _ _ ⟨rfl,rfl,rfl⟩
  simp (disch:=first|omega|assumption) only[]
 have hcov:∀ w,w<n->∃ e ∈ es,e.testBit w=true:=fun w hw=>N28.1 (by rw[hco,Nat.testBit_two_pow_sub_one];simpa using hw)
 have hpos:0<es.length:=by
  obtain⟨e,he,_⟩:=hcov 0 (by omega)
  exact List.length_pos_of_mem he
 have hWS:X4 (J7 es n f) 100000:=Z37 hf hle _ (Nat.le_refl _)
 have hone:=U86 hn6 hsm hle hcov hf
 have hge:=R90 hn6 hsm hle hcov hf (by omega)
 have d09:¬ ((0:Int)=9):=by omega
 simp (disch:=first|omega|assumption) only[W0,d09]
 refine K0 (C21 _ _) ?_
 rintro _ _ _ ⟨rfl,rfl,rfl⟩
 simp (disch:=first|omega|assumption) only[W0,g127,Q3 hc8]
 have hE13:D0 H12 (nx11+1) H12 (nx11+28):=D0.self (by omega)
 have hw13:=hw.ext (((hE10.trans hE11).trans hE12).trans hE13)
 have hS13:=hS.ext (hE012.trans hE13)
 refine K0 (V16 (n:=1) (by omega) (by omega) _ _) ?_
 rintro r14 H14 nx14 ⟨hr14,hE14⟩
 have hr14:RR H14 nx14 r14 1:=hr14
 have k14:=(hE14.get nx8 (by omega)).trans g127
 have x14:=(hE14.get nx11 (by omega)).trans g12x
 have hle14:=hE14.le
 refine K0 (N20 (hw13.ext hE14) hr14 hWS Q92) ?_
 rintro _ H15 nx15 ⟨rfl,hE15⟩
 have hle15:=hE15.le
 have x15:=(hE15.get nx11 (by omega)).trans x14
 have hS15:=(hS13.ext hE14).ext hE15
 have fin:∀ b:Bool,(b=true<->PE es/\¬ Y27 (V7 es) n f []/\¬ D43 es f)->decide (Q11 (J7 es n f) 1=0)=b:=fun b hb=>by
  rw[Bool.eq_iff_iff,decide_eq_true_iff,hb,<- hone,V54]
  exact⟨fun h=>by rw[h];exact Rat.le_refl,fun h=>by grind⟩
 simp (disch:=first|omega|assumption) only[W0,x15,J3]
 refine K0 (K68 hn6 A es cap hsm hle hpos H15 nx15 hS15) ?_
 rintro _ H16 nx16 ⟨⟨c1,rfl,hc1⟩,hE16⟩
 have hle16:=hE16.le
 have x16:=(hE16.get nx11 (by omega)).trans x15
 have hS16:=hS15.ext hE16
 cases c1 with
 | false=>
  have hd:=fin false ⟨fun h=>(by cases h),fun h=>hc1.2 h.1⟩
  simp (disch:=first|omega|assumption) only[W0,hd,R43,cond_false,beq_self_eq_true,x14,x16,g12x,k14,Q3 hc8,J3]
 | true=>
  simp (disch:=first|omega|assumption) only[W0,x16,J3]
  refine K0 (W87 A es cap (N:=n) (by omega) hf hsm32 (by omega) n [] List.nodup_nil (fun x h=>by simp at h) (by simp) none H16 nx16 hS16 (Sl.nil _ _ _) (.inl rfl)) ?_
  rintro _ H17 nx17 ⟨⟨c2,rfl,hc2⟩,hE17⟩
  have hle17:=hE17.le
  have x17:=(hE17.get nx11 (by omega)).trans x16
  have hS17:=hS16.ext hE17
  cases c2 with
  | true=>
   have hd:=fin false ⟨fun h=>(by cases h),fun h=>absurd (hc2.1 rfl) h.2.1⟩
   simp (disch:=first|omega|assumption) only[W0,hd,R43,cond_false,beq_self_eq_true,x14,x17,g12x,k14,Q3 hc8,J3]
  | false=>
   simp (disch:=first|omega|assumption) only[W0,x17,J3]
   refine K0 (J88 (n:Int) A es cap hsm32 (by omega) (by omega) H17 nx17 hS17) ?_
   rintro _ H18 nx18 ⟨⟨c3,rfl,hc3⟩,hE18⟩
   have hd:=fin (!c3) (by
    constructor
    .intro h
     exact⟨hc1.1 rfl,fun h2=>(by have:=hc2.2 h2;cases this),fun h2=>(by rw[hc3.2 h2] at h;cases h)⟩
    .rintro⟨_,_,h⟩
     cases c3 with
     | false=>rfl
     | true=>exact absurd (hc3.1 rfl) h)
   simp (disch:=first|omega|assumption) only[W0,hd,R43,cond_false,beq_self_eq_true,x14,g12x,k14,Q3 hc8,J3]
end Go.Proofs.YtpiobdofbhkmjaaDoor
