/-
  Contract: cover.packing (the walk).
  Contract: cover.packing (the second loop).
-/
import Derived.Test.YtpiobdofbhkmjaaDoorL34
set_option linter.unusedSimpArgs false
set_option linter.unusedVariables false
set_option linter.unusedSectionVars false
namespace Go.Clo
theorem M46 {c:List Value} (h:G9 c) (k:List Value->Prop):G7 1 3 [.bool false,.slice none 0 0,.slice none 0 0] [(0,.agg ⟨c⟩)] k=k c:=by
 obtain⟨s,A,l,q,C,l',q',rfl⟩:=h
 rfl
theorem N64 (x:Int) (k:List Value->Prop):G7 1 1 [.int .i64 0] [(0,.int .i64 x)] k=k [.int .i64 x]:=rfl
theorem R92 (A:Option Addr) (l c:Nat) (k:List Value->Prop):G7 1 1 [.slice none 0 0] [(0,.slice A l c)] k=k [.slice A l c]:=rfl
theorem Q67 (l:List Nat) (v:Nat):R3 ((l++[v]).map fun (w:Nat)=>(w:Int))=R3 (l.map fun (w:Nat)=>(w:Int))++[.int .i64 (v:Int)]:=by simp[R3]
theorem R37 (l:List Nat):(R3 (l.map fun (w:Nat)=>(w:Int))).length=l.length:=by simp[R3]
theorem V24 (css:List (List Value)) (c:List Value):(css++[c]).flatten=css.flatten++c:=by simp
structure PS (H0:Y0) (n0:Nat) (H:Y0) (nx b7:Nat) (vm vC:Value) (n:Nat) (ms:List Nat) (css:List (List Value)):Prop where
 ext:D0 H0 n0 H nx
 le:n0+3<=nx
 g4:X0 H (n0+1)=some (.cells [.slice none 0 0,.slice none 0 0,.slice none 0 0] 0)
 g7:X0 H (n0+2)=some (.cells [vC,.slice none 0 0,.slice none 0 0] 0)
 am:Q6 (n0+3) H nx 1 vm n (R3 (ms.map fun (w:Nat)=>(w:Int)))
 aC:Q6 (n0+3) H nx 3 vC n css.flatten
 lm:ms.length=n
 lc:css.length=n
 rx:RX (U8 H [n0+2,R4 (n0+2) vm,R4 (n0+2) vC]) nx css fun _=>1
 ne:(vm = .slice none 0 0/\vC = .slice none 0 0)\/R4 (n0+2) vm≠R4 (n0+2) vC
end Go.Clo
namespace Go.Proofs.YtpiobdofbhkmjaaDoor
open Go.Clo
theorem E63 {H0:Y0} {n0:Nat} {H:Y0} {nx b7:Nat} {vm vC:Value} {n v:Nat} {ms:List Nat} {css:List (List Value)} {j:Value->Y0->Nat->Prop} (h:PS H0 n0 H nx b7 vm vC n ms css) (hn:n<=100)
  (hj:∀ vm' vC' css' H' nx',PS H0 n0 H' nx' b7 vm' vC' (n+1) (ms++[v]) css'->X0 H' n0=X0 H n0->j vm' H' nx'):
  (G7 1 1 [.int .i64 0] [(0,(.int .i64 (v:Int)))] fun tc_15=>D2 (.cells tc_15 0) (.slice 1 1) H nx fun t30_16 H6 nx6=>
     U7 vm t30_16 1 8 H6 nx6 fun t31_17 H7 nx7=>
     E2 (nx7+7) fun nx8=>
     D1 (.pointer (some ⟨n0+2,0,none⟩)) 0 fun t32_18=>
     G0 t32_18 none H7 fun t33_19=>
     Z1 Tryd.prog 10 [(.int .i64 1)] H7 nx8 fun t34_20 H9 nx9=>
     G7 1 3 [.bool false,.slice none 0 0,.slice none 0 0] [(0,t34_20)] fun tc_22=>wNm nx7 3 (.slice 1 1) fun t35_21=>
     hsK H9 (nx7+3) (some (.cells tc_22 0)) fun H10=>U7 t33_19 t35_21 3 56 H10 nx9 fun t36_23 H11 nx11=>
     D1 (.pointer (some ⟨n0+2,0,none⟩)) 0 fun t37_24=>
     W3 t37_24 t36_23 1 H11 fun H12=>
     (((((True)/\((True)/\((G0 t32_18 none H9 fun tq_25=>tq_25=t33_19)/\((G0 t32_18 none H7 fun tq_26=>tq_26=t33_19)/\True))))/\True))/\(
      j t31_17 H12 nx11))\/False):=by
 have hle:=h.le
 have hm:=Z26 h.am (d:=nx+1) (by omega)
 have hmo:=K36 h.am (n0+2) (nx+1)
 have hm2:=Z26 h.am (d:=n0+3) (by omega)
 have hCo:=fun d=>K36 h.aC (n0+2) d
 have hCl:=fun d (hd:n0+3<=d)=>Z26 h.aC (d:=d) hd
 have hmh:=B20 h.am (d:=n0+2) (by omega)
 have hCh:=B20 h.aC (d:=n0+2) (by omega)
 obtain⟨Am,lm,cm,hvm⟩:∃ A l c,vm = .slice A l c:=by
  rcases W8 h.am (d:=nx) with ⟨hv,_⟩ | ⟨b,hv,_⟩<;>exact⟨_,_,_,hv⟩
 obtain⟨AC,lC,cC,hvC⟩:∃ A l c,vC = .slice A l c:=by
  rcases W8 h.aC (d:=nx) with ⟨hv,_⟩ | ⟨b,hv,_⟩<;>exact⟨_,_,_,hv⟩
 have hE6:D0 H nx (hs H nx (some (.cells [.int .i64 (v:Int)] 0))) (nx+1):=(D0.refl _ _).new _ (Nat.le_refl _) (by omega)
 have g6:X0 (hs H nx (some (.cells [.int .i64 (v:Int)] 0))) nx=some (.cells [.int .i64 (v:Int)] 0):=Q0 _ _ _
 simp (disch:=first|omega|assumption) only[W0,B0.val,N64]
 generalize hs H nx (some (.cells [.int .i64 (v:Int)] 0))=H6 at *
 have hsrc:Src H6 1 (.slice (some ⟨nx,0,none⟩) 1 1) 1 [.int .i64 (v:Int)]:=Z8 g6 rfl (by omega)
 refine V15 (d:=nx+1) (by omega) (h.am.ext hE6) hsrc (by omega) rfl (by omega) (by omega) ?_
 intro H7 g7 hk7
 have g77:=(hk7 (n0+2) (by omega) (by omega)).trans ((hE6.get _ (by omega)).trans h.g7)
 have hlow7:∀ i,i<nx->i≠R4 (n0+2) vm->X0 H7 i=X0 H i:=fun i h1 h2=>(hk7 i (by omega) (by omega)).trans (hE6.get i h1)
 have hlow7':∀ i,i<n0+3->X0 H7 i=X0 H i:=fun i h1=>(hk7 i (by omega) (by omega)).trans (hE6.get i (by omega))
 simp (disch:=first|omega|assumption) only[W0,g77]
 refine R16 (qs:=[n0+2,nx+1,R4 (n0+2) vC,nx+1+1+3]) (by intro q hq;simp at hq;omega) (V16 (n:=1) (by omega) (by omega) _ _) (fun _ _ _ h=>h.2) ?_
 rintro r H9 nx9 E0 ⟨hr,hE0⟩ hE9 hS9 _
 have hle9:=hE9.le
 obtain⟨c,rfl,hc⟩:=hr.num
 have hr9:=hr.sub hS9
 have g97:=(hE9.get (n0+2) (by omega)).trans g77
 simp (disch:=first|omega|assumption) only[M46 hc]
 have g10:X0 (hs H9 (nx+1+1+3) (some (.cells c 0))) (nx+1+1+3)=some (.cells c 0):=Q0 _ _ _
 have hk10:∀ i,i≠nx+1+1+3->X0 (hs H9 (nx+1+1+3) (some (.cells c 0))) i=X0 H9 i:=fun i hi=>M0 _ hi
 generalize hs H9 (nx+1+1+3) (some (.cells c 0))=H10 at *
 have haC10:Q6 (n0+3) H10 nx9 3 vC n css.flatten:=h.aC.same (by omega) fun b hb1 hb2 hb3=>by
  have hbC:=hb3 (n0+2)
  rw[hk10 b (by omega),hE9.get b (by omega),hlow7 b hb2 ?_]
  rcases h.ne with ⟨h1,h2⟩ | hne
  .rw[h2] at hb3
   have:b+1=b:=hb3 (b+1)
   omega
  .omega
 have hsrc2:Src H10 3 (.slice (some ⟨nx+1+1+3,0,none⟩) 1 1) 1 c:=Z8 g10 (by rw[hc.three]) (by omega)
 refine V15 (d:=nx9) (by omega) haC10 hsrc2 (by omega) hc.one (by omega) (by omega) ?_
 intro H11 g11 hk11
 have hC11:=hCl nx9 (by omega)
 have hC11o:=hCo nx9
 have g117:=(hk11 (n0+2) (by omega) (by omega)).trans ((hk10 _ (by omega)).trans g97)
 have hset0:∀ (a c d v:Value),G6 [a,c,d] 0 [v]=[v,c,d]:=fun _ _ _ _=>rfl
 have hlow:∀ i,i<n0+3->X0 H11 i=X0 H i:=fun i hi=>by
  rw[hk11 i (by omega) (by omega),hk10 i (by omega),hE9.get i (by omega),hlow7' i hi]
 have hm11:X0 H11 (nx+1)=some (.cells (R3 ((ms++[v]).map fun (w:Nat)=>(w:Int))) 1):=by
  rw[hk11 _ (by omega) (by omega),hk10 _ (by omega),hE9.get _ (by omega),g7,Q67]
 subst hvm hvC
 simp (disch:=first|omega|assumption) only[W0,Nat.reduceAdd,Nat.reduceLeDiff,g117,hset0,g97]
 refine hj _ (.slice (some ⟨nx9,0,none⟩) (n+1) (n+1)) (css++[c]) _ _ ⟨⟨by have:=h.ext.le;omega,fun i hi => ?_⟩,by omega,?_,Q0 _ _ _,?_,?_,by simp[h.lm],by simp[h.lc],?_,.inr ?_⟩ ?_
 .rw[M0 _ (by omega),hlow i (by omega)];exact h.ext.get i hi
 .rw[M0 _ (by omega),hlow _ (by omega)];exact h.g4
 .refine X22 (by rw[R37];simp[h.lm]) (by omega) (by omega) ?_
  rw[M0 _ (by omega)];exact hm11
 .refine X22 (by rw[V24,List.length_append,h.aC.1,hc.three];omega) (by omega) (by omega) ?_
  rw[M0 _ (by omega),g11,V24]
 .show RX (U8 _ [n0+2,nx+1,nx9]) _ _ _
  have h9:RX (U8 H9 [n0+2,nx+1,R4 (n0+2) (Value.slice AC lC cC),nx+1+1+3]) nx9 css fun _=>1:=h.rx.step (by omega) (fun i h1 h2=>by
   simp at h2
   rw[hE9.get i (by omega),hlow7 i h1 (by omega)]) (fun q hq=>by
   simp at hq ⊢
   omega)
  refine (h9.app h.lc hr9).step (by omega) (fun i h1 h2 => ?_) (fun q hq=>by simp at hq ⊢;omega)
  simp at h2
  rw[M0 _ (by omega),hk11 i (by omega) (by omega),hk10 i (by omega)]
 .show nx+1≠nx9
  omega
 .rw[M0 _ (by omega),hlow _ (by omega)]
end Go.Proofs.YtpiobdofbhkmjaaDoor

namespace Go.Clo
structure PT (H0:Y0) (n0:Nat) (H:Y0) (nx r bm bC n:Nat) (ms:List Nat) (M:Nat->Option Value) (vA vB vf:Value) (mA mf:Nat) (bs:List Nat) (cssB:List (List Value)) (fs:List Nat) (Y:Nat->Nat->Rat):Prop where
 ext:D0 H0 n0 H nx
 le:n0+3<=r
 rn:r<nx
 g4:X0 H (n0+1)=some (.cells [.slice none 0 0,.slice none 0 0,.slice none 0 0] 0)
 g7:X0 H (n0+2)=some (.cells [.slice (some ⟨bC,0,none⟩) n n,vA,vB] 0)
 gm:X0 H bm=some (.cells (R3 (ms.map fun (w:Nat)=>(w:Int))) 1)
 bmr:bm<r
 bm3:n0+3<=bm
 mp:C8 H r M
 aA:Q6 (r+1) H nx 1 vA mA (slR n bs)
 aB:Q6 (r+1) H nx 3 vB mA cssB.flatten
 af:Q6 (r+1) H nx 1 vf mf (R3 (fs.map fun (w:Nat)=>(w:Int)))
 lA:bs.length=mA
 lB:cssB.length=mA
 lf:fs.length=mf
 roC:RO3 (U8 H [n0+2,r,R4 (n0+2) vA,R4 (n0+2) vB,R4 (n0+2) vf]) nx bC n fun _=>1
 rxB:RX (U8 H [n0+2,r,R4 (n0+2) vA,R4 (n0+2) vB,R4 (n0+2) vf]) nx cssB fun _=>1
 rows:∀ k b,bs[k]? = some b->RO3 (U8 H [n0+2,r,R4 (n0+2) vA,R4 (n0+2) vB,R4 (n0+2) vf]) nx b n (Y k)
 nAB:(vA = .slice none 0 0/\vB = .slice none 0 0)\/R4 (n0+2) vA≠R4 (n0+2) vB
 nAf:(vA = .slice none 0 0/\vf = .slice none 0 0)\/vA = .slice none 0 0\/R4 (n0+2) vA≠R4 (n0+2) vf
 nBf:(vB = .slice none 0 0/\vf = .slice none 0 0)\/vB = .slice none 0 0\/R4 (n0+2) vB≠R4 (n0+2) vf
theorem PT.ext' {H0:Y0} {n0:Nat} {H:Y0} {nx r bm bC n:Nat} {ms:List Nat} {M:Nat->Option Value} {vA vB vf:Value} {mA mf:Nat} {bs:List Nat} {cssB:List (List Value)} {fs:List Nat} {Y:Nat->Nat->Rat} {H':Y0} {nx':Nat}
  (h:PT H0 n0 H nx r bm bC n ms M vA vB vf mA mf bs cssB fs Y) (e:D0 H nx H' nx'):PT H0 n0 H' nx' r bm bC n ms M vA vB vf mA mf bs cssB fs Y:=by
 have:=e.le
 have:=h.rn;have:=h.le;have:=h.bmr
 have hs:∀ (qs:List Nat) (i:Nat),i<nx->i ∉ qs->X0 H' i=X0 H i:=fun qs i hi _=>e.get i hi
 exact⟨h.ext.trans e,h.le,by omega,(e.get _ (by omega)).trans h.g4,(e.get _ (by omega)).trans h.g7,(e.get _ (by omega)).trans h.gm,h.bmr,h.bm3,h.mp.ext h.rn e,h.aA.ext e,h.aB.ext e,h.af.ext e,h.lA,h.lB,h.lf,
  h.roC.step e.le (hs _) (fun q hq => .inl hq),h.rxB.step e.le (hs _) (fun q hq => .inl hq),fun k b hb=>(h.rows k b hb).step e.le (hs _) (fun q hq => .inl hq),h.nAB,h.nAf,h.nBf⟩
end Go.Clo
namespace Go.Proofs.YtpiobdofbhkmjaaDoor
open Go.Clo
theorem C74 {H0:Y0} {n0:Nat} {H:Y0} {nx r bm bC n:Nat} {ms:List Nat} {M:Nat->Option Value} {vA vB vf:Value} {mA mf:Nat} {bs:List Nat} {cssB:List (List Value)} {fs:List Nat} {Y:Nat->Nat->Rat} {part i:Nat} {j:Value->Y0->Nat->Prop}
  (h:PT H0 n0 H nx r bm bC n ms M vA vB vf mA mf bs cssB fs Y) (hmf:mf<=100)
  (hj:∀ vf' H' nx',PT H0 n0 H' nx' r bm bC n ms (fun t=>if t=part then some (.bool true) else M t) vA vB vf' mA (mf+1) bs cssB (fs++[i]) Y->X0 H' n0=X0 H n0->j vf' H' nx'):
  (K54 (.int .u32) (.map (some r)) (.int .u32 (part:Int)) (.bool true) H nx fun u_44 H17 nx17=>
        G7 1 1 [.int .i64 0] [(0,(.int .i64 (i:Int)))] fun tc_45=>D2 (.cells tc_45 0) (.slice 1 1) H17 nx17 fun t62_46 H18 nx18=>
        U7 vf t62_46 1 8 H18 nx18 fun t63_47 H19 nx19=>j t63_47 H19 nx19):=by
 have hle:=h.le
 have hrn:=h.rn
 have hbmr:=h.bmr
 have hbm3:=h.bm3
 refine h.mp.put part (.bool true) fun mes mc hmp => ?_
 have hk17:∀ x,x≠r->X0 (hs H r (some (.map mes mc))) x=X0 H x:=fun x hx=>M0 _ hx
 generalize hs H r (some (.map mes mc))=H17 at *
 have hE18:D0 H17 nx (hs H17 nx (some (.cells [.int .i64 (i:Int)] 0))) (nx+1):=(D0.refl _ _).new _ (Nat.le_refl _) (by omega)
 have g18:X0 (hs H17 nx (some (.cells [.int .i64 (i:Int)] 0))) nx=some (.cells [.int .i64 (i:Int)] 0):=Q0 _ _ _
 simp (disch:=first|omega|assumption) only[W0,B0.val,N64]
 generalize hs H17 nx (some (.cells [.int .i64 (i:Int)] 0))=H18 at *
 have hsrc:Src H18 1 (.slice (some ⟨nx,0,none⟩) 1 1) 1 [.int .i64 (i:Int)]:=Z8 g18 rfl (by omega)
 have hsame:∀ x,x<nx->x≠r->X0 H18 x=X0 H x:=fun x h1 h2=>(hE18.get x h1).trans (hk17 x h2)
 have haf18:Q6 (r+1) H18 (nx+1) 1 vf mf (R3 (fs.map fun (w:Nat)=>(w:Int))):=h.af.same (by omega) fun b hb1 hb2 _=>hsame b hb2 (by omega)
 refine V15 (d:=nx+1) (by omega) haf18 hsrc (by omega) rfl (by omega) (by omega) ?_
 intro H19 g19 hk19
 have hf1:=Z26 h.af (d:=nx+1) (by omega)
 have hfo:=K36 h.af (n0+2) (nx+1)
 have hlow:∀ x,x<nx->x≠r->x≠R4 (n0+2) vf->X0 H19 x=X0 H x:=fun x h1 h2 h3=>(hk19 x (by omega) (by omega)).trans (hsame x h1 h2)
 have hlow2:∀ x,x<r->X0 H19 x=X0 H x:=fun x h1=>(hk19 x (by omega) (by omega)).trans (hsame x (by omega) (by omega))
 have hrr:X0 H19 r=X0 H17 r:=(hk19 r (by omega) (by omega)).trans (hE18.get r hrn)
 have hst:∀ x,x<nx->x ∉ [n0+2,r,R4 (n0+2) vA,R4 (n0+2) vB,R4 (n0+2) vf]->X0 H19 x=X0 H x:=fun x h1 h2=>by
  simp at h2;exact hlow x h1 (by omega) (by omega)
 have hqs:∀ q ∈ [n0+2,r,R4 (n0+2) vA,R4 (n0+2) vB,nx+1],q ∈ [n0+2,r,R4 (n0+2) vA,R4 (n0+2) vB,R4 (n0+2) vf]\/nx<=q:=fun q hq=>by simp at hq ⊢;omega
 refine hj _ _ _ ⟨⟨by have:=h.ext.le;omega,fun x hx => ?_⟩,h.le,by omega,?_,?_,?_,h.bmr,h.bm3,hmp.same hrr,?_,?_,?_,h.lA,h.lB,by simp[h.lf],?_,?_,fun k b hb => ?_,h.nAB,?_,?_⟩ ?_
 .rw[hlow2 x (by omega)];exact h.ext.get x hx
 .rw[hlow2 _ (by omega)];exact h.g4
 .rw[hlow2 _ (by omega)];exact h.g7
 .rw[hlow2 _ (by omega)];exact h.gm
 .refine h.aA.same (by omega) fun b hb1 hb2 hb3=>hlow b hb2 (by omega) ?_
  rcases h.nAf with ⟨h1,_⟩ | h1 | h1
  .rw[h1] at hb3;have:b+1=b:=hb3 (b+1);omega
  .rw[h1] at hb3;have:b+1=b:=hb3 (b+1);omega
  .rw[<- hb3 (n0+2)];exact h1
 .refine h.aB.same (by omega) fun b hb1 hb2 hb3=>hlow b hb2 (by omega) ?_
  rcases h.nBf with ⟨h1,_⟩ | h1 | h1
  .rw[h1] at hb3;have:b+1=b:=hb3 (b+1);omega
  .rw[h1] at hb3;have:b+1=b:=hb3 (b+1);omega
  .rw[<- hb3 (n0+2)];exact h1
 .refine X22 (by rw[R37];simp[h.lf]) (by omega) (by omega) ?_
  rw[g19,Q67]
 .exact h.roC.step (by omega) hst hqs
 .exact h.rxB.step (by omega) hst hqs
 .exact (h.rows k b hb).step (by omega) hst hqs
 .rcases W8 h.aA (d:=n0+2) with ⟨hv,_⟩ | ⟨b,hv,e,h1,h2,_⟩
  .exact .inr (.inl hv)
  .refine .inr (.inr ?_)
   rw[e];show b≠nx+1;omega
 .rcases W8 h.aB (d:=n0+2) with ⟨hv,_⟩ | ⟨b,hv,e,h1,h2,_⟩
  .exact .inr (.inl hv)
  .refine .inr (.inr ?_)
   rw[e];show b≠nx+1;omega
 .exact hlow2 _ (by omega)
theorem G84 {H0:Y0} {n0:Nat} {H:Y0} {nx r bm bC n:Nat} {ms:List Nat} {M:Nat->Option Value} {vA vB vf:Value} {m:Nat} {bs:List Nat} {cssB:List (List Value)} {fs:List Nat} {Y:Nat->Nat->Rat} {b:Nat} {X:Nat->Rat} {j:Y0->Nat->Prop}
  (h:PT H0 n0 H nx r bm bC n ms M vA vB vf m (m+1) bs cssB fs Y) (hm:m<=100) (hb:RO3 (U8 H [n0+2,r,R4 (n0+2) vA,R4 (n0+2) vB,R4 (n0+2) vf]) nx b n X)
  (hj:∀ vA' vB' cssB' H' nx',PT H0 n0 H' nx' r bm bC n ms M vA' vB' vf (m+1) (m+1) (bs++[b]) cssB' fs (fun k=>if k=m then X else Y k)->X0 H' n0=X0 H n0->j H' nx'):
  (D1 (.pointer (some ⟨n0+2,0,none⟩)) 1 fun t80_62=>
          G0 t80_62 none H fun t81_63=>
          G7 1 1 [.slice none 0 0] [(0,.slice (some ⟨b,0,none⟩) n n)] fun tc_64=>D2 (.cells tc_64 0) (.slice 1 1) H nx fun t83_65 H24 nx24=>
          U7 t81_63 t83_65 1 24 H24 nx24 fun t84_66 H25 nx25=>
          D1 (.pointer (some ⟨n0+2,0,none⟩)) 1 fun t85_67=>
          W3 t85_67 t84_66 1 H25 fun H26=>
          E2 (nx25+7) fun nx27=>
          D1 (.pointer (some ⟨n0+2,0,none⟩)) 2 fun t86_68=>
          G0 t86_68 none H26 fun t87_69=>
          Z1 Tryd.prog 10 [(.int .i64 1)] H26 nx27 fun t88_70 H28 nx28=>
          G7 1 3 [.bool false,.slice none 0 0,.slice none 0 0] [(0,t88_70)] fun tc_72=>wNm nx25 3 (.slice 1 1) fun t89_71=>
          hsK H28 (nx25+3) (some (.cells tc_72 0)) fun H29=>U7 t87_69 t89_71 3 56 H29 nx28 fun t90_73 H30 nx30=>
          D1 (.pointer (some ⟨n0+2,0,none⟩)) 2 fun t91_74=>
          W3 t91_74 t90_73 1 H30 fun H31=>
          (((((True)/\((True)/\((G0 t86_68 none H28 fun tq_75=>tq_75=t87_69)/\((G0 t86_68 none H26 fun tq_76=>tq_76=t87_69)/\True))))/\True))/\(
           j H31 nx30))\/False):=by
 have hle:=h.le
 have hrn:=h.rn
 have hbmr:=h.bmr
 have hbm3:=h.bm3
 have hA1:=Z26 h.aA (d:=nx+1) (by omega)
 have hAo:=K36 h.aA (n0+2) (nx+1)
 have hfh:=B20 h.af (d:=n0+2) (by omega)
 have hBh:=B20 h.aB (d:=n0+2) (by omega)
 obtain⟨A1,l1,c1,hvA⟩:∃ A l c,vA = .slice A l c:=by
  rcases W8 h.aA (d:=nx) with ⟨hv,_⟩ | ⟨b,hv,_⟩<;>exact⟨_,_,_,hv⟩
 obtain⟨A2,l2,c2,hvB⟩:∃ A l c,vB = .slice A l c:=by
  rcases W8 h.aB (d:=nx) with ⟨hv,_⟩ | ⟨b,hv,_⟩<;>exact⟨_,_,_,hv⟩
 have hE24:D0 H nx (hs H nx (some (.cells [.slice (some ⟨b,0,none⟩) n n] 0))) (nx+1):=(D0.refl _ _).new _ (Nat.le_refl _) (by omega)
 have g24:X0 (hs H nx (some (.cells [.slice (some ⟨b,0,none⟩) n n] 0))) nx=some (.cells [.slice (some ⟨b,0,none⟩) n n] 0):=Q0 _ _ _
 simp (disch:=first|omega|assumption) only[W0,B0.val,h.g7,R92]
 generalize hs H nx (some (.cells [.slice (some ⟨b,0,none⟩) n n] 0))=H24 at *
 have hsrc:Src H24 1 (.slice (some ⟨nx,0,none⟩) 1 1) 1 [.slice (some ⟨b,0,none⟩) n n]:=Z8 g24 rfl (by omega)
 refine V15 (d:=nx+1) (by omega) (h.aA.ext hE24) hsrc (by omega) rfl (by omega) (by omega) ?_
 intro H25 g25 hk25
 have hlow25:∀ x,x<nx->x≠R4 (n0+2) vA->X0 H25 x=X0 H x:=fun x h1 h2=>(hk25 x (by omega) (by omega)).trans (hE24.get x h1)
 have hlow25':∀ x,x<=r->X0 H25 x=X0 H x:=fun x h1=>(hk25 x (by omega) (by omega)).trans (hE24.get x (by omega))
 have g257:=(hlow25' (n0+2) (by omega)).trans h.g7
 have hset1:∀ (a c d v:Value),G6 [a,c,d] 1 [v]=[a,v,d]:=fun _ _ _ _=>rfl
 have hset2:∀ (a c d v:Value),G6 [a,c,d] 2 [v]=[a,c,v]:=fun _ _ _ _=>rfl
 have hvA':=hvA
 have hvB':=hvB
 have g267:X0 (hs H25 (n0+2) (some (.cells [.slice (some ⟨bC,0,none⟩) n n,.slice (some ⟨nx+1,0,none⟩) (m+1) (m+1),vB] 0))) (n0+2)=some (.cells [.slice (some ⟨bC,0,none⟩) n n,.slice (some ⟨nx+1,0,none⟩) (m+1) (m+1),vB] 0):=Q0 _ _ _
 have hk26:∀ x,x≠n0+2->X0 (hs H25 (n0+2) (some (.cells [.slice (some ⟨bC,0,none⟩) n n,.slice (some ⟨nx+1,0,none⟩) (m+1) (m+1),vB] 0))) x=X0 H25 x:=fun x hx=>M0 _ hx
 simp (disch:=first|omega|assumption) only[W0,Nat.reduceAdd,Nat.reduceLeDiff,g257,hset1]
 generalize hs H25 (n0+2) (some (.cells [.slice (some ⟨bC,0,none⟩) n n,.slice (some ⟨nx+1,0,none⟩) (m+1) (m+1),vB] 0))=H26 at *
 refine R16 (qs:=[n0+2,r,nx+1,R4 (n0+2) vB,R4 (n0+2) vf,nx+1+1+3]) (by intro q hq;simp at hq;omega) (V16 (n:=1) (by omega) (by omega) _ _) (fun _ _ _ h=>h.2) ?_
 rintro r1 H28 nx28 E0 ⟨hr,hE0⟩ hE28 hS28 _
 have hle28:=hE28.le
 obtain⟨c,rfl,hc⟩:=hr.num
 have hr28:=hr.sub hS28
 have g287:=(hE28.get (n0+2) (by omega)).trans g267
 simp (disch:=first|omega|assumption) only[M46 hc]
 have g29:X0 (hs H28 (nx+1+1+3) (some (.cells c 0))) (nx+1+1+3)=some (.cells c 0):=Q0 _ _ _
 have hk29:∀ i,i≠nx+1+1+3->X0 (hs H28 (nx+1+1+3) (some (.cells c 0))) i=X0 H28 i:=fun i hi=>M0 _ hi
 generalize hs H28 (nx+1+1+3) (some (.cells c 0))=H29 at *
 have haB29:Q6 (r+1) H29 nx28 3 vB m cssB.flatten:=h.aB.same (by omega) fun b hb1 hb2 hb3=>by
  have hbB:=hb3 (n0+2)
  rw[hk29 b (by omega),hE28.get b (by omega),hk26 b (by omega),hlow25 b hb2 ?_]
  rcases h.nAB with ⟨h1,h2⟩ | hne
  .rw[h2] at hb3
   have:b+1=b:=hb3 (b+1)
   omega
  .omega
 have hsrc2:Src H29 3 (.slice (some ⟨nx+1+1+3,0,none⟩) 1 1) 1 c:=Z8 g29 (by rw[hc.three]) (by omega)
 refine V15 (d:=nx28) (by omega) haB29 hsrc2 (by omega) hc.one (by omega) (by omega) ?_
 intro H30 g30 hk30
 have hB1:=Z26 h.aB (d:=nx28) (by omega)
 have hBo:=K36 h.aB (n0+2) nx28
 have g307:=(hk30 (n0+2) (by omega) (by omega)).trans ((hk29 _ (by omega)).trans g287)
 simp (disch:=first|omega|assumption) only[W0,Nat.reduceAdd,g307,hset2,g287]
 have hlow:∀ x,x<=r->x≠n0+2->X0 H30 x=X0 H x:=fun x h1 h2=>by
  rw[hk30 x (by omega) (by omega),hk29 x (by omega),hE28.get x (by omega),hk26 x h2,hlow25' x h1]
 have hst:∀ x,x<nx->x ∉ [n0+2,r,R4 (n0+2) vA,R4 (n0+2) vB,R4 (n0+2) vf]->X0 (hs H30 (n0+2) (some (.cells [.slice (some ⟨bC,0,none⟩) n n,.slice (some ⟨nx+1,0,none⟩) (m+1) (m+1),.slice (some ⟨nx28,0,none⟩) (m+1) (m+1)] 0))) x=X0 H x:=fun x h1 h2=>by
  simp at h2
  rw[M0 _ (by omega),hk30 x (by omega) (by omega),hk29 x (by omega),hE28.get x (by omega),hk26 x (by omega),hlow25 x h1 (by omega)]
 have hqs:∀ q ∈ [n0+2,r,nx+1,nx28,R4 (n0+2) vf],q ∈ [n0+2,r,R4 (n0+2) vA,R4 (n0+2) vB,R4 (n0+2) vf]\/nx<=q:=fun q hq=>by simp at hq ⊢;omega
 have hA30:X0 H30 (nx+1)=some (.cells (slR n (bs++[b])) 1):=by
  rw[hk30 _ (by omega) (by omega),hk29 _ (by omega),hE28.get _ (by omega),hk26 _ (by omega),g25,N71]
 have hfsame:∀ x,r+1<=x->x<nx->(∀ d,R4 d vf=x)->X0 (hs H30 (n0+2) (some (.cells [.slice (some ⟨bC,0,none⟩) n n,.slice (some ⟨nx+1,0,none⟩) (m+1) (m+1),.slice (some ⟨nx28,0,none⟩) (m+1) (m+1)] 0))) x=X0 H x:=fun x h1 h2 h3=>by
  have hxf:=h3 (n0+2)
  have hA:x≠R4 (n0+2) vA:=by
   rcases h.nAf with ⟨_,h5⟩ | h5 | h5
   .rw[h5] at h3;have:x+1=x:=h3 (x+1);omega
   .rw[h5];show x≠n0+2;omega
   .omega
  have hB:x≠R4 (n0+2) vB:=by
   rcases h.nBf with ⟨_,h5⟩ | h5 | h5
   .rw[h5] at h3;have:x+1=x:=h3 (x+1);omega
   .rw[h5];show x≠n0+2;omega
   .omega
  rw[M0 _ (by omega),hk30 x (by omega) (by omega),hk29 x (by omega),hE28.get x (by omega),hk26 x (by omega),hlow25 x h2 hA]
 refine hj (.slice (some ⟨nx+1,0,none⟩) (m+1) (m+1)) (.slice (some ⟨nx28,0,none⟩) (m+1) (m+1)) (cssB++[c]) _ _ ⟨⟨by have:=h.ext.le;omega,fun x hx => ?_⟩,h.le,by omega,?_,Q0 _ _ _,?_,h.bmr,h.bm3,h.mp.same ?_,?_,?_,h.af.same (by omega) hfsame,by simp[h.lA],by simp[h.lB],h.lf,h.roC.step (by omega) hst hqs,?_,fun k d hd => ?_,.inr ?_,.inr (.inr ?_),.inr (.inr ?_)⟩ ?_
 .rw[M0 _ (by omega),hlow x (by omega) (by omega)];exact h.ext.get x hx
 .rw[M0 _ (by omega),hlow _ (by omega) (by omega)];exact h.g4
 .rw[M0 _ (by omega),hlow _ (by omega) (by omega)];exact h.gm
 .rw[M0 _ (by omega),hlow _ (by omega) (by omega)]
 .refine X22 (by rw[V25];simp[h.lA]) (by omega) (by omega) ?_
  rw[M0 _ (by omega)];exact hA30
 .refine X22 (by rw[V24,List.length_append,h.aB.1,hc.three];omega) (by omega) (by omega) ?_
  rw[M0 _ (by omega),g30,V24]
 .show RX (U8 _ [n0+2,r,nx+1,nx28,R4 (n0+2) vf]) _ _ _
  have h28:RX (U8 H28 [n0+2,r,nx+1,R4 (n0+2) vB,R4 (n0+2) vf,nx+1+1+3]) nx28 cssB fun _=>1:=h.rxB.step (by omega) (fun i h1 h2=>by
   simp at h2
   rw[hE28.get i (by omega),hk26 i (by omega),hlow25 i h1 (by omega)]) (fun q hq=>by
   simp at hq ⊢
   omega)
  refine (h28.app h.lB hr28).step (by omega) (fun i h1 h2 => ?_) (fun q hq=>by simp at hq ⊢;omega)
  simp at h2
  rw[M0 _ (by omega),hk30 i (by omega) (by omega),hk29 i (by omega)]
 .rw[List.getElem?_append] at hd
  split at hd
  .rename_i hlt
   rw[if_neg (by have:=h.lA;omega)]
   exact (h.rows k d hd).step (by omega) hst hqs
  .rename_i hlt
   have h1:=(List.getElem?_eq_some_iff.1 hd).1
   simp at h1
   have hkm:k=m:=by have:=h.lA;omega
   rw[if_pos hkm]
   rw[show k-bs.length=0 by omega] at hd
   simp at hd
   rw[<- hd]
   exact hb.step (by omega) hst hqs
 .show nx+1≠nx28
  omega
 .show nx+1≠R4 (n0+2) vf
  omega
 .show nx28≠R4 (n0+2) vf
  omega
 .rw[M0 _ (by omega),hlow _ (by omega) (by omega)]
end Go.Proofs.YtpiobdofbhkmjaaDoor
