/-
  Contracts: slices.Clone of sets,hypergraph.Reduce,Acyclic: an elimination order with bags inside edges exists.
  Plain: connex.Path finds a path exactly if there is a free path.
-/
import Derived.Test.YtoiioigihocgbaaGreatDoorN23
import Derived.Test.YtoiioigihocgbaaGreatDoorN20
import Derived.Test.YtoiioigihocgbaaGreatDoorN18
set_option linter.all false
namespace Go.Proofs.YtoiioigihocgbaaGreatDoor
open Go.Clo
variable {H:Y0} {M es:List Nat} {c:List Value} {e i n nx v x:Nat} {g:List Bool}
theorem B37:∀{l:List Nat}{i x y:Nat},l[i]? = some x->(l.set i y).sum+x=l.sum+y
 | [],i,x,y,h=>by simp at h
 | a :: l,0,x,y,h=>by
  simp at h;subst h;simp;omega
 | a :: l,i+1,x,y,h=>by
  have:=B37 (l:=l) (i:=i) (y:=y) (by simpa using h);simp;omega
theorem G22:∀{g:List Bool}{i:Nat},g[i]? = some false->(g.set i true).count false+1=g.count false
 | [],i,h=>by simp at h
 | a :: l,0,h=>by
  simp at h;subst h;simp
 | a :: l,i+1,h=>by
  have:=G22 (g:=l) (i:=i) (by simpa using h);rw[List.set_cons_succ,List.count_cons,List.count_cons];omega
theorem Y61:∀{l:List Nat}{b:Nat},(∀ x ∈ l,x<=b)->l.sum<=l.length*b
 | [],b,_=>by simp
 | a :: l,b,h=>by
  have h1:=h a (by simp);have h2:=Y61 (l:=l) (b:=b) fun x hx=>h x (by simp[hx])
  rw[List.sum_cons,List.length_cons,Nat.succ_mul];omega
theorem E39{M:List Nat}{e y B:Nat}(h:∀ x ∈ M,x<B)(hy:y<B):∀ x ∈ M.set e y,x<B:=fun x hx=>by
 rcases List.mem_or_eq_of_mem_set hx with h1 | h1
 .exact h x h1
 .omega
structure RdS (es:List Nat) (n:Nat) (M:List Nat) (g:List Bool):Prop where
 pe:PE M<->PE es
 lm:M.length=es.length
 lg:g.length=es.length
 lt:∀ x ∈ M,x<2^n
 gone:∀ i:Nat,g[i]? = some true->M[i]? = some 0
theorem RdS.abs(h:RdS es n M g){f:Nat}(ha:G15 M g e f):RdS es n (M.set e 0) (g.set e true)/\(M.set e 0).sum+(g.set e true).count false<M.sum+g.count false:=by
 obtain⟨h1,h2,h3,x,y,h4,h5,h6⟩:=ha;have h7:∀ w,x.testBit w=true->y.testBit w=true:=fun w hw=>by
  have:=N1 x y w;rw[h6,Nat.zero_testBit,hw] at this
  cases hy:y.testBit w with
  | true=>rfl
  | false=>rw[hy] at this;cases this
 refine⟨⟨(N56 h1 h4 h5 h7).trans h.pe,by rw[List.length_set];exact h.lm,by rw[List.length_set];exact h.lg,E39 h.lt (Nat.pow_pos (by omega)),fun i hi => ?_⟩,?_⟩
 .by_cases e1:e=i
  .subst e1
   rw[List.getElem?_set_self (List.getElem?_eq_some_iff.1 h4).1]
  .rw[List.getElem?_set_ne e1] at hi
   rw[List.getElem?_set_ne e1];exact h.gone i hi
 .have:=B37 (y:=0) h4
  have:=G22 h2;omega
theorem K30(h:M[i]? = some x):Z7 M v i=x.testBit v:=by unfold Z7;rw[h]
theorem RdS.iso(h:RdS es n M g)(hx:M[e]? = some x)(ha:D24 M v e):RdS es n (M.set e (Z2 x (2^v))) g/\(M.set e (Z2 x (2^v))).sum+g.count false<M.sum+g.count false:=by
 have hv:x.testBit v=true:=(K30 hx).symm.trans ha.1;have Q:=Q41 hv;have U:=h.lt x (List.mem_of_getElem? hx);refine⟨⟨(E68 hx hv (fun i z hz E=>Classical.byContradiction fun O => ?_) fun w => ?_).trans h.pe,by rw[List.length_set];exact h.lm,h.lg,E39 h.lt (by omega),fun i hi => ?_⟩,?_⟩
 .have:=ha.2 i O
  rw[K30 hz,E] at this;cases this
 .rw[N1,Nat.testBit_two_pow]
  by_cases hw:v=w
  .subst hw;simp
  .have J:¬ w=v:=fun e=>hw e.symm
   simp[hw,J]
 .have:=h.gone i hi
  by_cases e1:e=i
  .subst e1;rw[hx] at this;cases this;simp at hv
  .rw[List.getElem?_set_ne e1];exact this
 .have:=B37 (y:=Z2 x (2^v)) hx
  omega
theorem RdS.stuck{es:List Nat}{n:Nat}{M:List Nat}(h:RdS es n M g)(h1:∀ e f:Nat,¬ G15 M g e f)(h2:∀ v e:Nat,v<n->¬ D24 M v e):(∀ x ∈ M,x=0)<->PE es:=by
 rw[<- h.pe]
 constructor
 .exact V51
 .rintro⟨l,l1,l2⟩
  have E:∀(i x:Nat),M[i]? = some x->x≠0->g[i]? = some false:=fun i x hi hx=>by
   have O:=(List.getElem?_eq_some_iff.1 hi).1;obtain⟨b,J⟩:∃ b,g[i]? = some b:=⟨_,List.getElem?_eq_getElem (by rw[h.lg,<- h.lm];exact O)⟩
   cases b with
   | false=>exact J
   | true=>
    have:=h.gone i J;rw[hi] at this
    cases this
    exact absurd rfl hx
  refine D34 (fun i j x y V hi hj hx hy hs=>h1 i j ⟨V,E i x hi hx,E j y hj hy,x,y,hi,hj,?_⟩) (fun i x v hi hv => ?_) l1 l2
  .apply Nat.eq_of_testBit_eq
   intro w;rw[N1,Nat.zero_testBit]
   cases hw:x.testBit w with
   | false=>rfl
   | true=>rw[hs w hw];rfl
  .refine Classical.byContradiction fun U=>h2 v i (R7 (h.lt x (List.mem_of_getElem? hi)) hv) ⟨(K30 hi).trans hv,fun j Q => ?_⟩
   cases hb:Z7 M v j with
   | false=>rfl
   | true=>
    unfold Z7 at hb
    split at hb
    .rename_i y hy
     exact absurd ⟨j,y,Q,hy,hb⟩ U
    .cases hb
theorem D38(A:Option Addr)(es:List Nat)(cap:Nat)(H:Y0)(nx:Nat)(hS:Sl H nx A (C0 es))(h0:Has H nx A)(hl:es.length<=64):
  Q2 Tryz.prog 85 [.slice A es.length cap] H nx fun r H' nx'=>(∃ B,r = .slice B es.length es.length/\Sl H' nx' B (C0 es)/\(0<es.length->∃ q,B=some ⟨q,0,none⟩/\nx<=q/\q<nx'/\J0 H' q=some (.cells (C0 es) 1)))/\D0 H nx H' nx':=by
 refine spec85 ?_;unfold F85;rw[G21]
 cases A with
 | none=>
  have J:es=[]:=by
   cases es with
   | nil=>rfl
   | cons x es=>
    obtain⟨b,o,row,e,_⟩:=hS.open (i:=0) (by rw[E1];simp)
    cases e
  subst J;simp(disch:=first|omega|assumption)only[W0,Q0.val,Option.isNone];exact⟨⟨none,rfl,Sl.nil _ _ _,fun h=>absurd h (by simp)⟩,D0.refl _ _⟩
 | some a=>
  simp(disch:=first|omega|assumption)only[W0,Q0.val,Option.isNone,U21];have hX:D0 H nx (hs H nx (some (.cells [] 0))) (nx+1):=(D0.refl H nx).new _ (Nat.le_refl _) (by omega);refine R20 (lo:=nx) (H0:=H) (l:=C0 es) (E0 _ _ _) (Nat.le_refl _) (by omega) (C27 (hS.ext hX) (h0.ext hX) (by rw[E1,Nat.mul_one]) (by omega)) (W5 es) (by omega) (by omega) hX ?_;intro v1 H1 V _ O Q;have E:=O;obtain⟨P,rfl,hP,_⟩:=O.sl;rw[E1];refine⟨⟨P,rfl,hP,fun U => ?_⟩,Q⟩;rcases E with E | ⟨e,_⟩
  .rcases E.2 with ⟨e,_⟩ | ⟨q,q1,q2,q3,q4⟩
   .rw[E1] at e;omega
   .injection q3 with q5
    exact⟨q,q5,q1,q2,q4⟩
  .have:=congrArg List.length e
   rw[E1] at this;have h2:es.length=0:=this;omega
theorem G23{b:Nat}{s:Nat}(h:J0 H b=some (.cells c s))(hb:b<nx):Sl H nx (some ⟨b,0,none⟩) c:=
 fun i v hv=>⟨b,0,c,rfl,hb,by simp[Q5,h,C1.row],by simpa using hv⟩
theorem _root_.Go.Clo.Acc.more{lo:Nat}{H:Y0}{nx nx' size:Nat}{v:Value}{n:Nat}{c:List Value}(h:Acc lo H nx size v n c)(E:nx<=nx'):Acc lo H nx' size v n c:=
 ⟨h.1,h.2.imp id fun⟨b,h1,h2,h3,h4⟩=>⟨b,h1,by omega,h3,h4⟩⟩
theorem _root_.Go.Clo.Acc.hs'{lo:Nat}{size:Nat}{v:Value}(h:Acc lo H nx size v n c){x:Option C1}(hi:i<lo\/nx<=i):Acc lo (hs H i x) nx size v n c:=
 ⟨h.1,h.2.imp id fun⟨b,h1,h2,h3,h4⟩=>⟨b,h1,h2,h3,by rw[Z1 _ (by omega)];exact h4⟩⟩
set_option maxHeartbeats 8000000 in
theorem K58 {n : Nat} (hn : n <= 6) (A : Option Addr) (es : List Nat) (cap : Nat) (H : Y0) (nx : Nat) (hS : Sl H nx A (C0 es)) (hH : Has H nx A) (hsn : ∀ e ∈ es, e < 2 ^ n) (h0 : 0 < es.length) (hl : es.length <= 8) :
    Q2 Tryz.prog 52 [gv n A es.length cap] H nx fun r H' nx' => D0 H nx H' nx' /\ ∃ (K27 : Value) (B : Option Addr) (rest : List Nat), r = .tuple ⟨[K27, .slice B rest.length rest.length]⟩ /\ rest.length <= 64 /\ Sl H' nx' B (C0 rest) /\ ((∀ x ∈ rest, x = 0) <-> PE es) := by
  have hp64 : 2 ^ n <= 64 := Nat.pow_le_pow_right (n := 2) (by omega) hn
  have hsm : C4 es := fun e he => by have := hsn e he; omega
  have hg : N3 n es = 0 := V11 (by omega) (by omega) fun i e he => hsn e (List.mem_of_getElem? he)
  refine spec52 ?_
  unfold F52
  have hE1 : D0 H nx (hs H nx (some (.cells [.int .i64 (n : Int), .slice A es.length cap] 0))) (nx + 1) := (D0.refl H nx).new _ (Nat.le_refl _) (by omega)
  simp only [gv]
  simp (config := { maxSteps := 2000000 }) (disch := first|omega|assumption) only [W0, Z0, Q0.val, U2]
  generalize hK : hs H nx (some (.cells [.int .i64 (n : Int), .slice A es.length cap] 0)) = K at hE1
  have kG : J0 K nx = some (.cells [.int .i64 (n : Int), .slice A es.length cap] 0) := by rw [<- hK, E0]
  refine R0 (N11 n A es cap K (nx + 1) (hS.ext hE1) hsm) ?_
  rintro _ H2 nx2 ⟨rfl, hE2⟩
  have d0 : decide ((0 : Int) ≠ 0) = false := by simp
  have hEE2 := hE1.trans hE2
  have kG2 := (hE2.get nx (by omega)).trans kG
  rw [hg]
  simp (config := { maxSteps := 2000000 }) (disch := first|omega|assumption) only [W0, d0, kG2]
  refine R0 (D38 A es cap H2 nx2 (hS.ext hEE2) (hH.ext hEE2) (by omega)) ?_
  rintro _ H3 nx3 ⟨⟨B, rfl, _, hB⟩, hE3⟩
  obtain ⟨q, rfl, hq1, hq2, hq3⟩ := hB h0
  have hl6 : es.length <= 1000000 := by omega
  have hnx2 := hE2.le
  have hnx3 := hE3.le
  simp (config := { maxSteps := 2000000 }) (disch := first|omega|assumption) only [W0, M27 hl6, N28]
  generalize hK4 : hs H3 nx3 (some (.cells (N10 (List.replicate es.length false)) 0)) = K4
  have hE4 : D0 H3 nx3 K4 (nx3 + 1) := by rw [<- hK4]; exact (D0.refl H3 nx3).new _ (Nat.le_refl _) (by omega)
  have hEE4 := (hEE2.trans hE3).trans hE4
  have hstart : RdS es n es (List.replicate es.length false) := ⟨Iff.rfl, rfl, by simp, hsn, fun i hi => by
    rw [List.getElem?_replicate] at hi
    split at hi <;> cases hi⟩
  have hsum : es.sum + (List.replicate es.length false).count false + 0 <= 1000 := by
    have := Y61 (l := es) (b := 63) fun x hx => by have := hsn x hx; omega
    simp
    omega
  refine B1 (m := es.sum + (List.replicate es.length false).count false) (fun m L H' nx' => ∃ (rest : List Nat) (rem : List Bool) (cnt : Nat) (c : List Value) (v : Value), rest.sum + rem.count false = m /\ m + cnt <= 1000 /\ L = [v] /\ Acc (nx3 + 1) H' nx' 3 v cnt c /\ D0 H nx H' nx' /\ nx3 + 1 <= nx' /\
      J0 H' nx = some (.cells [.int .i64 (n : Int), .slice A es.length cap] 0) /\ J0 H' q = some (.cells (C0 rest) 1) /\ J0 H' nx3 = some (.cells (N10 rem) 0) /\ rest.length = es.length /\ RdS es n rest rem) ?_
    ⟨es, List.replicate es.length false, 0, [], _, rfl, hsum, rfl, Acc.nil _ _ _ _, hEE4, Nat.le_refl _, (hE4.get nx (by omega)).trans ((hE3.get nx (by omega)).trans kG2), (hE4.get q hq2).trans hq3, by rw [<- hK4, E0], rfl, hstart⟩
  rintro m ih L H5 nx5 ⟨rest, rem, cnt, c, v, hmu, hcnt, rfl, hA, hE5, hx5, g1, gq, gr, hlen, hR⟩ hih
  have hRl : rem.length = rest.length := hR.lg.trans hR.lm.symm
  have hRs : C4 rest := fun x hx => by have := hR.lt x hx; omega
  simp (config := { maxSteps := 2000000 }) (disch := first|omega|assumption) only [W0]
  have eB : ∀ (x y z : Int) k, K6 1 3 [.int .i64 0, .int .i64 0, .int .i64 0] [(0, .agg ⟨[.int .i64 x, .int .i64 y, .int .i64 z]⟩)] k = k [.int .i64 x, .int .i64 y, .int .i64 z] := fun _ _ _ _ => rfl
  have hsq : Sl H5 nx5 (some ⟨q, 0, none⟩) (C0 rest) := G23 gq (by omega)
  have hsr : Sl H5 nx5 (some ⟨nx3, 0, none⟩) (N10 rem) := G23 gr (by omega)
  have h54 := G43 (some ⟨q, 0, none⟩) (some ⟨nx3, 0, none⟩) rest rem es.length es.length H5 nx5 hsq hsr hRl (by omega) hRs
  rw [hRl, hlen] at h54
  refine R0 h54 ?_
  rintro _ H6 nx6 ⟨hE6, h⟩
  have hx6 := hE6.le
  have g16 := (hE6.get nx (by omega)).trans g1
  have gq6 := (hE6.get q (by omega)).trans gq
  have gr6 := (hE6.get nx3 (by omega)).trans gr
  have hA6 := hA.ext hE6
  have hEE6 := hE5.trans hE6
  have next : ∀ (rest' : List Nat) (rem' : List Bool) (H8 : Y0) (nx8 : Nat) (x y z : Int), (rest'.sum + rem'.count false) < m -> rest'.length = es.length -> RdS es n rest' rem' -> Acc (nx3 + 1) H8 nx8 3 v cnt c -> D0 H nx H8 nx8 -> nx3 + 1 <= nx8 ->
      J0 H8 nx = some (.cells [.int .i64 (n : Int), .slice A es.length cap] 0) -> J0 H8 q = some (.cells (C0 rest') 1) -> J0 H8 nx3 = some (.cells (N10 rem') 0) ->
      B5 v (.slice (some ⟨nx8, 0, none⟩) 1 1) 3 24 (hs H8 nx8 (some (.cells [.int .i64 x, .int .i64 y, .int .i64 z] 0))) (nx8 + 1) fun t56_50 H17 nx17 => ih [t56_50] H17 nx17 := by
    intro rest' rem' H8 nx8 x y z hm8 hl8 hR8 hA8 hE8 hx8 g18 gq8 gr8
    have hE9 : D0 H8 nx8 (hs H8 nx8 (some (.cells [.int .i64 x, .int .i64 y, .int .i64 z] 0))) (nx8 + 1) := (D0.refl H8 nx8).new _ (Nat.le_refl _) (by omega)
    refine Y20 (H0 := hs H8 nx8 (some (.cells [.int .i64 x, .int .i64 y, .int .i64 z] 0))) (by omega) (hA8.ext hE9) (J9 (E0 _ _ _) rfl (by omega)) (by omega) rfl (by omega) (by omega) (D0.self (by omega)) (by omega) ?_
    intro v' H' hA' hE' hsame
    refine hih ((rest'.sum + rem'.count false)) _ _ _ hm8 ⟨rest', rem', cnt + 1, _, v', rfl, by omega, rfl, hA', ?_, by omega, ?_, ?_, ?_, hl8, hR8⟩
    · exact ⟨by have := hE8.le; omega, fun i hi => by rw [hE'.get i (by omega), hE9.get i (by have := hE8.le; omega)]; exact hE8.get i hi⟩
    · rw [hE'.get nx (by omega), hE9.get nx (by omega)]; exact g18
    · rw [hE'.get q (by omega), hE9.get q (by omega)]; exact gq8
    · rw [hE'.get nx3 (by omega), hE9.get nx3 (by omega)]; exact gr8
  rcases h with ⟨e, i, ha, rfl⟩ | ⟨hna, rfl⟩
  ·
    have hel : e < rest.length := by obtain ⟨_, _, _, x, _, hx, _⟩ := ha; exact N12 hx
    have her : e < rem.length := N12 ha.2.1
    have q1 : e + 1 <= (C0 rest).length := by rw [E1]; omega
    have q2 : e + 1 <= (N10 rem).length := by rw [N18]; omega
    have q3 : e < es.length := by omega
    have n1 : q ≠ nx6 := by omega
    have n2 : nx3 ≠ nx6 := by omega
    have n3 : q ≠ nx3 := by omega
    have n4 : nx ≠ nx6 := by omega
    have n5 : nx ≠ q := by omega
    have n6 : nx ≠ nx3 := by omega
    simp (config := { maxSteps := 2000000 }) (disch := first|omega|assumption) only [W0, Z0, Nat.reduceAdd, R1, D7, gq6, gr6, q1, q2, Z1 _ n1, Z1 _ n2, Z1 _ n3.symm, Z1 _ n1.symm, Z1 _ n2.symm, Y12, M57 hel, C53 her, eB]
    refine next (rest.set e 0) (rem.set e true) _ _ _ _ _ (by rw [<- hmu]; exact (hR.abs ha).2) (by simp [hlen]) (hR.abs ha).1 ((((hA6.hs' (.inr (Nat.le_refl _))).hs' (.inr (Nat.le_refl _))).hs' (.inl (by omega))).hs' (.inl (by omega)) |>.more (by omega)) ((((hEE6.new _ (by omega) (by omega)).hs (by omega)).hs (by omega)).hs (by omega)) (by omega) ?_ ?_ ?_
    · rw [Z1 _ n6, Z1 _ n5, Z1 _ n4, Z1 _ n4]; exact g16
    · rw [Z1 _ n3, E0]
    · rw [E0]
  ·
    have n1 : q ≠ nx6 := by omega
    have n2 : nx3 ≠ nx6 := by omega
    have n3 : q ≠ nx3 := by omega
    have n4 : nx ≠ nx6 := by omega
    have n5 : nx ≠ q := by omega
    have hE7 : D0 H6 nx6 (hs (hs H6 nx6 (some (.cells [.int .i64 0, .int .i64 0, .int .i64 0] 0))) nx6 (some (.cells [.int .i64 0, .int .i64 0, .int .i64 0] 0))) (nx6 + 1) := ((D0.refl H6 nx6).new _ (Nat.le_refl _) (by omega)).hs (Nat.le_refl _)
    generalize hK7 : hs (hs H6 nx6 (some (.cells [.int .i64 0, .int .i64 0, .int .i64 0] 0))) nx6 (some (.cells [.int .i64 0, .int .i64 0, .int .i64 0] 0)) = K7 at hE7
    have k7 : J0 K7 nx6 = some (.cells [.int .i64 0, .int .i64 0, .int .i64 0] 0) := by rw [<- hK7, E0]
    have g17 := (hE7.get nx (by omega)).trans g16
    have gq7 := (hE7.get q (by omega)).trans gq6
    have gr7 := (hE7.get nx3 (by omega)).trans gr6
    simp (config := { maxSteps := 2000000 }) (disch := first|omega|assumption) only [W0, Z0, Nat.reduceAdd, R1, D7, hK7, g16]
    have h55 := R38 (n := n) (by omega) (some ⟨q, 0, none⟩) rest es.length K7 (nx6 + 1) (G23 gq7 (by omega)) (by omega) hRs
    rw [hlen] at h55
    refine R0 h55 ?_
    rintro _ H8 nx8 ⟨hE8, h⟩
    have hx8 := hE8.le
    have k8 := (hE8.get nx6 (by omega)).trans k7
    have g18 := (hE8.get nx (by omega)).trans g17
    have gq8 := (hE8.get q (by omega)).trans gq7
    have gr8 := (hE8.get nx3 (by omega)).trans gr7
    have hA8 : Acc (nx3 + 1) H8 nx6 3 v cnt c := hA6.ext ⟨Nat.le_refl _, (hE7.trans hE8).get⟩
    have hEE8 := (hEE6.trans hE7).trans hE8
    rcases h with ⟨v0, e, hv0, ha, rfl⟩ | ⟨hni, rfl⟩
    · have hel := U62 ha.1
      obtain ⟨x, hx⟩ : ∃ x, rest[e]? = some x := ⟨_, List.getElem?_eq_getElem hel⟩
      have q1 : e + 1 <= (C0 rest).length := by rw [E1]; omega
      have hx32 := hRs.get hx
      have hp32 : 2 ^ v0 < 4294967296 := Y18 (by omega)
      simp (config := { maxSteps := 2000000 }) (disch := first|omega|assumption) only [W0, Z0, Nat.reduceAdd, k8, D7, Z1 _ n1, gq8, Q3 hx, Z1 _ n1.symm, q1, V10 hel, Y12, eB]
      refine next (rest.set e (Z2 x (2 ^ v0))) rem _ _ _ _ _ (by rw [<- hmu]; exact (hR.iso hx ha).2) (by simp [hlen]) (hR.iso hx ha).1 (((hA8.hs' (.inr (Nat.le_refl _))).hs' (.inl (by omega))).more (by omega)) (((hEE8.more (by omega)).hs (by omega)).hs (by omega)) (by omega) ?_ ?_ ?_
      · rw [Z1 _ n5, Z1 _ n4]; exact g18
      · rw [E0]
      · rw [Z1 _ n3.symm, Z1 _ n2]; exact gr8
    · simp (config := { maxSteps := 2000000 }) (disch := first|omega|assumption) only [W0, Z0, Nat.reduceAdd, k8, D7]
      exact ⟨hEE8.hs (by omega), v, some ⟨q, 0, none⟩, rest, by rw [hlen], by omega, G23 (s := 1) (by rw [Z1 _ n1]; exact gq8) (by omega), hR.stuck hna hni⟩
theorem B53{n:Nat}(hn:n<=6)(A:Option Addr)(cap:Nat)(H:Y0)(nx:Nat)(hS:Sl H nx A (C0 []))(hH:Has H nx A):
  Q2 Tryz.prog 52 [gv n A 0 cap] H nx fun r H' nx'=>D0 H nx H' nx'/\∃(K27:Value) (B:Option Addr) (O:List Nat),r = .tuple ⟨[K27,.slice B O.length O.length]⟩/\O.length<=64/\Sl H' nx' B (C0 O)/\((∀ x ∈ O,x=0)<->PE []):=by
 have a3:C4 []:=fun e he=>by cases he
 have hg:N3 n []=0:=V11 (by omega) (by simp) fun i e he=>by simp at he
 refine spec52 ?_;unfold F52;have W:D0 H nx (hs H nx (some (.cells [.int .i64 (n:Int),.slice A 0 cap] 0))) (nx+1):=(D0.refl H nx).new _ (Nat.le_refl _) (by omega);simp only[gv];simp(config:={ maxSteps:=2000000 }) (disch:=first|omega|assumption)only[W0,Z0,Q0.val,U2];generalize hK:hs H nx (some (.cells [.int .i64 (n:Int),.slice A 0 cap] 0))=K at W;have kG:J0 K nx=some (.cells [.int .i64 (n:Int),.slice A 0 cap] 0):=by rw[<- hK,E0]
 refine R0 (N11 n A [] cap K (nx+1) (hS.ext W) a3) ?_;rintro _ H2 nx2 ⟨rfl,a1⟩;have d0:decide ((0:Int)≠0)=false:=by simp
 have Q:=W.trans a1;have a6:=(a1.get nx (by omega)).trans kG;have ae:=a1.le;rw[hg];simp(config:={ maxSteps:=2000000 }) (disch:=first|omega|assumption)only[W0,d0,a6];refine R0 (D38 A [] cap H2 nx2 (hS.ext Q) (hH.ext Q) (by simp)) ?_;rintro _ H3 J ⟨⟨B,rfl,a7,_⟩,a2⟩;have ad:=a2.le;have ac:=(a2.get nx (by omega)).trans a6;simp only[List.length_nil] at *
 have a9:∀ k:List Value->Nat->Nat->Prop,D30 (.int .i64 0) (.int .i64 0) [.bool false] k=k [] 0 0:=fun k=>by
  have:=M27 (n:=0) (by omega) [.bool false] k;exact this
 simp(config:={ maxSteps:=2000000 }) (disch:=first|omega|assumption)only[W0];have U:D0 H3 J (hs H3 J (some (.cells [] 0))) (J+1):=(D0.refl H3 J).new _ (Nat.le_refl _) (by omega);have aa:=(U.get nx (by omega)).trans ac;have a8:=(Q.trans a2).trans U;refine B1 (m:=0) (fun m L H' nx'=>L=[.slice none 0 0]/\hs H3 J (some (.cells [] 0))=H'/\J+1=nx') ?_ ⟨rfl,rfl,rfl⟩;rintro m ih L _ _ ⟨rfl,rfl,rfl⟩ ag;simp(config:={ maxSteps:=2000000 }) (disch:=first|omega|assumption)only[W0];refine R0 (G43 B (some ⟨J,0,none⟩) [] [] 0 0 (hs H3 J (some (.cells [] 0))) (J+1) (a7.ext U) (Sl.nil _ _ _) rfl (by simp) a3) ?_;rintro _ H6 E ⟨V,h⟩;have a5:=(V.get nx (by omega)).trans aa;have an:=V.le;rcases h with ⟨e,i,ha,rfl⟩ | ⟨aj,rfl⟩
 .have:=ha.2.1;simp at this
 have Z:D0 H6 E (hs (hs H6 E (some (.cells [.int .i64 0,.int .i64 0,.int .i64 0] 0))) E (some (.cells [.int .i64 0,.int .i64 0,.int .i64 0] 0))) (E+1):=((D0.refl H6 E).new _ (Nat.le_refl _) (m:=E+1) (by omega)).hs (Nat.le_refl _);have k7:J0 (hs (hs H6 E (some (.cells [.int .i64 0,.int .i64 0,.int .i64 0] 0))) E (some (.cells [.int .i64 0,.int .i64 0,.int .i64 0] 0))) E=some (.cells [.int .i64 0,.int .i64 0,.int .i64 0] 0):=E0 _ _ _;have ab:=(Z.get nx (by omega)).trans a5;simp(config:={ maxSteps:=2000000 }) (disch:=first|omega|assumption)only[W0,Z0,Nat.reduceAdd,R1,D7,a5];generalize hs (hs H6 E (some (.cells [.int .i64 0,.int .i64 0,.int .i64 0] 0))) E (some (.cells [.int .i64 0,.int .i64 0,.int .i64 0] 0))=K7 at *
 refine R0 (R38 (n:=n) (by omega) B [] 0 K7 (E+1) (((a7.ext U).ext V).ext Z) (by simp) a3) ?_;rintro _ H8 ah ⟨a0,h⟩;have al:=a0.le;have k8:=(a0.get E (by omega)).trans k7;rcases h with ⟨v0,e,ak,ha,rfl⟩ | ⟨ai,rfl⟩
 .have:=ha.1;simp[Z7] at this
 have a4:=((a8.trans V).trans Z).trans a0;simp(config:={ maxSteps:=2000000 }) (disch:=first|omega|assumption)only[W0,Z0,Nat.reduceAdd,k8,D7];refine⟨a4.hs (by omega),_,B,[],rfl,by simp,?_,fun _=>V51 (by simp),by simp⟩;exact Sl.nil _ _ _
theorem V59{n:Nat}(hn:n<=6)(A:Option Addr)(es:List Nat)(cap:Nat)(H:Y0)(nx:Nat)(hS:Sl H nx A (C0 es))(hH:Has H nx A)(J:∀ e ∈ es,e<2^n)(hl:es.length<=8):
  Q2 Tryz.prog 52 [gv n A es.length cap] H nx fun r H' nx'=>D0 H nx H' nx'/\∃(K27:Value) (B:Option Addr) (E:List Nat),r = .tuple ⟨[K27,.slice B E.length E.length]⟩/\E.length<=64/\Sl H' nx' B (C0 E)/\((∀ x ∈ E,x=0)<->PE es):=by
 rcases Nat.eq_zero_or_pos es.length with h | h
 .have:=List.length_eq_zero_iff.1 h
  subst this;exact B53 hn A cap H nx hS hH
 .exact K58 hn A es cap H nx hS hH J h hl
theorem R33{n:Nat}(hn:n<=6)(A:Option Addr)(es:List Nat)(cap:Nat)(H:Y0)(nx:Nat)(hS:Sl H nx A (C0 es))(hH:Has H nx A)(O:∀ e ∈ es,e<2^n)(hl:es.length<=8):
  Q2 Tryz.prog 19 [gv n A es.length cap] H nx fun r H' nx'=>(∃ c:Bool,r = .bool c/\(c=true<->PE es))/\D0 H nx H' nx':=by
 have a3:2^n<=64:=Nat.pow_le_pow_right (n:=2) (by omega) hn;have a2:C4 es:=fun e he=>by have:=O e he;omega
 have hg:N3 n es=0:=V11 (by omega) (by omega) fun i e he=>O e (List.mem_of_getElem? he)
 refine spec19 ?_;unfold F19;have Q:D0 H nx (hs H nx (some (.cells [.int .i64 (n:Int),.slice A es.length cap] 0))) (nx+1):=(D0.refl H nx).new _ (Nat.le_refl _) (by omega);simp only[gv];simp(config:={ maxSteps:=2000000 }) (disch:=first|omega|assumption)only[W0,Z0,Q0.val,U2];refine R0 (N11 n A es cap _ (nx+1) (hS.ext Q) a2) ?_;rintro _ H2 nx2 ⟨rfl,V⟩;have d0:decide ((0:Int)≠0)=false:=by simp
 have E:=Q.trans V;have U:=V.get nx (by omega);rw[E0] at U;rw[hg];simp(config:={ maxSteps:=2000000 }) (disch:=first|omega|assumption)only[W0,d0,U,U2];refine R0 (V59 hn A es cap H2 nx2 (hS.ext E) (hH.ext E) O hl) ?_;rintro _ H3 W ⟨a1,K27,B,J,rfl,Z,a0,hz⟩;simp(config:={ maxSteps:=2000000 }) (disch:=first|omega|assumption)only[W0];refine R0 (W69 B J J.length H3 W a0 Z) ?_;rintro _ _ _ ⟨⟨c,rfl,hc⟩,rfl,rfl⟩;simp(config:={ maxSteps:=2000000 }) (disch:=first|omega|assumption)only[W0];refine⟨⟨_,rfl,?_⟩,E.trans a1⟩;rw[<- hz,Bool.not_eq_true',<- Bool.not_eq_true,hc]
 constructor
 .intro h x hx
  exact Classical.byContradiction fun h0=>h ⟨x,hx,h0⟩
 .rintro h ⟨e,he,h0⟩
  exact h0 (h e he)
end Go.Proofs.YtoiioigihocgbaaGreatDoor

namespace Go.Proofs.YtoiioigihocgbaaGreatDoor
open Go.Clo
theorem U45{aL:List Nat}{N inn f:Nat}:∀ i,(J4 aL N inn f i).1≠0->∃ x,x<i/\(J4 aL N inn f i).2 x≠0
 | 0,h=>absurd rfl h
 | i+1,h=>by
  cases hr:shG aL inn (N14 aL f i) (J4 aL N inn f i).1 N 0 (aL.getD i 0 &&& inn) 2 with
  | none=>
   have e:J4 aL N inn f (i+1)=J4 aL N inn f i:=by rw[J4,hr];rfl
   rw[e] at h ⊢;obtain⟨x,h1,h2⟩:=U45 i h;exact⟨x,by omega,h2⟩
  | some r=>
   obtain⟨st,last⟩:=r;have e:J4 aL N inn f (i+1)=(st,fun x=>if x=i then last else if (J4 aL N inn f i).1=0\/st<(J4 aL N inn f i).1 then 0 else(J4 aL N inn f i).2 x):=by rw[J4,hr];rfl
   rw[e];obtain⟨_,_,h4,_⟩:=K15 (b0:=aL.getD i 0 &&& inn) N 0 _ 2 (fun w hw=>hw) (Nat.le_refl _) hr;exact⟨i,by omega,by dsimp only;rw[if_pos rfl];exact h4⟩
theorem N42{aL:List Nat}{N inn f:Nat}:∀ i,(J4 aL N inn f i).1=0->∀ x,x<i->shG aL inn (N14 aL f x) 0 N 0 (aL.getD x 0 &&& inn) 2=none
 | 0,_,x,hx=>by omega
 | i+1,h,x,hx=>by
  cases hr:shG aL inn (N14 aL f i) (J4 aL N inn f i).1 N 0 (aL.getD i 0 &&& inn) 2 with
  | none=>
   have e:J4 aL N inn f (i+1)=J4 aL N inn f i:=by rw[J4,hr];rfl
   rw[e] at h;rw[h] at hr
   by_cases E:x=i
   .subst E;exact hr
   .exact N42 i h x (by omega)
  | some r=>
   obtain⟨st,last⟩:=r;have e:J4 aL N inn f (i+1)=(st,fun x=>if x=i then last else if (J4 aL N inn f i).1=0\/st<(J4 aL N inn f i).1 then 0 else(J4 aL N inn f i).2 x):=by rw[J4,hr];rfl
   rw[e] at h;obtain⟨h2,_⟩:=K15 (b0:=aL.getD i 0 &&& inn) N 0 _ 2 (fun w hw=>hw) (Nat.le_refl _) hr;dsimp only at h h2;omega
def M12(N inn E:Nat):Nat:=(List.range N).countP fun w=>inn.testBit w && !E.testBit w
theorem Z59{N inn E b w:Nat}(hw:w<N)(hb:b.testBit w=true)(hi:inn.testBit w=true)(hs:E.testBit w=false):M12 N inn (E ||| b)<M12 N inn E:=by
 unfold M12;have key:∀ l:List Nat,l.countP (fun w=>inn.testBit w && !(E ||| b).testBit w)<=l.countP fun w=>inn.testBit w && !E.testBit w:=fun l=>by
  refine List.countP_mono_left fun x _ hx => ?_
  rw[Nat.testBit_or] at hx
  cases h1:E.testBit x with
  | true=>rw[h1] at hx;simp at hx
  | false=>rw[h1] at hx;simp at hx;simp[hx.1]
 obtain⟨s,t,e⟩:=List.append_of_mem (List.mem_range.2 hw);rw[e,List.countP_append,List.countP_append,List.countP_cons,List.countP_cons];have h1:=key s;have h2:=key t;have e1:(inn.testBit w && !(E ||| b).testBit w)=false:=by rw[Nat.testBit_or,hb];simp
 have e2:(inn.testBit w && !E.testBit w)=true:=by rw[hi,hs];rfl
 simp only[e1,e2,if_true,Bool.false_eq_true,if_false];omega
theorem U35{aL:List Nat}{N inn O:Nat}(hi:inn<2^N)(hN:N<=32)(W:∀ u,aL.getD u 0<2^N):∀(k E b st:Nat),shG aL inn O 0 k E b st=none->(∀ w,b.testBit w=true->inn.testBit w=true/\E.testBit w=false) ->
  (∀ u,E.testBit u=true->∀ w,(aL.getD u 0).testBit w=true->(inn.testBit w=true->E.testBit w=true\/b.testBit w=true)/\O.testBit w=false)->M12 N inn E+1<=k ->
  ∃ S:Nat->Prop,(∀ w,E.testBit w=true\/b.testBit w=true->S w)/\∀ u,S u->∀ w,(aL.getD u 0).testBit w=true->(inn.testBit w=true->S w)/\O.testBit w=false
 | 0,E,b,st,_,_,_,hk=>by omega
 | k+1,E,b,st,h,hb,hc,hk=>by
  unfold shG at h
  by_cases h0:b=0
  .refine⟨fun w=>E.testBit w=true,fun w hw => ?_,fun u hu w hw => ?_⟩
   .rcases hw with hw | hw
    .exact hw
    .rw[h0] at hw;simp at hw
   .obtain⟨h1,h2⟩:=hc u hu w hw
    refine⟨fun hi => ?_,h2⟩;rcases h1 hi with h3 | h3
    .exact h3
    .rw[h0] at h3;simp at h3
  .rw[if_neg (by simp[h0])] at h
   split at h
   .cases h
   .rename_i J
    have J:Q4 aL b 32 &&& O=0:=Classical.byContradiction J;obtain⟨w0,Q⟩:=B14 h0;obtain⟨i0,s0⟩:=hb w0 Q;have a0:=Z59 (R7 hi i0) Q i0 s0;refine(fun g => ?_) (U35 hi hN W k (E ||| b) _ _ h (fun w hw => ?_) (fun u hu w hw => ?_) (by omega))
    .obtain⟨S,h1,h2⟩:=g
     refine⟨S,fun w hw=>h1 w (.inl ?_),h2⟩;rcases hw with hw | hw
     .rw[Nat.testBit_or,hw];rfl
     .rw[Nat.testBit_or,hw,Bool.or_true]
    .rw[N1,Bool.and_eq_true,Nat.testBit_and,Bool.and_eq_true,Bool.not_eq_true'] at hw
     exact⟨hw.1.2,hw.2⟩
    .rw[Nat.testBit_or,Bool.or_eq_true] at hu
     rcases hu with hu | hu
     .obtain⟨h3,h4⟩:=hc u hu w hw
      refine⟨fun hi => .inl ?_,h4⟩;rw[Nat.testBit_or,Bool.or_eq_true];exact h3 hi
     .have U:u<32:=Nat.lt_of_lt_of_le (R7 hi (hb u hu).1) hN
      have hn:(Q4 aL b 32).testBit w=true:=Y7.2 ⟨u,U,hu,hw⟩
      constructor
      .intro Z
       by_cases V:(E ||| b).testBit w=true
       .exact .inl V
       .refine .inr ?_
        rw[N1,Nat.testBit_and,hn,Z,Bool.eq_false_iff.2 V];rfl
      .have:=congrArg (·.testBit w) J
       simp only[Nat.testBit_and,Nat.zero_testBit,hn,Bool.true_and] at this;exact this
section
variable {es:List Nat} {N f:Nat} (hN:N<=6) (hf:f<=N)
include hN hf
theorem M13(u w:Nat):((B2 es N).getD u 0).testBit w=true<->u<N/\w<N/\V3 es u w:=by
 by_cases hu:u<N
 .rw[List.getD_eq_getElem?_getD,V39 es (by omega) hu,Option.getD_some,C2,Bool.and_eq_true,decide_eq_true_eq,B15]
  exact⟨fun⟨h1,h2⟩=>⟨hu,h1,h2⟩,fun⟨_,h1,h2⟩=>⟨h1,h2⟩⟩
 .have:(B2 es N).getD u 0=0:=by
   rw[List.getD_eq_getElem?_getD]
   by_cases E:u<32
   .simp[B2,E,hu]
   .rw[List.getElem?_eq_none (by rw[N9];omega)];rfl
  rw[this];simp[hu]
theorem C64(u:Nat):(B2 es N).getD u 0<2^N:=Nat.lt_pow_two_of_testBit _ fun w hw=>Bool.eq_false_iff.2 fun h=>by
 have:=((M13 hN hf u w).1 h).2.1;omega
theorem V24(w:Nat):(K10 N f).testBit w=true<->f<=w/\w<N:=by
 unfold K10;rw[N1,Nat.testBit_two_pow_sub_one,Nat.testBit_two_pow_sub_one];simp;omega
theorem W67:K10 N f<2^N:=Z6 (by have:=Nat.two_pow_pos N;omega)
theorem X45{x:Nat}(w:Nat):(N14 (B2 es N) f x).testBit w=true<->w<f/\w≠x/\¬ (x<N/\V3 es x w):=by
 unfold N14;rw[N1,N1,Nat.testBit_two_pow_sub_one,Nat.testBit_two_pow,Bool.and_eq_true,Bool.and_eq_true,decide_eq_true_eq,Bool.not_eq_true',Bool.not_eq_true',<- Bool.not_eq_true,M13 hN hf,decide_eq_false_iff_not]
 constructor
 .rintro⟨⟨h1,h2⟩,h3⟩
  exact⟨h1,fun e=>h3 e.symm,fun⟨h4,h5⟩=>h2 ⟨h4,by omega,h5⟩⟩
 .rintro⟨h1,h2,h3⟩
  exact⟨⟨h1,fun⟨h4,_,h5⟩=>h3 ⟨h4,h5⟩⟩,fun e=>h2 e.symm⟩
theorem U50{x:Nat}(hx:x<N):∀(k u:Nat),(lev (B2 es N) (K10 N f) ((B2 es N).getD x 0 &&& K10 N f) k).testBit u=true->(f<=u/\u<N)/\V9 (V3 es) (fun v=>f<=v/\v<N) x u
 | 0,u,h=>by
  rw[lev,Nat.testBit_and,Bool.and_eq_true,M13 hN hf,V24 hN hf] at h;exact⟨h.2,.one h.1.2.2⟩
 | k+1,u,h=>by
  rw[lev,Nat.testBit_and,Bool.and_eq_true,V24 hN hf] at h;obtain⟨v,_,hv,E⟩:=Y7.1 h.1;obtain⟨h1,h2⟩:=U50 hx k v hv;exact⟨h.2,h2.trans h1 (.one ((M13 hN hf v u).1 E).2.2)⟩
theorem Y60:(K24 (B2 es N) N f).isSome=true<->J13 (V3 es) N f []:=by
 rw[V19]
 constructor
 .intro h
  unfold K24 at h
  split at h
  .cases h
  .rename_i x hx
   have hxf:x<f:=by simpa using List.mem_of_find?_eq_some hx
   have hne:=List.find?_some hx
   have hne:(J4 (B2 es N) N (K10 N f) f f).2 x≠0:=by simpa using hne
   obtain⟨_,lim,hs⟩:=E47 f x hne
   obtain⟨_,_,_,h4,u,z,h5,h6,h7⟩:=K15 (b0:=(B2 es N).getD x 0 &&& K10 N f) N 0 _ 2 (fun w hw=>hw) (Nat.le_refl _) hs
   obtain⟨h8,h9⟩:=U50 hN hf (show x<N by omega) _ u h5
   obtain⟨_,hzN,huz⟩:=(M13 hN hf u z).1 h7
   obtain⟨hzf,hzx,hna⟩:=(X45 hN hf z).1 (h4 z h6)
   have hna:¬ V3 es x z:=fun g=>hna ⟨by omega,g⟩
   obtain⟨l,hl,hch⟩:=(h9.trans h8 (.one huz)).chordless (fun e=>hzx e.symm)
   have hlen:=hl.len
   have hlen3:3<=l.length:=by
    rcases Nat.lt_or_ge 2 l.length with h | h
    .exact h
    .have h2:l.length=2:=by omega
     have e1:=hl.first
     have e2:=hl.last 1 (by omega)
     exact absurd (hl.step 0 x z e1 e2) hna
   refine⟨l,hlen3,hch,fun i y hy => ?_,fun i y hy => ?_⟩
   .have hil:=(List.getElem?_eq_some_iff.1 hy).1
    rcases Nat.eq_zero_or_pos i with rfl | hi
    .rw[hl.first] at hy;cases hy;omega
    .by_cases hi2:i+1=l.length
     .rw[hl.last i hi2] at hy;cases hy;omega
     .exact (hl.inn i y hy hi (by omega)).2
   .have hil:=(List.getElem?_eq_some_iff.1 hy).1
    constructor
    .intro hyf
     refine Classical.byContradiction fun hn => ?_
     have:=(hl.inn i y hy (by omega) (by omega)).1
     omega
    .rintro (rfl | hi2)
     .rw[hl.first] at hy;cases hy;exact hxf
     .rw[hl.last i hi2] at hy;cases hy;exact hzf
 .rintro⟨l,hl⟩
  have hlen:=hl.len
  obtain⟨x,hx⟩:∃ x,l[0]? = some x:=⟨_,List.getElem?_eq_getElem (by omega)⟩
  obtain⟨z,hz⟩:∃ z,l[l.length-1]? = some z:=⟨_,List.getElem?_eq_getElem (by omega)⟩
  have hxf:=(hl.ends 0 x hx).2 (.inl rfl)
  have hzf:=(hl.ends _ z hz).2 (.inr (by omega))
  obtain⟨hxz,hna⟩:=hl.ch 0 _ x z (by omega) hx hz
  have hna:¬ V3 es x z:=fun g=>by have:=hna.1 g;omega
  have hinn:∀ (i y:Nat),l[i]? = some y->0<i->i+1<l.length->(K10 N f).testBit y=true:=fun i y hy h0 h1=>by
   rw[V24 hN hf]
   have:=hl.lt i y hy
   refine⟨?_,this⟩
   have:=(hl.ends i y hy)
   omega
  have hadj:∀ (i y w:Nat),l[i]? = some y->l[i+1]? = some w->((B2 es N).getD y 0).testBit w=true:=fun i y w hy hw=>by
   rw[M13 hN hf]
   exact⟨hl.lt i y hy,hl.lt _ w hw,(hl.ch i (i+1) y w (by omega) hy hw).2.2 rfl⟩
  have h1:(J4 (B2 es N) N (K10 N f) f f).1≠0:=by
   intro h0
   have hnone:=N42 f h0 x hxf
   have hun:M12 N (K10 N f) 0+1<=N:=by
    have h1:M12 N (K10 N f) 0<=((List.range N).filter fun w=>decide (w≠x)).length:=by
     unfold M12
     rw[<- List.countP_eq_length_filter]
     refine List.countP_mono_left fun w _ hw => ?_
     simp at hw
     have:=((V24 hN hf w).1 hw).1
     simp;omega
    have h2:((List.range N).filter fun w=>decide (w≠x)).length<(List.range N).length:=by
     rw[<- List.countP_eq_length_filter]
     rcases Nat.lt_or_ge ((List.range N).countP fun w=>decide (w≠x)) (List.range N).length with h | h
     .exact h
     .have:=List.countP_eq_length.1 (Nat.le_antisymm List.countP_le_length h) x (by simp;omega)
      simp at this
    rw[List.length_range] at h2
    omega
   obtain⟨S,s1,s2⟩:=U35 (W67 hN hf) (by omega) (C64 hN hf) N 0 _ 2 hnone (fun w hw=>by
    rw[Nat.testBit_and,Bool.and_eq_true] at hw
    exact⟨hw.2,by simp⟩) (fun u hu=>by simp at hu) hun
   have hS:∀ (i y:Nat),l[i]? = some y->0<i->i+1<l.length->S y:=by
    intro i
    induction i with
    | zero=>intro y _ h0;omega
    | succ i ih=>
     intro y hy _ hi
     obtain⟨u,hu⟩:∃ u,l[i]? = some u:=⟨_,List.getElem?_eq_getElem (by omega)⟩
     have hin:=hinn (i+1) y hy (by omega) hi
     rcases Nat.eq_zero_or_pos i with rfl | h0
     .rw[hx] at hu;cases hu
      refine s1 y (.inr ?_)
      rw[Nat.testBit_and,hadj 0 x y hx hy,hin];rfl
     .exact (s2 u (ih u hu h0 (by omega)) y (hadj i u y hu hy)).1 hin
   obtain⟨u,hu⟩:∃ u,l[l.length-2]? = some u:=⟨_,List.getElem?_eq_getElem (by omega)⟩
   have hSu:=hS _ u hu (by omega) (by omega)
   have hz':l[l.length-2+1]? = some z:=by rw[show l.length-2+1=l.length-1 by omega];exact hz
   have:=(s2 u hSu z (hadj _ u z hu hz')).2
   rw[Bool.eq_false_iff] at this
   refine this ((X45 hN hf z).2 ⟨hzf,fun e=>hxz e.symm,fun g=>hna g.2⟩)
  obtain⟨y,hy1,hy2⟩:=U45 f h1
  unfold K24
  split
  .rename_i hno
   rw[List.find?_eq_none] at hno
   exact absurd (by simpa using hy2) (hno y (by simpa using hy1))
  .rfl
end
end Go.Proofs.YtoiioigihocgbaaGreatDoor
