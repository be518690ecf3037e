/-
  Plain elimination;the program's Bags (texts of chapter 30,by name).
-/
import Derived.Test.YtpiobdofbhkmjaaDoorL34
import Derived.Test.YtpiobdofbhkmjaaDoorL39
set_option linter.unusedSimpArgs false
set_option linter.unusedVariables false
set_option linter.unusedSectionVars false
namespace Go.Proofs.YtpiobdofbhkmjaaDoor
open Go.Clo
variable {H:Y0} {a i n o top u v x:Nat} {l rest:List Nat}
theorem Y16 {p q:Nat->Bool} (h:∀ w,w<n->p w=q w):G4 p n=G4 q n:=by
 apply Nat.eq_of_testBit_eq
 intro i
 rw[X9,X9]
 by_cases hi:i<n
 .rw[h i hi]
 .simp[hi]
theorem W53 {p:Nat->Bool} {b:Nat} (h:p b=false):∀ {n:Nat},b<n->G4 p n+2^b=G4 (fun w=>p w || decide (w=b)) n
 | 0,hb=>by omega
 | n+1,hb=>by
  by_cases hbn:b=n
  .subst hbn
   have e:G4 p b=G4 (fun w=>p w || decide (w=b)) b:=Y16 fun w hw=>by
    have:decide (w=b)=false:=by simp;omega
    simp[this]
   simp[G4,h,e]
  .have ih:=W53 (p:=p) (b:=b) h (n:=n) (by omega)
   have hd:decide (n=b)=false:=by simp;omega
   simp only[G4,hd,Bool.or_false]
   split<;>omega
abbrev Nb:=Nat->Nat->Bool
def V6 (N:Nb) (v:Nat) (rest:List Nat) (w:Nat):Bool:=N v w&&decide (w ∈ rest)
def Y17 (N:Nb) (v:Nat) (rest:List Nat):Nb:=fun a b=>N a b || (decide (a≠b)&&(V6 N v rest a&&V6 N v rest b))
def U72 (N:Nb) (v:Nat) (rest:List Nat):Int:=match rest.find? (N v) with
 | some w=>(w:Int)
 | none => -1
def N38 (n:Nat) (N:Nb) (v:Nat) (rest:List Nat):Bag:=⟨v,G4 (V6 N v rest) n,U72 N v rest⟩
def X16 (n:Nat):List Bag->Nb->List Nat->List Bag
 | out,_,[]=>out
 | out,N,v :: rest=>X16 n (out.set v (N38 n N v rest)) (Y17 N v rest) rest
theorem G97 {N:Nb} {x:Nat} (hx:x<n) (hr:x ∉ rest):G4 (V6 N v (x :: rest)) n=if N v x then G4 (V6 N v rest) n+2^x else G4 (V6 N v rest) n:=by
 split
 .rename_i h
  rw[W53 (by simp[V6,hr]) hx]
  refine Y16 fun w _ => ?_
  simp only[V6,List.mem_cons]
  by_cases hw:w=x
  .subst hw;simp[h]
  .simp[hw]
 .rename_i h
  refine Y16 fun w _ => ?_
  simp only[V6,List.mem_cons]
  by_cases hw:w=x
  .subst hw;simp[h]
  .simp[hw]
theorem N65 (n:Nat):∀ (order:List Nat) (out:List Bag) (N:Nb),(X16 n out N order).length=out.length
 | [],_,_=>rfl
 | v :: rest,out,N=>by rw[X16,N65 n rest];simp
theorem K66 {n:Nat} (hn:n<=32) (p:Nat->Bool):G4 p n<4294967296:=
 Nat.lt_of_lt_of_le (V22 p n) (Nat.le_trans (Nat.pow_le_pow_right (by omega) hn) (by decide))
theorem V12 {n:Nat} (hn:n<=1000000) (z:List Value) (k:List Value->Nat->Nat->Prop):K21 (.int .i64 (n:Int)) (.int .i64 (n:Int)) z k=k (V5 z n) n n:=by
 show cond (Nat.ble n n&&Nat.ble n 1000000) (R7 (V5 z n) fun cs=>k cs n n) False=_
 rw[B6 (Nat.le_refl n),B6 hn,E3];rfl
theorem N12:∀ n:Nat,V5 [.int .u32 0] n=N1 (List.replicate n 0)
 | 0=>rfl
 | n+1=>by rw[V5,N12 n];rfl
def Y11:Bag:=⟨0,0,0⟩
theorem Y51:∀ n:Nat,V5 [.int .i64 0,.int .u32 0,.int .i64 0] n=M8 (List.replicate n Y11)
 | 0=>rfl
 | n+1=>by rw[V5,Y51 n];rfl
theorem Q57 {b:Bag}:∀ {bs:List Bag} {v:Nat},v<bs.length->G6 (M8 bs) (v*3) (B19 b)=M8 (bs.set v b)
 | [],v,h=>by simp at h
 | c :: bs,0,h=>by simp[M8,G6,B19]
 | c :: bs,v+1,h=>by
  have ih:=Q57 (b:=b) (bs:=bs) (v:=v) (by simpa using h)
  have e1:M8 (c :: bs)=B19 c++M8 bs:=rfl
  have e2:M8 ((c :: bs).set (v+1) b)=B19 c++M8 (bs.set v b):=rfl
  have e3:(v+1)*3=3+v*3:=by omega
  rw[e1,e2,<- ih,e3]
  unfold G6
  have hc:(B19 c).length=3:=rfl
  rw[List.take_append,List.drop_append,hc,List.take_of_length_le (by rw[hc];omega),List.drop_eq_nil_of_le (by rw[hc];omega)]
  have a1:3+v*3-3=v*3:=by omega
  have a2:3+v*3+(B19 b).length-3=v*3+(B19 b).length:=by omega
  rw[a1,a2]
  simp
theorem J65 {α:Type} {l:List α} {x:α} (h:l[i]? = some x):l.drop i=x :: l.drop (i+1):=by
 have hi:=Q12 h
 rw[List.drop_eq_getElem_cons hi]
 congr 1
 exact (List.getElem?_eq_some_iff.mp h).2
theorem X65 (hnd:l.Nodup) (h:l[i]? = some x):x ∉ l.drop (i+1):=by
 have h1:(l.drop i).Nodup:=hnd.sublist (List.drop_sublist _ _)
 rw[J65 h] at h1
 exact (List.nodup_cons.mp h1).1
structure X49 (N:Nb):Prop where
 symm:∀ a b,N a b=N b a
 irr:∀ a,N a a=false
theorem V95 (es:List Nat):X49 (adj es):=⟨Z50 es,G86 es⟩
theorem V93 {N:Nb} (h:X49 N) (v:Nat) (rest:List Nat):X49 (Y17 N v rest):=by
 refine⟨fun a b => ?_,fun a => ?_⟩
 .unfold Y17
  rw[h.symm a b,Bool.and_comm (V6 N v rest a)]
  have:decide (a≠b)=decide (b≠a):=by congr 1;apply propext;exact ne_comm
  rw[this]
 .simp[Y17,h.irr]
theorem N85 {N:Nb} (h:X49 N) (v n:Nat) (rest:List Nat):G4 (V6 N v (v :: rest)) n=G4 (V6 N v rest) n:=
 Y16 fun w _=>by
  unfold V6
  by_cases hw:w=v
  .subst hw;simp[h.irr]
  .simp[hw]
theorem Q90 {N:Nb} (h:X49 N) {v:Nat} (hu:u ∈ rest) (hk:V6 N v rest u=false):G4 (V6 N u (v :: rest)) n=G4 (V6 (Y17 N v rest) u rest) n:=
 Y16 fun w _=>by
  have hvu:N v u=false:=by simpa [V6,hu] using hk
  have huv:N u v=false:=by rw[h.symm];exact hvu
  simp only[V6,Y17,hvu,List.mem_cons,Bool.false_and,Bool.and_false,Bool.or_false]
  by_cases hw:w=v
  .subst hw;simp[huv]
  .simp[hw]
theorem M92 {N:Nb} (h:X49 N) {v:Nat} (hvr:v ∉ rest) (hk:V6 N v rest u=true):
  M2 (G4 (V6 N u (v :: rest)) n ||| G4 (V6 N v rest) n) (2^u ||| 2^v)=G4 (V6 (Y17 N v rest) u rest) n:=by
 apply Nat.eq_of_testBit_eq
 intro w
 rw[N3,Nat.testBit_or,Nat.testBit_or,X9,X9,X9,Nat.testBit_two_pow,Nat.testBit_two_pow]
 have hk1:=hk
 simp only[V6,Bool.and_eq_true,decide_eq_true_eq] at hk1
 by_cases hwn:w<n
 .simp only[hwn,decide_true,Bool.true_and]
  by_cases hwu:w=u
  .subst hwu
   simp[V6,Y17,h.irr]
  .have e1:decide (u=w)=false:=by simp;omega
   have e3:decide (u≠w)=true:=by simp;omega
   by_cases hwv:w=v
   .subst hwv
    simp[V6,hvr]
   .have e2:decide (v=w)=false:=by simp;omega
    simp only[e1,e2,Bool.or_false,Bool.not_false,Bool.and_true]
    simp only[V6,Y17,e3,List.mem_cons,hwv,false_or,Bool.true_and]
    have:(N v u&&decide (u ∈ rest))=true:=hk
    rw[this,Bool.true_and]
    cases decide (w ∈ rest)<;>simp
 .simp[hwn]
def X76 (N:Nb) (v:Nat) (order rest:List Nat) (u:Nat) (par:Int):Prop:=
 (par = -1/\∀ w,w<u->V6 N v rest w=false)\/∃ p jp:Nat,par=p/\order[jp]? = some p/\V6 N v rest p=true/\∀ w jw:Nat,w<u->order[jw]? = some w->V6 N v rest w=true->jp<=jw
theorem Q31 (h:l.Nodup) {j:Nat} (hi:l[i]? = some x) (hj:l[j]? = some x):i=j:=by
 rcases Nat.lt_trichotomy i j with hl | he | hg
 .have:=(List.pairwise_iff_getElem.mp h) i j (Q12 hi) (Q12 hj) hl
  exact absurd (by rw[(List.getElem?_eq_some_iff.mp hi).2,(List.getElem?_eq_some_iff.mp hj).2]) this
 .exact he
 .have:=(List.pairwise_iff_getElem.mp h) j i (Q12 hj) (Q12 hi) hg
  exact absurd (by rw[(List.getElem?_eq_some_iff.mp hi).2,(List.getElem?_eq_some_iff.mp hj).2]) this
theorem W91 {N:Nb} {order:List Nat} {par:Int} (hnd:order.Nodup) (hlt:∀ w ∈ order,w<n) (h:X76 N v order (order.drop (i+1)) n par):par=U72 N v (order.drop (i+1)):=by
 unfold U72
 cases hf:(order.drop (i+1)).find? (N v) with
 | none=>
  rw[List.find?_eq_none] at hf
  rcases h with ⟨h,_⟩ | ⟨p,jp,_,_,hk,_⟩
  .exact h
  .simp only[V6,Bool.and_eq_true,decide_eq_true_eq] at hk
   exact absurd hk.1 (hf p hk.2)
 | some w0=>
  obtain⟨hw0,t,ht,hte,hbefore⟩:=List.find?_eq_some_iff_getElem.mp hf
  have h0:order[i+1+t]? = some w0:=by
   rw[<- hte,<- List.getElem?_drop];exact List.getElem?_eq_getElem ht
  have hmem:w0 ∈ order.drop (i+1):=hte ▸ List.getElem_mem ht
  have hk0:V6 N v (order.drop (i+1)) w0=true:=by simp[V6,hw0,hmem]
  have hw0n:=hlt w0 (List.mem_of_mem_drop hmem)
  rcases h with ⟨_,h⟩ | ⟨p,jp,rfl,hjp,hk,hmin⟩
  .rw[h w0 hw0n] at hk0;cases hk0
  .have hle:=hmin w0 _ hw0n h0 hk0
   simp only[V6,Bool.and_eq_true,decide_eq_true_eq] at hk
   obtain⟨s,hs,hse⟩:=List.getElem_of_mem hk.2
   have hps:order[i+1+s]? = some p:=by
    rw[<- hse,<- List.getElem?_drop];exact List.getElem?_eq_getElem hs
   have hj:=Q31 hnd hjp hps
   by_cases hst:s<t
   .have:=hbefore s hst
    rw[hse] at this
    simp[hk.1] at this
   .have:s=t:=by omega
    subst this
    rw[<- hse,hte]
theorem Y92:[Value.int .i64 0,.int .i64 0,.int .i64 0,.int .i64 0,.int .i64 0,.int .i64 0,.int .i64 0,.int .i64 0,.int .i64 0,.int .i64 0,.int .i64 0,.int .i64 0,.int .i64 0,.int .i64 0,.int .i64 0,.int .i64 0,.int .i64 0,.int .i64 0,.int .i64 0,.int .i64 0,.int .i64 0,.int .i64 0,.int .i64 0,.int .i64 0,.int .i64 0,.int .i64 0,.int .i64 0,.int .i64 0,.int .i64 0,.int .i64 0,.int .i64 0,.int .i64 0]=R3 (List.replicate 32 0):=rfl
theorem W92 (b:Nat) (k:VP):C87 (.pointer (some ⟨b,0,none⟩)) 32 1 none none none k=k (.slice (some ⟨b,0,none⟩) 32 32):=by
 have e:G11 (some ⟨b,0,none⟩) 32 32 1 none none none false=some (.slice (some ⟨b,0,none⟩) 32 32):=rfl
 unfold C87
 simp only[e,J8]
theorem D77 {l:List Int} (h:l.length<=32):G6 (R3 (List.replicate 32 0)) 0 (R3 l)=R3 (l++List.replicate (32-l.length) 0):=by
 simp only[G6,R3,List.map_replicate,List.take_zero,List.nil_append,List.drop_replicate,List.map_append,List.length_map,Nat.zero_add]
theorem G52 {f:Nat}:∀ {m i:Nat},i<m->(E8 f m)[i]? = some ((f:Int)-1-i)
 | 0,i,h=>by omega
 | m+1,i,h=>by
  unfold E8
  by_cases hi:i<m
  .rw[List.getElem?_append_left (by rw[D17];exact hi)];exact G52 hi
  .have:i=m:=by omega
   subst this
   rw[List.getElem?_append_right (by rw[D17];omega),D17];simp
theorem D28 {f:Nat}:∀ {m:Nat} {x:Int},x ∈ E8 f m->∃ i:Nat,i<m/\x=(f:Int)-1-i
 | 0,x,h=>by simp[E8] at h
 | m+1,x,h=>by
  unfold E8 at h
  simp only[List.mem_append,List.mem_singleton] at h
  rcases h with h | h
  .obtain⟨i,hi,e⟩:=D28 h;exact⟨i,by omega,e⟩
  .exact⟨m,by omega,h⟩
theorem K42 {f:Nat}:∀ m:Nat,(E8 f m).Nodup
 | 0=>by simp[E8]
 | m+1=>G28 (K42 m) fun h=>by obtain⟨i,hi,e⟩:=D28 h;omega
theorem Q44:∀ {l:List Int},(∀ x ∈ l,0<=x)->l.Nodup->(l.map Int.toNat).Nodup
 | [],_,_=>by simp
 | x :: l,h0,h=>by
  rw[List.nodup_cons] at h
  rw[List.map_cons,List.nodup_cons]
  refine⟨fun hm => ?_,Q44 (fun y hy=>h0 y (List.mem_cons_of_mem _ hy)) h.2⟩
  obtain⟨y,hy,e⟩:=List.mem_map.mp hm
  have h1:=h0 x List.mem_cons_self
  have h2:=h0 y (List.mem_cons_of_mem _ hy)
  have:y=x:=by omega
  subst this
  exact h.1 hy
theorem C27 {l:List Int} {f:Nat} (h:M15 l f n):∃ order:List Nat,(l++E8 f f=order.map fun (w:Nat)=>(w:Int))/\order.Nodup/\(∀ w ∈ order,w<n)/\order.length=n:=by
 obtain⟨h1,h2,h3⟩:=h
 have hall:∀ x ∈ l++E8 f f,0<=x/\x<n:=by
  intro x hx
  rcases List.mem_append.mp hx with hx | hx
  .have:=h2 x hx;omega
  .obtain⟨i,hi,e⟩:=D28 hx;omega
 refine⟨(l++E8 f f).map Int.toNat,?_,Q44 (fun x hx=>(hall x hx).1) ?_,?_,?_⟩
 .rw[List.map_map]
  conv=>lhs;rw[<- List.map_id (l++E8 f f)]
  exact List.map_congr_left fun x hx=>by have:=(hall x hx).1;simp;omega
 .rw[List.nodup_append]
  exact⟨h3,K42 f,fun a ha b hb e=>by
   subst e
   have:=h2 a ha
   obtain⟨i,hi,e⟩:=D28 hb;omega⟩
 .intro w hw
  obtain⟨x,hx,rfl⟩:=List.mem_map.mp hw
  have:=hall x hx;omega
 .simp[D17];omega
theorem G32 {order:List Nat} {w:Nat} (hnd:order.Nodup) (hlt:∀ w ∈ order,w<n) (hlen:order.length=n) (hw:w<n):w ∈ order:=by
 refine Classical.byContradiction fun h => ?_
 have h1:(w :: order).Nodup:=List.nodup_cons.mpr ⟨h,hnd⟩
 have h2:=List.Nodup.length_le_of_subset (l₂:=List.range n) h1 fun x hx=>by
  rw[List.mem_range]
  rcases List.mem_cons.mp hx with rfl | hx
  .exact hw
  .exact hlt x hx
 simp at h2;omega
def refuse (c:Int):Value := .tuple ⟨[.slice none 0 0,.int .i64 c]⟩
structure M13 (K:Y0) (top a o:Nat) (near:List Nat) (out:List Bag) (H:Y0):Prop where
 near:X0 H a=some (.cells (N1 near) 0)
 out:X0 H o=some (.cells (M8 out) 0)
 same:∀ q,q<top->q≠a->q≠o->X0 H q=X0 K q
theorem M13.setNear {K:Y0} {top a o:Nat} {near:List Nat} {out:List Bag} (h:M13 K top a o near out H) (hao:a≠o) (l:List Nat):M13 K top a o l out (hs H a (some (.cells (N1 l) 0))):=
 ⟨Q0 _ _ _,by rw[M0 _ (by omega)];exact h.out,fun q h0 h1 h2=>by rw[M0 _ h1];exact h.same q h0 h1 h2⟩
theorem M13.setOut {K:Y0} {near:List Nat} {out:List Bag} (h:M13 K top a o near out H) (hao:a≠o) (l:List Bag):M13 K top a o near l (hs H o (some (.cells (M8 l) 0))):=
 ⟨by rw[M0 _ hao];exact h.near,Q0 _ _ _,fun q h0 h1 h2=>by rw[M0 _ h2];exact h.same q h0 h1 h2⟩
theorem M13.setNew {K:Y0} {near:List Nat} {out:List Bag} (h:M13 K top a o near out H) {q:Nat} (hq:top<=q) (ha:a<top) (ho:o<top) (b:Option V4):M13 K top a o near out (hs H q b):=
 ⟨by rw[M0 _ (by omega)];exact h.near,by rw[M0 _ (by omega)];exact h.out,fun r h0 h1 h2=>by rw[M0 _ (by omega)];exact h.same r h0 h1 h2⟩
set_option maxHeartbeats 8000000 in
theorem M80 (N0 free:Int) (A:Option Addr) (es:List Nat) (cap:Nat) (P:Option Addr) (l:List Int) (capP:Nat) (H:Y0) (nx:Nat) (hS:Sl H nx A (N1 es)) (hsm:Z4 es)
  (hP:Sl H nx P (R3 l)) (hP0:Has H nx P) (hl:l.length<=40):
  J2 Tryd.prog 17 [gv N0 A es.length cap,.int .i64 free,.slice P l.length capP] H nx fun r H' nx'=>D0 H nx H' nx' /\
   ((V9 N0 free es≠0/\r=refuse (V9 N0 free es))\/(∃ n f:Nat,N0=n/\free=f/\f<=n/\n<=32/\V9 N0 free es=0 /\
    ((¬ M15 l f n/\r=refuse 1)\/(M15 l f n/\∃ order:List Nat,(l++E8 f f=order.map fun (w:Nat)=>(w:Int))/\order.Nodup/\(∀ w ∈ order,w<n)/\order.length=n /\
     ∃ R,r = .tuple ⟨[.slice R n n,.int .i64 0]⟩/\Sl H' nx' R (M8 (X16 n (List.replicate n Y11) (adj es) order))/\∃ o,R=some ⟨o,0,none⟩/\nx<=o/\o<nx'/\X0 H' o=some (.cells (M8 (X16 n (List.replicate n Y11) (adj es) order)) 0))))):=by
 refine spec17 ?_
 unfold F17
 have hE1:D0 H nx (hs H nx (some (.cells [.int .i64 N0,.slice A es.length cap] 0))) (nx+1):=(D0.refl H nx).new _ (Nat.le_refl _) (by omega)
 simp (config:={ maxSteps:=2000000 }) (disch:=first | omega | assumption | exact Y2 (by assumption) | exact Q1 (by assumption) | exact J1 (by omega) | fail) only[W0,Z0,B0.val,J3,Y92,Y44]
 refine K0 (M45 N0 free A es cap _ _ (hS.ext hE1) hsm) ?_
 rintro _ H2 nx2 ⟨rfl,hE2⟩
 have hEE2:=hE1.trans hE2
 have hg2:=hE2.get nx (by omega)
 rw[Q0] at hg2
 have hnx2:=hE2.le
 by_cases hfc:V9 N0 free es=0
 case neg=>
  have d1:decide (V9 N0 free es≠0)=true:=by simp[hfc]
  simp (disch:=first | omega | assumption | exact Y2 (by assumption) | exact Q1 (by assumption) | exact J1 (by omega) | fail) only[W0,d1]
  exact⟨hEE2,.inl ⟨hfc,rfl⟩⟩
 have d1:decide (V9 N0 free es≠0)=false:=by simp[hfc]
 obtain⟨n,f,rfl,rfl,hn,hfn,hle,hes⟩:=D42 hfc
 simp (config:={ maxSteps:=2000000 }) (disch:=first | omega | assumption | exact Y2 (by assumption) | exact Q1 (by assumption) | exact J1 (by omega) | fail) only[W0,d1]
 have good:∀ {r:Value} {H':Y0} {nx':Nat},D0 H nx H' nx'->((¬ M15 l f n/\r=refuse 1)\/(M15 l f n/\∃ order:List Nat,(l++E8 f f=order.map fun (w:Nat)=>(w:Int))/\order.Nodup/\(∀ w ∈ order,w<n)/\order.length=n /\
     ∃ R,r = .tuple ⟨[.slice R n n,.int .i64 0]⟩/\Sl H' nx' R (M8 (X16 n (List.replicate n Y11) (adj es) order))/\∃ o,R=some ⟨o,0,none⟩/\nx<=o/\o<nx'/\X0 H' o=some (.cells (M8 (X16 n (List.replicate n Y11) (adj es) order)) 0))) ->
   D0 H nx H' nx'/\((V9 (n:Int) (f:Int) es≠0/\r=refuse (V9 (n:Int) (f:Int) es))\/(∃ n' f':Nat,(n:Int)=n'/\(f:Int)=f'/\f'<=n'/\n'<=32/\V9 (n:Int) (f:Int) es=0 /\
    ((¬ M15 l f' n'/\r=refuse 1)\/(M15 l f' n'/\∃ order:List Nat,(l++E8 f' f'=order.map fun (w:Nat)=>(w:Int))/\order.Nodup/\(∀ w ∈ order,w<n')/\order.length=n' /\
     ∃ R,r = .tuple ⟨[.slice R n' n',.int .i64 0]⟩/\Sl H' nx' R (M8 (X16 n' (List.replicate n' Y11) (adj es) order))/\∃ o,R=some ⟨o,0,none⟩/\nx<=o/\o<nx'/\X0 H' o=some (.cells (M8 (X16 n' (List.replicate n' Y11) (adj es) order)) 0))))):=
  fun hE h=>⟨hE,.inr ⟨n,f,rfl,rfl,hfn,hn,hfc,h⟩⟩
 refine E1 (m:=l.length) (fun m L H' nx'=>∃ i seen:Nat,m+i=l.length/\L=[.int .u32 (seen:Int),.int .i64 (i:Int)]/\seen<4294967296/\(∀ w:Nat,seen.testBit w=decide ((w:Int) ∈ l.take i)) /\
  (∀ x ∈ l.take i,(f:Int)<=x/\x<(n:Int))/\(l.take i).Nodup/\H2=H'/\nx2=nx') ?_ ⟨0,0,rfl,rfl,by omega,by simp,by simp,by simp,rfl,rfl⟩
 rintro m ih L _ _ ⟨i,seen,hm,rfl,hseen,hbits,hin,hnd,rfl,rfl⟩ hih
 simp (config:={ maxSteps:=2000000 }) (disch:=first | omega | assumption | exact Y2 (by assumption) | exact Q1 (by assumption) | exact J1 (by omega) | fail) only[W0]
 by_cases hi:i<l.length
 case pos=>
  have hi':(i:Int)<(l.length:Int):=by omega
  obtain⟨x,hx⟩:∃ x,l[i]? = some x:=⟨_,List.getElem?_eq_getElem hi⟩
  obtain⟨B,o,row,rfl,hBn,hrow,hget⟩:=(hP.ext hEE2).open (i:=i) (by rw[W5];omega)
  have g0:=hget _ _ (U17 hx)
  have bad:¬ ((f:Int)<=x/\x<(n:Int))->¬ M15 l f n:=fun h1 h2=>h1 (h2.2.1 x (List.mem_of_getElem? hx))
  simp (disch:=first | omega | assumption | exact Y2 (by assumption) | exact Q1 (by assumption) | exact J1 (by omega) | fail) only[W0,hi',K3,Y3 hrow,g0,hg2]
  by_cases h1:x<(f:Int)
  .simp (disch:=first | omega | assumption | exact Y2 (by assumption) | exact Q1 (by assumption) | exact J1 (by omega) | fail) only[W0,h1]
   exact good hEE2 (.inl ⟨bad (by omega),rfl⟩)
  by_cases h2:x ≥ (n:Int)
  .simp (disch:=first | omega | assumption | exact Y2 (by assumption) | exact Q1 (by assumption) | exact J1 (by omega) | fail) only[W0,h1,h2]
   exact good hEE2 (.inl ⟨bad (by omega),rfl⟩)
  obtain⟨w,rfl⟩:∃ w:Nat,x=w:=⟨x.toNat,by omega⟩
  have hw:w<32:=by omega
  have hb:=hbits w
  cases hsw:seen.testBit w with
  | true=>
   simp (disch:=first | omega | assumption | exact Y2 (by assumption) | exact Q1 (by assumption) | exact J1 (by omega) | fail) only[W0,h1,h2,hsw]
   refine good hEE2 (.inl ⟨fun hp => ?_,rfl⟩)
   rw[hsw] at hb
   have hmem:(w:Int) ∈ l.take i:=by simpa using hb.symm
   obtain⟨j,hj,hje⟩:=List.getElem_of_mem hmem
   simp at hj
   have hj2:l[j]? = some (w:Int):=by rw[<- hje,List.getElem_take];exact List.getElem?_eq_getElem (by omega)
   have hne:=(List.pairwise_iff_getElem.mp hp.2.2) j i (by omega) hi (by omega)
   exact hne (by rw[(List.getElem?_eq_some_iff.mp hj2).2,(List.getElem?_eq_some_iff.mp hx).2])
  | false=>
   have hp32:2^w<4294967296:=Q33 hw
   rw[hsw] at hb
   have hnm:(w:Int) ∉ l.take i:=by simpa using hb.symm
   simp (disch:=first | omega | assumption | exact Y2 (by assumption) | exact Q1 (by assumption) | exact J1 (by omega) | fail) only[W0,h1,h2,hsw]
   refine hih (m-1) _ _ _ (by omega) ⟨i+1,seen ||| 2^w,by omega,by simp,Y67 hseen hp32,fun u => ?_,?_,?_,rfl,rfl⟩
   .rw[Nat.testBit_or,hbits,Nat.testBit_two_pow,K9 hx]
    by_cases huw:u=w
    .subst huw;simp
    .have e1:decide (w=u)=false:=by simp;omega
     have e2:¬ (u:Int)=(w:Int):=by omega
     simp[e1,e2]
   .rw[K9 hx]
    intro z hz
    simp only[List.mem_append,List.mem_singleton] at hz
    rcases hz with hz | rfl
    .exact hin z hz
    .omega
   .rw[K9 hx];exact G28 hnd hnm
 have hi':¬ (i:Int)<(l.length:Int):=by omega
 rw[M29 hi] at hin hnd
 by_cases hlen:l.length+f=n
 case neg=>
  have d2:decide ((l.length:Int)≠(n:Int)-(f:Int))=true:=by simp;omega
  simp (disch:=first | omega | assumption | exact Y2 (by assumption) | exact Q1 (by assumption) | exact J1 (by omega) | fail) only[W0,hi',hg2,d2]
  exact good hEE2 (.inl ⟨fun hp=>hlen hp.1,rfl⟩)
 have d2:decide ((l.length:Int)≠(n:Int)-(f:Int))=false:=by simp;omega
 have hpok:M15 l f n:=⟨hlen,hin,hnd⟩
 simp (config:={ maxSteps:=2000000 }) (disch:=first | omega | assumption | exact Y2 (by assumption) | exact Q1 (by assumption) | exact J1 (by omega) | fail) only[W0,hi',hg2,d2]
 clear hih
 obtain⟨order,hord,hond,holt,holen⟩:=C27 hpok
 have hl32:l.length<=32:=by omega
 generalize hK:hs (hs H2 nx2 (some (.cells (R3 (List.replicate 32 0)) 0))) (nx2+1) (some (.cells (R3 (List.replicate 32 0)) 0))=K
 have kO:X0 K nx2=some (.cells (R3 (List.replicate 32 0)) 0):=by rw[<- hK,M0 _ (by omega),Q0]
 have kP:X0 K (nx2+1)=some (.cells (R3 (List.replicate 32 0)) 0):=by rw[<- hK,Q0]
 have hEK:D0 H2 nx2 K (nx2+1+1):=by rw[<- hK];exact ((D0.self (by omega):D0 H2 nx2 H2 (nx2+1+1)).hs (by omega)).hs (by omega)
 have kG:=(hEK.get nx (by omega)).trans hg2
 have z32:(R3 (List.replicate 32 0)).length=32:=by rw[W5];simp
 rw[W92,W32 kO (Y36 (hP.ext (hEE2.trans hEK)) (hP0.ext (hEE2.trans hEK)) (by rw[W5];omega) (by omega)) hl32 (W21 l) (by rw[W5,z32];exact hl32),D77 hl32]
 refine E1 (m:=f) (fun m L H' nx'=>∃ (i:Nat) (ol:List Int),m+i=f/\L=[.int .i64 (i:Int)]/\ol.length=32/\(∀ j,j<l.length+i->ol[j]? = (l++E8 f f)[j]?) /\
  X0 H' nx2=some (.cells (R3 ol) 0)/\(∀ q,q≠nx2->X0 H' q=X0 K q)/\nx2+1+1=nx') ?_ ⟨0,l++List.replicate (32-l.length) 0,rfl,rfl,by simp;omega,fun j hj=>by
   rw[List.getElem?_append_left (by omega),List.getElem?_append_left (by omega)],Q0 _ _ _,fun q hq=>M0 _ hq,rfl⟩
 rintro m3 ih3 L3 H3 _ ⟨i3,ol,hm3,rfl,holn,hov,hO3,hsame3,rfl⟩ hih3
 simp (config:={ maxSteps:=2000000 }) (disch:=first | omega | assumption | exact Y2 (by assumption) | exact Q1 (by assumption) | exact J1 (by omega) | fail) only[W0]
 by_cases hi3:i3<f
 case pos=>
  have hi3':(i3:Int)<(f:Int):=by omega
  have hidx:((l.length:Int)+(i3:Int)).toNat=l.length+i3:=by omega
  have hb3:l.length+i3<ol.length:=by omega
  have hol3:(R3 ol).length=32:=by rw[W5];exact holn
  simp (disch:=first | omega | assumption | exact Y2 (by assumption) | exact Q1 (by assumption) | exact J1 (by omega) | fail) only[W0,Nat.reduceLeDiff,hi3',hidx,hO3,J56 hb3,hol3]
  refine⟨by omega,hih3 (m3-1) _ _ _ (by omega) ⟨i3+1,ol.set (l.length+i3) ((f:Int)-1-i3),by omega,by simp,by rw[List.length_set];exact holn,fun j hj => ?_,Q0 _ _ _,fun q hq=>by rw[M0 _ hq];exact hsame3 q hq,rfl⟩⟩
  rw[List.getElem?_set]
  by_cases hjj:l.length+i3=j
  .subst hjj
   rw[if_pos rfl,if_pos (by omega),List.getElem?_append_right (by omega),Nat.add_sub_cancel_left,G52 hi3]
  .rw[if_neg hjj];exact hov j (by omega)
 have hi3':¬ (i3:Int)<(f:Int):=by omega
 have hi3e:i3=f:=by omega
 subst hi3e
 have hon:∀ (j w:Nat),order[j]? = some w->ol[j]? = some (w:Int):=by
  intro j w hj
  rw[hov j (by have:=Q12 hj;omega),hord]
  simp[hj]
 have hG3:=(hsame3 nx (by omega)).trans kG
 simp (config:={ maxSteps:=2000000 }) (disch:=first | omega | assumption | exact Y2 (by assumption) | exact Q1 (by assumption) | exact J1 (by omega) | fail) only[W0,hi3',hG3]
 clear hih3
 refine E1 (m:=n) (fun m L H' nx'=>∃ (i:Nat) (pl:List Int),m+i=n/\L=[.int .i64 (i:Int)]/\pl.length=32/\(∀ j w:Nat,order[j]? = some w->j<i->pl[w]? = some (j:Int)) /\
  X0 H' (nx2+1)=some (.cells (R3 pl) 0)/\(∀ q,q≠nx2+1->X0 H' q=X0 H3 q)/\nx2+1+1=nx') ?_ ⟨0,List.replicate 32 0,rfl,rfl,by simp,fun j w _ h=>by omega,by rw[hsame3 (nx2+1) (by omega)];exact kP,fun q hq=>rfl,rfl⟩
 rintro m4 ih4 L4 H4 _ ⟨i4,pl,hm4,rfl,hpln,hpv,hP4,hsame4,rfl⟩ hih4
 have hO4:=(hsame4 nx2 (by omega)).trans hO3
 have hG4:=(hsame4 nx (by omega)).trans hG3
 simp (config:={ maxSteps:=2000000 }) (disch:=first | omega | assumption | exact Y2 (by assumption) | exact Q1 (by assumption) | exact J1 (by omega) | fail) only[W0]
 by_cases hi4:i4<n
 case pos=>
  have hi4':(i4:Int)<(n:Int):=by omega
  obtain⟨w,hw⟩:∃ w,order[i4]? = some w:=⟨_,List.getElem?_eq_getElem (by omega)⟩
  have hwn:w<n:=holt w (List.mem_of_getElem? hw)
  have gw:=U17 (hon i4 w hw)
  have hb4:w<pl.length:=by omega
  have hpl4:(R3 pl).length=32:=by rw[W5];exact hpln
  simp (disch:=first | omega | assumption | exact Y2 (by assumption) | exact Q1 (by assumption) | exact J1 (by omega) | fail) only[W0,Nat.reduceLeDiff,hi4',hO4,gw,hP4,J56 hb4,hpl4]
  refine⟨by omega,hih4 (m4-1) _ _ _ (by omega) ⟨i4+1,pl.set w (i4:Int),by omega,by simp,by rw[List.length_set];exact hpln,fun j u hj hji => ?_,Q0 _ _ _,fun q hq=>by rw[M0 _ hq];exact hsame4 q hq,rfl⟩⟩
  rw[List.getElem?_set]
  by_cases huw:w=u
  .subst huw
   rw[if_pos rfl,if_pos (by omega),Q31 hond hj hw]
  .rw[if_neg huw]
   refine hpv j u hj ?_
   have:j≠i4:=by intro e;subst e;rw[hw] at hj;cases hj;exact huw rfl
   omega
 have hi4':¬ (i4:Int)<(n:Int):=by omega
 have hi4e:i4=n:=by omega
 subst hi4e
 simp (config:={ maxSteps:=2000000 }) (disch:=first | omega | assumption | exact Y2 (by assumption) | exact Q1 (by assumption) | exact J1 (by omega) | fail) only[W0,hi4',hG4,J3]
 clear hih4
 have hE4:D0 H nx H4 (nx2+1+1):=⟨by omega,fun q hq=>by
  rw[hsame4 q (by omega),hsame3 q (by omega),hEK.get q (by omega)];exact hEE2.get q hq⟩
 have hgc:R8 i4 es=0:=by
  unfold V9 at hfc
  split at hfc
  .assumption
  .rename_i h;exact Decidable.of_not_not h
 refine K0 (V89 hn A es cap _ _ (hS.ext hE4) hes hle hgc) ?_
 rintro _ H5 nx5 ⟨rfl,hE5⟩
 have hnx5:=hE5.le
 have e1:(N1 (E4 es i4)).length=32:=by rw[G1];exact B16 es i4
 have e2:(N1 (List.replicate 32 0)).length=32:=by rw[G1];simp
 have e3:=Z5 (c:=N1 (List.replicate 32 0)) (vs:=N1 (E4 es i4)) (by rw[e1,e2])
 have e4:=Q14 (E4 es i4)
 have hn6:i4<=1000000:=by omega
 have hG5:=(hE5.get nx (by omega)).trans hG4
 have hO5:=(hE5.get nx2 (by omega)).trans hO4
 have hP5:=(hE5.get (nx2+1) (by omega)).trans hP4
 simp (config:={ maxSteps:=2000000 }) (disch:=first | omega | assumption | exact Y2 (by assumption) | exact Q1 (by assumption) | exact J1 (by omega) | fail) only[W0,e1,e2,e3,e4,hG5,V12 hn6,Y51]
 generalize hK5:hs (hs (hs H5 nx5 (some (.cells (N1 (List.replicate 32 0)) 0))) nx5 (some (.cells (N1 (E4 es i4)) 0))) (nx5+1) (some (.cells (M8 (List.replicate i4 Y11)) 0))=K5
 have hEK5:D0 H5 nx5 K5 (nx5+1+1):=by rw[<- hK5];exact (((D0.self (by omega):D0 H5 nx5 H5 (nx5+1+1)).hs (by omega)).hs (by omega)).hs (by omega)
 have m0:M13 K5 (nx5+1+1) nx5 (nx5+1) (E4 es i4) (List.replicate i4 Y11) K5:=by
  refine⟨?_,?_,fun _ _ _ _=>rfl⟩
  .rw[<- hK5,M0 _ (by omega),Q0]
  .rw[<- hK5,Q0]
 have hG6:=(hEK5.get nx (by omega)).trans hG5
 have hO6:=(hEK5.get nx2 (by omega)).trans hO5
 have hP6:=(hEK5.get (nx2+1) (by omega)).trans hP5
 have hEE5:D0 H nx K5 (nx5+1+1):=(hE4.trans hE5).trans hEK5
 refine E1 (m:=i4) (fun m L H' nx'=>∃ (i:Nat) (nl:List Nat) (out:List Bag) (N:Nb),m+i=i4/\L=[.int .i64 (i:Int)]/\M13 K5 (nx5+1+1) nx5 (nx5+1) nl out H'/\nl.length=32/\(∀ a ∈ order.drop i,nl[a]? = some (G4 (V6 N a (order.drop i)) i4))/\X49 N/\out.length=i4 /\
  X16 i4 out N (order.drop i)=X16 i4 (List.replicate i4 Y11) (adj es) order/\nx5+1+1<=nx') ?_ ⟨0,E4 es i4,List.replicate i4 Y11,adj es,rfl,rfl,m0,B16 es i4,fun a ha=>by
   have ha2:a ∈ order:=ha
   rw[N57 es hn (holt a ha2)]
   congr 1
   refine Y16 fun w hw => ?_
   have:=G32 hond holt holen hw
   simp[V6,this],V95 es,by simp,rfl,Nat.le_refl _⟩
 rintro m7 ih7 L7 H7 nx7 ⟨j,nl,out,N,hm7,rfl,hM,hnll,hnv,hNb,hol,hout,hx7⟩ hih7
 simp (config:={ maxSteps:=2000000 }) (disch:=first | omega | assumption | exact Y2 (by assumption) | exact Q1 (by assumption) | exact J1 (by omega) | fail) only[W0]
 by_cases hj:j<i4
 case neg=>
  have hj':¬ (j:Int)<(i4:Int):=by omega
  simp (config:={ maxSteps:=2000000 }) (disch:=first | omega | assumption | exact Y2 (by assumption) | exact Q1 (by assumption) | exact J1 (by omega) | fail) only[W0,hj']
  rw[List.drop_of_length_le (by omega)] at hout
  refine good ⟨by have:=hEE5.le;omega,fun q hq=>by rw[hM.same q (by have:=hEE5.le;omega) (by omega) (by omega)];exact hEE5.get q hq⟩ (.inr ⟨hpok,order,hord,hond,holt,holen,_,rfl,fun q u hu=>⟨nx5+1,0,M8 out,rfl,by omega,by rw[V3,hM.out];rfl,?_⟩,nx5+1,rfl,by have:=hE5.le;omega,by omega,?_⟩)
  .rw[Nat.zero_add]
   have:out=X16 i4 (List.replicate i4 Y11) (adj es) order:=hout
   rw[this];exact hu
  .have:out=X16 i4 (List.replicate i4 Y11) (adj es) order:=hout
   rw[<- this];exact hM.out
 have hj':(j:Int)<(i4:Int):=by omega
 obtain⟨v,hv⟩:∃ v,order[j]? = some v:=⟨_,List.getElem?_eq_getElem (by omega)⟩
 have hvn:v<i4:=holt v (List.mem_of_getElem? hv)
 have hdrop:=J65 hv
 generalize hrest:order.drop (j+1)=rest at hdrop
 have hvr:v ∉ rest:=by rw[<- hrest];exact X65 hond hv
 rw[hdrop] at hnv hout
 have hO7:=(hM.same nx2 (by omega) (by omega) (by omega)).trans hO6
 have hP7:=(hM.same (nx2+1) (by omega) (by omega) (by omega)).trans hP6
 have hG7:=(hM.same nx (by omega) (by omega) (by omega)).trans hG6
 have gv7:=U17 (hon j v hv)
 have hkv:=hnv v List.mem_cons_self
 rw[N85 hNb] at hkv
 have gk7:=G3 hkv
 have hbld:∀ kk,M4 [.int .i64 0,.int .u32 0,.int .i64 0] [(0,1),(1,1),(2,1)] [(0,.int .i64 (v:Int)),(1,.int .u32 ((G4 (V6 N v rest) i4:Nat):Int)),(2,.int .i64 (-1))] kk=kk (.agg ⟨[.int .i64 (v:Int),.int .u32 ((G4 (V6 N v rest) i4:Nat):Int),.int .i64 (-1)]⟩):=fun _=>rfl
 simp (config:={ maxSteps:=2000000 }) (disch:=first | omega | assumption | exact Y2 (by assumption) | exact Q1 (by assumption) | exact J1 (by omega) | fail) only[W0,Z0,Nat.reduceAdd,hj',hO7,gv7,hM.near,gk7,hbld,G5,hG7]
 have hkey32:=K66 hn (V6 N v rest)
 generalize hHB:hs (hs H7 nx7 (some (.cells [.int .i64 0,.int .u32 0,.int .i64 0] 0))) nx7 (some (.cells [.int .i64 (v:Int),.int .u32 ((G4 (V6 N v rest) i4:Nat):Int),.int .i64 (-1)] 0))=HB
 have mB:M13 K5 (nx5+1+1) nx5 (nx5+1) nl out HB:=by rw[<- hHB];exact (hM.setNew hx7 (by omega) (by omega) _).setNew hx7 (by omega) (by omega) _
 have gB:X0 HB nx7=some (.cells [.int .i64 (v:Int),.int .u32 ((G4 (V6 N v rest) i4:Nat):Int),.int .i64 (-1)] 0):=by rw[<- hHB,Q0]
 refine E1 (m:=i4) (fun m L H' nx'=>∃ (u:Nat) (nl:List Nat) (par:Int),m+u=i4/\L=[.int .i64 (u:Int)]/\M13 K5 (nx5+1+1) nx5 (nx5+1) nl out H'/\X0 H' nx7=some (.cells [.int .i64 (v:Int),.int .u32 ((G4 (V6 N v rest) i4:Nat):Int),.int .i64 par] 0)/\nl.length=32 /\
  (∀ a ∈ rest,nl[a]? = some (G4 (if a<u then V6 (Y17 N v rest) a rest else V6 N a (v :: rest)) i4))/\X76 N v order rest u par/\nx7+1<=nx') ?_ ⟨0,nl,-1,rfl,rfl,mB,gB,hnll,fun a ha=>by rw[hnv a (List.mem_cons_of_mem _ ha)];simp,.inl ⟨rfl,fun w h=>by omega⟩,Nat.le_refl _⟩
 rintro m8 ih8 L8 H8 nx8 ⟨u,nl8,par,hm8,rfl,hM8,gB8,hnl8,hnv8,hpar,hx8⟩ hih8
 simp (config:={ maxSteps:=2000000 }) (disch:=first | omega | assumption | exact Y2 (by assumption) | exact Q1 (by assumption) | exact J1 (by omega) | fail) only[W0]
 by_cases hu:u<i4
 case neg=>
  have hu':¬ (u:Int)<(i4:Int):=by omega
  have hui:u=i4:=by omega
  subst hui
  have hpe:par=U72 N v rest:=by rw[<- hrest] at hpar ⊢;exact W91 hond holt hpar
  have hset:G6 (M8 out) (v*3) [.int .i64 (v:Int),.int .u32 ((G4 (V6 N v rest) u:Nat):Int),.int .i64 par]=M8 (out.set v (N38 u N v rest)):=by
   rw[hpe];exact Q57 (b:=N38 u N v rest) (by omega)
  have hbl:(M8 out).length=u*3:=by rw[Z42,hol]
  simp (config:={ maxSteps:=2000000 }) (disch:=first | omega | assumption | exact Y2 (by assumption) | exact Q1 (by assumption) | exact J1 (by omega) | fail) only[W0,Z0,Nat.reduceAdd,hu',gB8,D3,hM8.out,hset,hbl]
  refine⟨by omega,hih7 (m7-1) _ _ _ (by omega) ⟨j+1,nl8,_,Y17 N v rest,by omega,by simp,hM8.setOut (by omega) _,hnl8,fun a ha => ?_,V93 hNb v rest,by rw[List.length_set];exact hol,by rw[hrest,<- hout];rfl,by omega⟩⟩
  rw[hrest] at ha ⊢
  have han:a<u:=holt a (List.mem_of_mem_drop (hrest ▸ ha))
  rw[hnv8 a ha,if_pos han]
 have hu':(u:Int)<(i4:Int):=by omega
 have kbit:(G4 (V6 N v rest) i4).testBit u=V6 N v rest u:=by rw[X9];simp[hu]
 simp (config:={ maxSteps:=2000000 }) (disch:=first | omega | assumption | exact Y2 (by assumption) | exact Q1 (by assumption) | exact J1 (by omega) | fail) only[W0,hu',gB8]
 rw[K3,kbit]
 cases hk:V6 N v rest u with
 | false=>
  simp (config:={ maxSteps:=2000000 }) (disch:=first | omega | assumption | exact Y2 (by assumption) | exact Q1 (by assumption) | exact J1 (by omega) | fail) only[W0]
  refine hih8 (m8-1) _ _ _ (by omega) ⟨u+1,nl8,par,by omega,by simp,hM8,gB8,hnl8,fun a ha => ?_,?_,hx8⟩
  .rw[hnv8 a ha]
   by_cases h1:a<u
   .rw[if_pos h1,if_pos (by omega)]
   .rw[if_neg h1]
    by_cases h2:a=u
    .subst h2;rw[if_pos (by omega),Q90 hNb ha hk]
    .rw[if_neg (by omega)]
  .rcases hpar with ⟨h1,h2⟩ | ⟨p,jp,h1,h2,h3,h4⟩
   .refine .inl ⟨h1,fun w hw => ?_⟩
    by_cases hwu:w=u
    .subst hwu;exact hk
    .exact h2 w (by omega)
   .refine .inr ⟨p,jp,h1,h2,h3,fun w jw hw hjw hkw => ?_⟩
    by_cases hwu:w=u
    .subst hwu;rw[hk] at hkw;cases hkw
    .exact h4 w jw (by omega) hjw hkw
 | true=>
  simp (config:={ maxSteps:=2000000 }) (disch:=first | omega | assumption | exact Y2 (by assumption) | exact Q1 (by assumption) | exact J1 (by omega) | fail) only[W0]
  have hur:u ∈ rest:=by simp[V6] at hk;exact hk.2
  obtain⟨ju,hju⟩:∃ ju,order[ju]? = some u:=List.getElem?_of_mem (List.mem_of_mem_drop (hrest ▸ hur))
  have hP8:=(hM8.same (nx2+1) (by omega) (by omega) (by omega)).trans hP6
  have gu:=U17 (hpv ju u hju (by have:=Q12 hju;omega))
  refine J6 (fun L H' nx'=>∃ par',L=[]/\M13 K5 (nx5+1+1) nx5 (nx5+1) nl8 out H'/\X0 H' nx7=some (.cells [.int .i64 (v:Int),.int .u32 ((G4 (V6 N v rest) i4:Nat):Int),.int .i64 par'] 0)/\X76 N v order rest (u+1) par'/\nx7+1<=nx') ?_ ?_
  .intro jk hjk
   rw[K3]
   have hput:∀ a b c x:Value,G6 [a,b,c] 2 [x]=[a,b,x]:=fun _ _ _ _=>rfl
   have hnew:X76 N v order rest (u+1) u->∀ nx',nx7+1<=nx'->jk [] (hs H8 nx7 (some (.cells [.int .i64 (v:Int),.int .u32 ((G4 (V6 N v rest) i4:Nat):Int),.int .i64 (u:Int)] 0))) nx':=
    fun h nx' hx=>hjk _ _ _ ⟨u,rfl,hM8.setNew hx7 (by omega) (by omega) _,Q0 _ _ _,h,hx⟩
   rcases hpar with ⟨rfl,h2⟩ | ⟨p,jp,rfl,h2,h3,h4⟩
   .have hneg:(-1:Int)<0:=by omega
    simp (config:={ maxSteps:=2000000 }) (disch:=first | omega | assumption | exact Y2 (by assumption) | exact Q1 (by assumption) | exact J1 (by omega) | fail) only[W0,Nat.reduceAdd,gB8,hneg,hput]
    refine hnew (.inr ⟨u,ju,rfl,hju,hk,fun w jw hw hjw hkw => ?_⟩) _ (by omega)
    by_cases hwu:w=u
    .subst hwu;rw[Q31 hond hju hjw];exact Nat.le_refl _
    .rw[h2 w (by omega)] at hkw;cases hkw
   .have hpn:¬ (p:Int)<0:=by omega
    have hp4:p<i4:=holt p (List.mem_of_getElem? h2)
    have gp:=U17 (hpv jp p h2 (by have:=Q12 h2;omega))
    by_cases hlt:ju<jp
    .have hlt':(ju:Int)<(jp:Int):=by omega
     simp (config:={ maxSteps:=2000000 }) (disch:=first | omega | assumption | exact Y2 (by assumption) | exact Q1 (by assumption) | exact J1 (by omega) | fail) only[W0,Nat.reduceAdd,gB8,hpn,hP8,gu,gp,hlt',hput]
     refine hnew (.inr ⟨u,ju,rfl,hju,hk,fun w jw hw hjw hkw => ?_⟩) _ (by omega)
     by_cases hwu:w=u
     .subst hwu;rw[Q31 hond hju hjw];exact Nat.le_refl _
     .have:=h4 w jw (by omega) hjw hkw;omega
    .have hlt':¬ (ju:Int)<(jp:Int):=by omega
     simp (config:={ maxSteps:=2000000 }) (disch:=first | omega | assumption | exact Y2 (by assumption) | exact Q1 (by assumption) | exact J1 (by omega) | fail) only[W0,Nat.reduceAdd,gB8,hpn,hP8,gu,gp,hlt']
     refine hjk _ _ _ ⟨p,rfl,hM8,gB8,.inr ⟨p,jp,rfl,h2,h3,fun w jw hw hjw hkw => ?_⟩,by omega⟩
     by_cases hwu:w=u
     .subst hwu;rw[<- Q31 hond hju hjw];omega
     .exact h4 w jw (by omega) hjw hkw
  .rintro _ H9 nx9 ⟨par',rfl,hM9,gB9,hpar9,hx9⟩
   have hcur:=hnv8 u hur
   rw[if_neg (by omega)] at hcur
   have gcur:=G3 hcur
   have hc32:=K66 hn (V6 N u (v :: rest))
   have hu32:2^u<4294967296:=Q33 (by omega)
   have hv32:2^v<4294967296:=Q33 (by omega)
   have ho1:=Y67 hc32 hkey32
   have ho2:=Y67 hu32 hv32
   have hul:u<nl8.length:=by omega
   have hlen9:(N1 nl8).length=32:=by rw[G1];exact hnl8
   have hnb:=M92 hNb (n:=i4) hvr hk
   simp (config:={ maxSteps:=2000000 }) (disch:=first | omega | assumption | exact Y2 (by assumption) | exact Q1 (by assumption) | exact J1 (by omega) | fail) only[W0,Nat.reduceLeDiff,hM9.near,gcur,gB9,Z7 hul,hlen9]
   refine⟨by omega,hih8 (m8-1) _ _ _ (by omega) ⟨u+1,nl8.set u (M2 (G4 (V6 N u (v :: rest)) i4 ||| G4 (V6 N v rest) i4) (2^u ||| 2^v)),par',by omega,by simp,hM9.setNear (by omega) _,by rw[M0 _ (by omega)];exact gB9,by rw[List.length_set];exact hnl8,fun a ha => ?_,hpar9,by omega⟩⟩
   rw[List.getElem?_set]
   by_cases h2:u=a
   .subst h2;rw[if_pos rfl,if_pos hul,if_pos (by omega),hnb]
   .rw[if_neg h2,hnv8 a ha]
    by_cases h1:a<u
    .rw[if_pos h1,if_pos (by omega)]
    .rw[if_neg h1,if_neg (by omega)]
end Go.Proofs.YtpiobdofbhkmjaaDoor
