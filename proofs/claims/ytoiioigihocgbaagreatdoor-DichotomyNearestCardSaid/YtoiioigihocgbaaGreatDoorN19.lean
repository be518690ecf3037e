/-
  connex.walk: what stands before its range over slices.Backward.
  Plain: inversions,and counting them while runs are merged.
  Plain: what is reached through some vertices.
  Plain: bags of an elimination by reachability.
  Plain: the value of a packing problem: at least 1,at most 1 if one set holds everything,and exactly 1 only then.
  Plain: least widths as orders;the bag of a solver by reachability.
  Plain: Best's permutation is the first one of least width.
  Plain: the run of first is the greedy choice;components of the variables that are not free.
  Plain: ██ Best returns the first permutation of least width. ██
  Plain: ██ Best's answer: the first permutation of least width. ██
  Plain: reductions of hypergraphs,elimination orders without fill,simplicial vertices outside a clique,chordless paths.
-/
import Derived.Test.YtoiioigihocgbaaGreatDoorN18
import Derived.RangeFuncCalls
import Derived.Test.YtoiioigihocgbaaGreatDoorN17
import Derived.Test.YtoiioigihocgbaaGreatDoorN14
set_option linter.all false
namespace Go.Proofs.YtoiioigihocgbaaGreatDoor
open Go.RowKit Go.Shelf Go.Clo
theorem R70(a:Array Value)(h:a.size=58):∃ x0 x1 x2 x3 x4 x5 x6 x7 x8 x9 U az aw ax ai au ag O bc a9 an ad a5 W a8 a0 aa a3 b3 a1 aq ah av ao ba a2 Q b4 E ac b8 V a6 bf bg bd a4 b5 ay ab a7 ak Z al ap aj ae J,a = #[x0,x1,x2,x3,x4,x5,x6,x7,x8,x9,U,az,aw,ax,ai,au,ag,O,bc,a9,an,ad,a5,W,a8,a0,aa,a3,b3,a1,aq,ah,av,ao,ba,a2,Q,b4,E,ac,b8,V,a6,bf,bg,bd,a4,b5,ay,ab,a7,ak,Z,al,ap,aj,ae,J]:=by
 obtain⟨l⟩:=a;simp only[List.size_toArray] at h;obtain _ | ⟨x0,l⟩:=l
 .simp at h
 obtain _ | ⟨x1,l⟩:=l
 .simp at h
 obtain _ | ⟨x2,l⟩:=l
 .simp at h
 obtain _ | ⟨x3,l⟩:=l
 .simp at h
 obtain _ | ⟨x4,l⟩:=l
 .simp at h
 obtain _ | ⟨x5,l⟩:=l
 .simp at h
 obtain _ | ⟨x6,l⟩:=l
 .simp at h
 obtain _ | ⟨x7,l⟩:=l
 .simp at h
 obtain _ | ⟨x8,l⟩:=l
 .simp at h
 obtain _ | ⟨x9,l⟩:=l
 .simp at h
 obtain _ | ⟨U,l⟩:=l
 .simp at h
 obtain _ | ⟨az,l⟩:=l
 .simp at h
 obtain _ | ⟨aw,l⟩:=l
 .simp at h
 obtain _ | ⟨ax,l⟩:=l
 .simp at h
 obtain _ | ⟨ai,l⟩:=l
 .simp at h
 obtain _ | ⟨au,l⟩:=l
 .simp at h
 obtain _ | ⟨ag,l⟩:=l
 .simp at h
 obtain _ | ⟨O,l⟩:=l
 .simp at h
 obtain _ | ⟨bc,l⟩:=l
 .simp at h
 obtain _ | ⟨a9,l⟩:=l
 .simp at h
 obtain _ | ⟨an,l⟩:=l
 .simp at h
 obtain _ | ⟨ad,l⟩:=l
 .simp at h
 obtain _ | ⟨a5,l⟩:=l
 .simp at h
 obtain _ | ⟨W,l⟩:=l
 .simp at h
 obtain _ | ⟨a8,l⟩:=l
 .simp at h
 obtain _ | ⟨a0,l⟩:=l
 .simp at h
 obtain _ | ⟨aa,l⟩:=l
 .simp at h
 obtain _ | ⟨a3,l⟩:=l
 .simp at h
 obtain _ | ⟨b3,l⟩:=l
 .simp at h
 obtain _ | ⟨a1,l⟩:=l
 .simp at h
 obtain _ | ⟨aq,l⟩:=l
 .simp at h
 obtain _ | ⟨ah,l⟩:=l
 .simp at h
 obtain _ | ⟨av,l⟩:=l
 .simp at h
 obtain _ | ⟨ao,l⟩:=l
 .simp at h
 obtain _ | ⟨ba,l⟩:=l
 .simp at h
 obtain _ | ⟨a2,l⟩:=l
 .simp at h
 obtain _ | ⟨Q,l⟩:=l
 .simp at h
 obtain _ | ⟨b4,l⟩:=l
 .simp at h
 obtain _ | ⟨E,l⟩:=l
 .simp at h
 obtain _ | ⟨ac,l⟩:=l
 .simp at h
 obtain _ | ⟨b8,l⟩:=l
 .simp at h
 obtain _ | ⟨V,l⟩:=l
 .simp at h
 obtain _ | ⟨a6,l⟩:=l
 .simp at h
 obtain _ | ⟨bf,l⟩:=l
 .simp at h
 obtain _ | ⟨bg,l⟩:=l
 .simp at h
 obtain _ | ⟨bd,l⟩:=l
 .simp at h
 obtain _ | ⟨a4,l⟩:=l
 .simp at h
 obtain _ | ⟨b5,l⟩:=l
 .simp at h
 obtain _ | ⟨ay,l⟩:=l
 .simp at h
 obtain _ | ⟨ab,l⟩:=l
 .simp at h
 obtain _ | ⟨a7,l⟩:=l
 .simp at h
 obtain _ | ⟨ak,l⟩:=l
 .simp at h
 obtain _ | ⟨Z,l⟩:=l
 .simp at h
 obtain _ | ⟨al,l⟩:=l
 .simp at h
 obtain _ | ⟨ap,l⟩:=l
 .simp at h
 obtain _ | ⟨aj,l⟩:=l
 .simp at h
 obtain _ | ⟨ae,l⟩:=l
 .simp at h
 obtain _ | ⟨J,l⟩:=l
 .simp at h
 obtain _ | ⟨y,l⟩:=l
 .exact⟨x0,x1,x2,x3,x4,x5,x6,x7,x8,x9,U,az,aw,ax,ai,au,ag,O,bc,a9,an,ad,a5,W,a8,a0,aa,a3,b3,a1,aq,ah,av,ao,ba,a2,Q,b4,E,ac,b8,V,a6,bf,bg,bd,a4,b5,ay,ab,a7,ak,Z,al,ap,aj,ae,J,rfl⟩
 .simp at h
def Z8(aL:List Nat)(inn first last len:Nat):List Value:=[.agg ⟨C0 aL⟩,.int .u32 (inn:Int),.int .i64 (first:Int),.int .u32 (last:Int),.int .i64 (len:Int)]
theorem J25:∀ l:List Nat,(C0 l).all M4=true
 | []=>rfl
 | x :: l=>J25 l
set_option maxRecDepth 100000 in
theorem V64{aL:List Nat}{N:Nat}(hN:N<=6)(hL:NbL aL N){inn last first len:Nat}(hi:inn<2^N)(W:last<2^N)(hf:first<100)(h1:1<=len)(U:len<=100)
  (w:World)(hg:GlW w)(Q:Exit->Act->World->Prop)(E:Code)
  (hk:∀(a:Act)(w':World)(B0 o0 S os cs:Nat),a.defers=[]->a.tmps.size=58->a.tmps.getD 2 undef = .int .i64 (first:Int)->a.tmps.getD 5 undef = .pointer (some ⟨B0,o0,none⟩)->a.tmps.getD 11 undef = .slice (some ⟨S,os,none⟩) len cs ->
   (∀ u x:Nat,aL[u]? = some x->w'.cell? ⟨B0,o0+u,none⟩=some (.int .u32 (x:Int)))->(∀ i,i<len->w'.cell? ⟨S,os+i,none⟩=some (.int .u32 (U5 aL inn last i:Int)))->GlW w'->RowKit.Below w.heap.size w w' ->
   B0<w'.heap.size->S<w'.heap.size->E.wpIn Fence.wide 5 Tryz.prog Q a w'):
  (Code.seq q0 (.seq q1 (.seq q2 E))).wpIn Fence.wide 5 Tryz.prog Q { tmps:=(Z8 aL inn first last len).toArray++Array.replicate (58-(Z8 aL inn first last len).toArray.size) undef,defers:=[] } w:=by
 have J:=J59 hN hL hi W hf h1 U .leaf 0;rw[<- e37,Z24] at J;have hn:58<=2^6:=by decide
 have Z:(Z8 aL inn first last len).length<=58:=by show 5<=58;decide
 have wl:WF 6 (.leaf:K0 Value):=trivial;have w0:WF 6 (R17 6 (Z8 aL inn first last len) 0 .leaf):=Y19 6 _ 0 .leaf wl;obtain⟨T1,H1,n1,r1,w1,k1⟩:=B47 mixed hn c0 o0 w0 J;obtain⟨T2,H2,n2,r2,w2,k2⟩:=B47 mixed hn c1 o1 w1 r1;obtain⟨T3,H3,n3,r3,w3,k3⟩:=B47 mixed hn c2 o2 w2 r2;have er:G14 Tryz.prog R61 False (fun v H' nx'=>∃ S s,v = .tuple ⟨[.pointer (some ⟨0,0,none⟩),.slice (some ⟨S,0,none⟩) len len,.int .i64 (first:Int)]⟩/\J0 H' 0=some (.cells (C0 aL) 0)/\J0 H' S=some (.cells (C0 (C12 aL inn last len)) s)/\0<nx'/\S<nx') T3 H3 n3 =
   ∃ S s,Value.tuple ⟨[(tg T3 5).getD undef,(tg T3 11).getD undef,(tg T3 2).getD undef]⟩ = .tuple ⟨[.pointer (some ⟨0,0,none⟩),.slice (some ⟨S,0,none⟩) len len,.int .i64 (first:Int)]⟩/\J0 H3 0=some (.cells (C0 aL) 0)/\J0 H3 S=some (.cells (C0 (C12 aL inn last len)) s)/\0<n3/\S<n3:=by
  unfold G14 R61;simp only[W24,G2,Y5];have es:∀ i,ev T3 (.s i)=(tg T3 i).getD undef:=fun i=>by
   show tgK T3 i (id undef) id=_;rw[J11];cases tg T3 i<;>rfl
  rw[es,es,es]
  rfl
 rw[er] at r3;obtain⟨S,s,et,g0,gS,a0,a6⟩:=r3;simp only[Value.tuple.injEq,Array.mk.injEq,List.cons.injEq,and_true] at et;obtain⟨f5,a4,f2⟩:=et;have a7:VL (fun _=>none) (Z8 aL inn first last len) (Z8 aL inn first last len) := .cons (VR.agg' (J10 _ _ (J25 aL))) (.cons (.int _ _) (.cons (.int _ _) (.cons (.int _ _) (.cons (.int _ _) .nil))));refine wpIn_seq (wpIn_wide.2 (k1 (fun _=>none) _ w _ (W32 a7 hn Z) (In.start w hg).hr fun F1 a1 W1 t1 p1 d1 => ?_));refine wpIn_seq (wpIn_wide.2 (k2 F1 a1 W1 _ t1 p1.hr fun F2 a2 W2 t2 p2 d2 => ?_));refine wpIn_seq (wpIn_wide.2 (k3 F2 a2 W2 _ t2 p2.hr fun F3 a3 W3 t3 p3 d3 => ?_));have p:=(p1.trans p2).trans p3;have v2:=t3.get 2 (by decide);have v5:=t3.get 5 (by decide);have O:=t3.get 11 (by decide);rw[f2] at v2;rw[f5] at v5;rw[a4] at O;obtain⟨_,t,hF,e5⟩:=v5.ptr_inv;obtain⟨_,tt,cc,V,a5,_⟩:=O.slice_inv;have S0:Sl H3 n3 (some ⟨0,0,none⟩) (C0 aL):=fun i u hu=>⟨0,0,C0 aL,rfl,a0,by simp[Q5,g0,C1.row],by simpa using hu⟩
 have S1:Sl H3 n3 (some ⟨S,0,none⟩) (C0 (C12 aL inn last len)):=fun i u hu=>⟨S,0,C0 (C12 aL inn last len),rfl,a6,by simp[Q5,gS,C1.row],by simpa using hu⟩
 have hb:RowKit.Below w.heap.size w W3:=⟨p.os,p.tape,p.output,p.size,fun b hb=>p.frame b hb fun⟨i,_,_,hi,_⟩=>by simp at hi⟩
 refine hk a3 W3 t.blk (t.base+0) tt.blk (tt.base+0) cc (by rw[d3,d2,d1]) t3.size ?_ e5 a5 (fun u x hx => ?_) (fun i hi => ?_) p3.hr.gl.1 hb (W40 p3.hr hF S0 (by rw[E1,hL.len];decide)) (W40 p3.hr V S1 (by rw[E1,G45];omega))
 .generalize a3.tmps.getD 2 undef=z at v2
  cases v2;rfl
 .obtain⟨v0,c0,r0⟩:=U23 p3.hr hF S0 (Q3 hx)
  cases r0;exact c0
 .obtain⟨v0,c0,r0⟩:=U23 p3.hr V S1 (Q3 (G44 hi))
  cases r0;exact c0
end Go.Proofs.YtoiioigihocgbaaGreatDoor

namespace Go.Inv
def less(x:Int)(r:List Int):Nat:=r.countP fun y=>decide (y<x)
def inv:List Int->Nat
 | []=>0
 | x :: r=>less x r+inv r
def B17(a b:List Int):Nat:=(a.map fun x=>less x b).sum
theorem C48(x:Int)(a b:List Int):less x (a++b)=less x a+less x b:=List.countP_append
theorem K34:∀ a b:List Int,inv (a++b)=inv a+inv b+B17 a b
 | [],b=>by simp[inv,B17]
 | x :: a,b=>by
  have:=K34 a b;simp only[List.cons_append,inv,C48,B17,List.map_cons,List.sum_cons] at this ⊢;omega
theorem W15(x:Int)(a b:List Int):B17 (x :: a) b=less x b+B17 a b:=by simp[B17]
theorem Q21:∀ a:List Int,B17 a []=0
 | []=>rfl
 | x :: a=>by rw[W15,Q21 a];rfl
theorem N19:∀(a:List Int)(y:Int)(b:List Int),B17 a (y :: b)=(a.countP fun x=>decide (y<x))+B17 a b
 | [],y,b=>rfl
 | x :: a,y,b=>by
  rw[W15,W15,N19 a y b];simp only[less,List.countP_cons];omega
theorem K68(x:Int)(l:List Int):less x l<=l.length:=List.countP_le_length
theorem D35:∀ l:List Int,inv l<=l.length*l.length
 | []=>by simp[inv]
 | x :: l=>by
  have h1:=D35 l;have h2:=K68 x l;simp only[inv,List.length_cons];have:(l.length+1)*(l.length+1)=l.length*l.length+2*l.length+1:=by
   rw[Nat.add_mul,Nat.mul_add];omega
  omega
end Go.Inv

namespace Go.Clo
variable {A:Nat->Nat->Prop} {P Q:Nat->Prop} {u w:Nat}
inductive V9 (A:Nat->Nat->Prop) (P:Nat->Prop):Nat->Nat->Prop
 | one {u w:Nat}:A u w->V9 A P u w
 | more {u x w:Nat}:A u x->P x->V9 A P x w->V9 A P u w
theorem V9.mono(h:∀ x,P x->Q x)(r:V9 A P u w):V9 A Q u w:=by
 induction r with
 | one h1=>exact .one h1
 | more h1 h2 _ ih=>exact .more h1 (h _ h2) ih
theorem V9.trans{x:Nat}(r:V9 A P u x)(hx:P x)(s:V9 A P x w):V9 A P u w:=by
 induction r with
 | one h1=>exact .more h1 hx s
 | more h1 h2 _ ih=>exact .more h1 h2 (ih hx s)
theorem V9.symm(hA:∀ a b,A a b->A b a)(r:V9 A P u w):V9 A P w u:=by
 induction r with
 | one h1=>exact .one (hA _ _ h1)
 | more h1 h2 _ ih=>exact ih.trans h2 (.one (hA _ _ h1))
theorem V9.join(hA:∀ a b,A a b->A b a){v:Nat}(h:∀ x,P x->Q x)(hv:Q v)(r:V9 A P v u)(s:V9 A P v w):V9 A Q u w:=
 ((r.symm hA).mono h).trans hv (s.mono h)
end Go.Clo









namespace Go.Proofs.YtoiioigihocgbaaGreatDoor
open Go.Clo
section
variable {es nb:List Nat} {N:Nat} {cs:List Nat} {W:Rat}
end
def V37(N f:Nat):List Nat:=(List.range (N-f)).map fun j=>f+j
theorem E61{N f v:Nat}:v ∈ V37 N f<->f<=v/\v<N:=by
 unfold V37;simp only[List.mem_map,List.mem_range]
 constructor
 .rintro⟨j,h,rfl⟩;omega
 .rintro⟨h1,h2⟩;exact⟨v-f,by omega,by omega⟩
theorem U49(N f:Nat):(V37 N f).Pairwise (· < ·):=by
 unfold V37;rw[List.pairwise_map];exact List.pairwise_lt_range.imp fun h=>by omega
end Go.Proofs.YtoiioigihocgbaaGreatDoor

namespace Go.Proofs.YtoiioigihocgbaaGreatDoor
open Go.Clo
section
variable {es:List Nat} {N set:Nat}
end
section
variable {es:List Nat} {N f:Nat}
structure IsP (N f:Nat) (l:List Nat):Prop where
 nd:l.Nodup
 mem:∀ v,v ∈ l<->f<=v/\v<N
theorem IsP.len{l:List Nat}(h:IsP N f l):l.length=N-f:=by
 have hp:l.Perm (V37 N f):=(List.perm_ext_iff_of_nodup h.nd ((U49 N f).imp fun h=>Nat.ne_of_lt h)).2 fun v=>by rw[h.mem,E61]
 rw[hp.length_eq];simp[V37]
variable (hN:N<=6) (hsm:∀ e ∈ es,e<2^N) (hle:es.length<=8) (hcov:∀ w,w<N->∃ e ∈ es,e.testBit w=true) (hf:f<=N)
include hN hsm hle hcov hf
end
end Go.Proofs.YtoiioigihocgbaaGreatDoor



namespace Go.Clo
variable {L M:List Nat} {a b e f u v x y z:Nat}
def V3(es:List Nat)(a b:Nat):Prop:=a≠b/\∃ e ∈ es,e.testBit a=true/\e.testBit b=true
theorem V3.symm{es:List Nat}{a b:Nat}(h:V3 es a b):V3 es b a:=⟨h.1.symm,by obtain⟨e,h1,h2,h3⟩:=h.2;exact⟨e,h1,h3,h2⟩⟩
def U6(es:List Nat)(v:Nat):Prop:=∃ e ∈ es,e.testBit v=true
theorem V3.cov{es:List Nat}(h:V3 es a b):U6 es a:=by obtain⟨e,h1,h2,h3⟩:=h.2;exact⟨e,h1,h2⟩
def D6(es:List Nat):List Nat->Prop
 | []=>True
 | v :: r=>(U6 es v->∃ e ∈ es,e.testBit v=true/\∀ w ∈ r,V3 es v w->e.testBit w=true)/\D6 es r
def PE(es:List Nat):Prop:=∃ l:List Nat,(∀ v,U6 es v->v ∈ l)/\D6 es l
theorem D6.filter{es:List Nat}(p:Nat->Bool):∀ {l:List Nat},D6 es l->D6 es (l.filter p)
 | [],_=>trivial
 | v :: r,h=>by
  rw[List.filter_cons]
  split
  .refine⟨fun hc => ?_,D6.filter p h.2⟩
   obtain⟨e,h1,h2,h3⟩:=h.1 hc;exact⟨e,h1,h2,fun w hw ha=>h3 w (List.mem_filter.1 hw).1 ha⟩
  .exact D6.filter p h.2
theorem D6.at{es:List Nat}:∀ {p1 p2:List Nat} {v:Nat},D6 es (p1++v :: p2)->U6 es v->∃ e ∈ es,e.testBit v=true/\∀ w ∈ p2,V3 es v w->e.testBit w=true
 | [],_,_,h,hc=>h.1 hc
 | _ :: p1,_,_,h,hc=>D6.at (p1:=p1) h.2 hc
def Dom(L M:List Nat):Prop:=∀ z ∈ L,∃ y ∈ M,∀ w,z.testBit w=true->y.testBit w=true
theorem Dom.cov(h:Dom L M)(hv:U6 L v):U6 M v:=by
 obtain⟨z,h1,h2⟩:=hv;obtain⟨y,h3,h4⟩:=h z h1;exact⟨y,h3,h4 v h2⟩
theorem Dom.adj(h:Dom L M)(hv:V3 L a b):V3 M a b:=by
 obtain⟨E,z,h1,h2,J⟩:=hv;obtain⟨y,h3,h4⟩:=h z h1;exact⟨E,y,h3,h4 a h2,h4 b J⟩
theorem Dom.pel{L M:List Nat}(h:Dom L M)(h':Dom M L):∀ {l:List Nat},D6 L l->D6 M l
 | [],_=>trivial
 | v :: r,g=>by
  refine⟨fun hc => ?_,Dom.pel h h' g.2⟩;obtain⟨e,h1,h2,h3⟩:=g.1 (h'.cov hc);obtain⟨y,h4,h5⟩:=h e h1;exact⟨y,h4,h5 v h2,fun w hw ha=>h5 w (h3 w hw (h'.adj ha))⟩
theorem Dom.pe(h:Dom L M)(h':Dom M L)(g:PE L):PE M:=by
 obtain⟨l,h1,h2⟩:=g;exact⟨l,fun v hv=>h1 v (h'.cov hv),h.pel h' h2⟩
theorem Q52(J:e≠f)(hx:L[e]? = some x)(hy:L[f]? = some y)(hs:∀ w,x.testBit w=true->y.testBit w=true):Dom L (L.set e 0)/\Dom (L.set e 0) L:=by
 constructor
 .intro z hz
  obtain⟨i,hi⟩:=List.getElem?_of_mem hz
  by_cases E:i=e
  .subst E
   rw[hx] at hi;cases hi;exact⟨y,List.mem_of_getElem? (i:=f) (by rw[List.getElem?_set_ne J];exact hy),hs⟩
  .exact⟨z,List.mem_of_getElem? (i:=i) (by rw[List.getElem?_set_ne (fun e'=>E e'.symm)];exact hi),fun _ h=>h⟩
 .intro z hz
  rcases List.mem_or_eq_of_mem_set hz with h | rfl
  .exact⟨z,h,fun _ h=>h⟩
  .exact⟨x,List.mem_of_getElem? hx,fun w hw=>by simp at hw⟩
theorem N56(E:e≠f)(hx:L[e]? = some x)(hy:L[f]? = some y)(hs:∀ w,x.testBit w=true->y.testBit w=true):PE (L.set e 0)<->PE L:=by
 obtain⟨h1,h2⟩:=Q52 E hx hy hs;exact⟨h2.pe h1,h1.pe h2⟩
section
variable {L:List Nat} {e x x' v:Nat} (hx:L[e]? = some x) (hv:x.testBit v=true) (hu:∀(i z:Nat),L[i]? = some z->z.testBit v=true->i=e) (hx':∀ w,x'.testBit w=true<->x.testBit w=true/\w≠v)
include hx hv hu hx'
theorem C37(hz:z ∈ L.set e x'):∃ y ∈ L,(∀ w,z.testBit w=true->y.testBit w=true/\w≠v):=by
 obtain⟨i,hi⟩:=List.getElem?_of_mem hz
 by_cases E:i=e
 .subst E
  rw[List.getElem?_set_self (by obtain⟨h,_⟩:=List.getElem?_eq_some_iff.1 hx;exact h)] at hi
  cases hi
  exact⟨x,List.mem_of_getElem? hx,fun w hw=>(hx' w).1 hw⟩
 .rw[List.getElem?_set_ne (fun e'=>E e'.symm)] at hi
  exact⟨z,List.mem_of_getElem? hi,fun w hw=>⟨hw,fun e'=>E (hu i z hi (e' ▸ hw))⟩⟩
theorem D36(hz:z ∈ L):∃ y ∈ L.set e x',(∀ w,w≠v->z.testBit w=true->y.testBit w=true):=by
 obtain⟨i,hi⟩:=List.getElem?_of_mem hz
 by_cases E:i=e
 .subst E
  rw[hx] at hi;cases hi;exact⟨x',List.mem_of_getElem? (i:=i) (List.getElem?_set_self (by obtain⟨h,_⟩:=List.getElem?_eq_some_iff.1 hx;exact h)),fun w hw h=>(hx' w).2 ⟨h,hw⟩⟩
 .exact⟨z,List.mem_of_getElem? (i:=i) (by rw[List.getElem?_set_ne (fun e'=>E e'.symm)];exact hi),fun _ _ h=>h⟩
theorem B27:U6 (L.set e x') u<->U6 L u/\u≠v:=by
 constructor
 .rintro⟨z,h1,h2⟩
  obtain⟨y,h3,h4⟩:=C37 hx hv hu hx' h1
  exact⟨⟨y,h3,(h4 u h2).1⟩,(h4 u h2).2⟩
 .rintro⟨⟨z,h1,h2⟩,hne⟩
  obtain⟨y,h3,h4⟩:=D36 hx hv hu hx' h1
  exact⟨y,h3,h4 u hne h2⟩
theorem R49:V3 (L.set e x') a b<->V3 L a b/\a≠v/\b≠v:=by
 constructor
 .rintro⟨hne,z,h1,h2,h2'⟩
  obtain⟨y,h3,h4⟩:=C37 hx hv hu hx' h1
  exact⟨⟨hne,y,h3,(h4 a h2).1,(h4 b h2').1⟩,(h4 a h2).2,(h4 b h2').2⟩
 .rintro⟨⟨hne,z,h1,h2,h2'⟩,ha,hb⟩
  obtain⟨y,h3,h4⟩:=D36 hx hv hu hx' h1
  exact⟨hne,y,h3,h4 a ha h2,h4 b hb h2'⟩
theorem X63(hz:z ∈ L)(h:z.testBit v=true):z=x:=by
 obtain⟨i,hi⟩:=List.getElem?_of_mem hz;have:=hu i z hi h;subst this;rw[hx] at hi;cases hi;rfl
theorem C56{w:Nat}(h:V3 L v w):x.testBit w=true:=by
 obtain⟨_,z,h1,h2,h3⟩:=h;rw[X63 hx hv hu hx' h1 h2] at h3;exact h3
theorem E60:∀ {l:List Nat},D6 L l->D6 (L.set e x') l
 | [],_=>trivial
 | u :: r,g=>by
  refine⟨fun hc => ?_,E60 g.2⟩
  obtain⟨hc1,hne⟩:=(B27 hx hv hu hx').1 hc
  obtain⟨z,h1,h2,h3⟩:=g.1 hc1
  obtain⟨y,h4,h5⟩:=D36 hx hv hu hx' h1
  refine⟨y,h4,h5 u hne h2,fun w hw ha => ?_⟩
  obtain⟨a1,_,a3⟩:=(R49 hx hv hu hx').1 ha
  exact h5 w a3 (h3 w hw a1)
theorem M46:∀ {l:List Nat},v ∉ l->D6 (L.set e x') l->D6 L l
 | [],_,_=>trivial
 | u :: r,hl,g=>by
  have hu':u≠v:=fun e'=>hl (by simp[e'])
  have hr:v ∉ r:=fun h=>hl (by simp[h])
  refine⟨fun hc => ?_,M46 hr g.2⟩
  obtain⟨z,h1,h2,h3⟩:=g.1 ((B27 hx hv hu hx').2 ⟨hc,hu'⟩)
  obtain⟨y,h4,h5⟩:=C37 hx hv hu hx' h1
  exact⟨y,h4,(h5 u h2).1,fun w hw ha=>(h5 w (h3 w hw ((R49 hx hv hu hx').2 ⟨ha,hu',fun e'=>hr (e' ▸ hw)⟩))).1⟩
theorem E68:PE (L.set e x')<->PE L:=by
 constructor
 .rintro⟨l,h1,h2⟩
  refine⟨v :: l.filter fun u=>decide (u≠v),fun u hc => ?_,⟨fun _=>⟨x,List.mem_of_getElem? hx,hv,fun w _ ha=>C56 hx hv hu hx' ha⟩,M46 hx hv hu hx' (by simp) (h2.filter _)⟩⟩
  by_cases huv:u=v
  .simp[huv]
  .have:=h1 u ((B27 hx hv hu hx').2 ⟨hc,huv⟩)
   simp[huv,this]
 .rintro⟨l,h1,h2⟩
  exact⟨l,fun u hc=>h1 u ((B27 hx hv hu hx').1 hc).1,E60 hx hv hu hx' h2⟩
end
theorem D34{L:List Nat}(hA:∀ i j x y:Nat,i≠j->L[i]? = some x->L[j]? = some y->x≠0->y≠0->¬ ∀ w,x.testBit w=true->y.testBit w=true)
  (hI:∀ i x v:Nat,L[i]? = some x->x.testBit v=true->∃ j y,j≠i/\L[j]? = some y/\y.testBit v=true):∀ {l:List Nat},(∀ v,U6 L v->v ∈ l)->D6 L l->∀ x ∈ L,x=0
 | [],h,_=>fun x hx=>by
  apply Nat.eq_of_testBit_eq;intro w;rw[Nat.zero_testBit]
  cases hw:x.testBit w with
  | false=>rfl
  | true=>exact absurd (h w ⟨x,hx,hw⟩) (by simp)
 | u :: r,h,g=>by
  by_cases hc:U6 L u
  .exfalso
   obtain⟨z,h1,h2,h3⟩:=g.1 hc;obtain⟨i,hi⟩:=List.getElem?_of_mem h1;obtain⟨j,y,E,hj,hy⟩:=hI i z u hi h2;refine hA j i y z E hj hi (fun e=>by rw[e] at hy;simp at hy) (fun e=>by rw[e] at h2;simp at h2) fun w hw => ?_
   by_cases e:w=u
   .rw[e];exact h2
   .have ha:V3 L u w:=⟨fun e'=>e e'.symm,y,List.mem_of_getElem? hj,hy,hw⟩
    have hm:=h w ha.symm.cov;rcases List.mem_cons.1 hm with h4 | h4
    .exact absurd h4 e
    .exact h3 w h4 ha
  .refine D34 hA hI (fun v hv => ?_) g.2
   rcases List.mem_cons.1 (h v hv) with h4 | h4
   .subst h4;exact absurd hv hc
   .exact h4
theorem V51{L:List Nat}(h:∀ x ∈ L,x=0):PE L:=⟨[],fun v ⟨e,h1,h2⟩=>by rw[h e h1] at h2;simp at h2,trivial⟩
theorem B38{es:List Nat}:∀ {l:List Nat},D6 es l->∀ {Q:Nat->Prop},(∀ q,Q q->q ∈ l)->(∃ q,Q q)->(∀ q,Q q->U6 es q)->(∀ a b,Q a->Q b->a≠b->V3 es a b)->∃ e ∈ es,∀ q,Q q->e.testBit q=true
 | [],_,Q,h1,⟨q,hq⟩,_,_=>absurd (h1 q hq) (by simp)
 | v :: r,g,Q,h1,hx,hc,h2=>by
  by_cases hv:Q v
  .obtain⟨e,g1,g2,g3⟩:=g.1 (hc v hv)
   refine⟨e,g1,fun q hq => ?_⟩
   by_cases e':q=v
   .rw[e'];exact g2
   .rcases List.mem_cons.1 (h1 q hq) with h4 | h4
    .exact absurd h4 e'
    .exact g3 q h4 (h2 v q hv hq (fun e=>e' e.symm))
  .refine B38 g.2 (fun q hq => ?_) hx hc h2
   rcases List.mem_cons.1 (h1 q hq) with h4 | h4
   .subst h4;exact absurd hq hv
   .exact h4
def Sim(A:Nat->Nat->Prop)(W:List Nat)(v:Nat):Prop:=∀ a ∈ W,∀ b ∈ W,a≠b->A v a->A v b->A a b
def PEO(A:Nat->Nat->Prop):List Nat->Prop
 | []=>True
 | v :: r=>Sim A r v/\PEO A r
theorem PEO.filter{A:Nat->Nat->Prop}(p:Nat->Bool):∀ {l:List Nat},PEO A l->PEO A (l.filter p)
 | [],_=>trivial
 | v :: r,h=>by
  rw[List.filter_cons]
  split
  .exact⟨fun a ha b hb=>h.1 a (List.mem_filter.1 ha).1 b (List.mem_filter.1 hb).1,PEO.filter p h.2⟩
  .exact PEO.filter p h.2
theorem D6.peo{es:List Nat}:∀ {l:List Nat},D6 es l->PEO (V3 es) l
 | [],_=>trivial
 | v :: r,h=>⟨fun a ha b hb E h1 h2=>by
   obtain⟨e,g1,g2,g3⟩:=h.1 h1.cov;exact⟨E,e,g1,g3 a ha h1,g3 b hb h2⟩,D6.peo h.2⟩
theorem K41{A:Nat->Nat->Prop}(hA:∀ a b,A a b->A b a)(hI:∀ a,¬ A a a){u:Nat}{r:List Nat}(hs:Sim A r u)(ha:∀ y ∈ r,A u y\/y=u)(hv:v ∈ u :: r):Sim A (u :: r) v:=by
 have key:∀ y,y ∈ u :: r->y=u\/(A u y/\y ∈ r):=fun y hy=>by
  rcases List.mem_cons.1 hy with h | h
  .exact .inl h
  .rcases ha y h with h' | h'
   .exact .inr ⟨h',h⟩
   .exact .inl h'
 intro a O b E J h1 h2;rcases key a O with rfl | ⟨a1,a2⟩
 .rcases key b E with rfl | ⟨b1,b2⟩
  .exact absurd rfl J
  .exact b1
 .rcases key b E with rfl | ⟨b1,b2⟩
  .exact hA _ _ a1
  .exact hs a a2 b b2 J a1 b1
theorem K65{A:Nat->Nat->Prop}(hA:∀ a b,A a b->A b a)(hI:∀ a,¬ A a a):∀ {l:List Nat},PEO A l->∀ {K:Nat->Prop},(∀ a b,K a->K b->a ∈ l->b ∈ l->a≠b->A a b)->(∃ x ∈ l,¬ K x)->∃ v ∈ l,¬ K v/\Sim A l v
 | [],_,_,_,⟨x,hx,_⟩=>absurd hx (by simp)
 | u :: r,h,K,hK,⟨x,hx,hxK⟩=>by
  have Q:Sim A (u :: r) u:=fun a ha b hb E h1 h2=>by
   rcases List.mem_cons.1 ha with rfl | ha
   .exact absurd h1 (hI _)
   rcases List.mem_cons.1 hb with rfl | hb
   .exact absurd h2 (hI _)
   exact h.1 a ha b hb E h1 h2
  by_cases hu:K u
  .by_cases hr:∃ y ∈ r,¬ (A u y\/y=u)
   .obtain⟨v,h1,h2,h3⟩:=K65 hA hI h.2 (K:=fun y=>A u y\/y=u) (fun a b ha hb U O E=>by
     rcases ha with ha | rfl
     .rcases hb with hb | rfl
      .exact h.1 a U b O E ha hb
      .exact hA _ _ ha
     .rcases hb with hb | rfl
      .exact hb
      .exact absurd rfl E) hr
    have J:¬ A u v/\v≠u:=⟨fun e=>h2 (.inl e),fun e=>h2 (.inr e)⟩
    refine⟨v,by simp[h1],fun hv=>J.1 (hK u v hu hv (by simp) (by simp[h1]) (fun e=>J.2 e.symm)),fun a ha b hb E ga gb => ?_⟩;rcases List.mem_cons.1 ha with rfl | ha
    .exact absurd (hA _ _ ga) J.1
    rcases List.mem_cons.1 hb with rfl | hb
    .exact absurd (hA _ _ gb) J.1
    exact h3 a ha b hb E ga gb
   .have V:∀ y ∈ r,A u y\/y=u:=fun y hy=>Classical.byContradiction fun hn=>hr ⟨y,hy,hn⟩
    exact⟨x,hx,hxK,K41 hA hI h.1 V hx⟩
  .exact⟨u,by simp,hu,Q⟩
end Go.Clo
