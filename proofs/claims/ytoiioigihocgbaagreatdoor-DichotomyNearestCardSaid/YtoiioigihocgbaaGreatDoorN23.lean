/-
  Contracts: hypergraph.absorb,isolate,slices.ContainsFunc (from l30's S21 .. S24).
-/
import Derived.Test.YtoiioigihocgbaaGreatDoorN21
import Derived.Test.YtoiioigihocgbaaGreatDoorN17
import Derived.Test.YtoiioigihocgbaaGreatDoorN19
set_option linter.all false
namespace Go.Proofs.YtoiioigihocgbaaGreatDoor
open Go.Clo
variable {c e i v:Nat} {l:List Bool} {rest:List Nat}
theorem R57{e:Nat}(H:Y0)(nx:Nat):Q2 Tryz.prog 54 [.int .u32 (e:Int)] H nx fun v H' nx'=>v = .bool (decide (e≠0))/\H=H'/\nx=nx':=by
 refine spec54 ?_;unfold F54;simp(disch:=first|omega|assumption)only[W0]
theorem D68(A:Option Addr)(es:List Nat)(cap:Nat)(H:Y0)(nx:Nat)(hS:Sl H nx A (C0 es))(hl:es.length<=64):
  Q2 Tryz.prog 88 [.slice A es.length cap,.func (.func 54) ⟨[]⟩ ⟨[]⟩] H nx fun v H' nx'=>(∃ i:Int,v = .int .i64 i/\(0<=i<->∃ e ∈ es,e≠0))/\H=H'/\nx=nx':=by
 refine spec88 ?_;unfold F88;simp(disch:=first|omega|assumption)only[W0];refine B1 (m:=es.length) (fun m L H' nx'=>∃ i:Nat,m+i=es.length/\L=[.int .i64 (i:Int)]/\(∀ e ∈ es.take i,e=0)/\H=H'/\nx=nx') ?_ ⟨0,rfl,rfl,by simp,rfl,rfl⟩;rintro m ih L _ _ ⟨i,hm,rfl,J,rfl,rfl⟩ U;simp(disch:=first|omega|assumption)only[W0]
 by_cases hi:i<es.length
 .have E:(i:Int)<(es.length:Int):=by omega
  obtain⟨e,he⟩:∃ e,es[i]? = some e:=⟨_,List.getElem?_eq_getElem hi⟩
  obtain⟨A,o,row,rfl,_,Q,O⟩:=hS.open (i:=i) (by rw[E1];omega);simp(disch:=first|omega|assumption)only[W0,E,X3 Q,O _ _ (Q3 he)];refine V22 (R57 _ _) ?_;rintro _ _ _ ⟨rfl,rfl,rfl⟩
  by_cases h0:e=0
  .have d:decide (e≠0)=false:=by simp[h0]
   simp(disch:=first|omega|assumption)only[W0,d];refine U (m-1) _ _ _ (by omega) ⟨i+1,by omega,by simp,fun x hx => ?_,rfl,rfl⟩;rw[C7 he] at hx;simp only[List.mem_append,List.mem_singleton] at hx;rcases hx with hx | rfl
   .exact J x hx
   .exact h0
  .have d:decide (e≠0)=true:=by simp[h0]
   simp(disch:=first|omega|assumption)only[W0,d];exact⟨i,rfl,fun _=>⟨e,List.mem_of_getElem? he,h0⟩,fun _=>by omega⟩
 .have E:¬ (i:Int)<(es.length:Int):=by omega
  simp(disch:=first|omega|assumption)only[W0,E];rw[D23 hi] at J;exact⟨-1,rfl,fun h=>by omega,fun⟨e,he,h0⟩=>absurd (J e he) h0⟩
theorem W69(A:Option Addr)(es:List Nat)(cap:Nat)(H:Y0)(nx:Nat)(hS:Sl H nx A (C0 es))(hl:es.length<=64):
  Q2 Tryz.prog 53 [.slice A es.length cap,.func (.func 54) ⟨[]⟩ ⟨[]⟩] H nx fun v H' nx'=>(∃ c:Bool,v = .bool c/\(c=true<->∃ e ∈ es,e≠0))/\H=H'/\nx=nx':=by
 refine spec53 ?_;unfold F53;refine R0 (D68 A es cap H nx hS hl) ?_;rintro _ _ _ ⟨⟨i,rfl,hi⟩,rfl,rfl⟩;simp(disch:=first|omega|assumption)only[W0];exact⟨_,rfl,by rw[<- hi,decide_eq_true_eq]⟩
def N10(l:List Bool):List Value:=l.map fun b=>Value.bool b
theorem Z38{b:Bool}(h:l[i]? = some b):(N10 l)[i]? = some (.bool b):=by simp[N10,h]
theorem N18(l:List Bool):(N10 l).length=l.length:=by simp[N10]
def G15(rest:List Nat)(E:List Bool)(e i:Nat):Prop:=e≠i/\E[e]? = some false/\E[i]? = some false/\∃ x y,rest[e]? = some x/\rest[i]? = some y/\Z2 x y=0
set_option maxHeartbeats 2000000 in
theorem G43(A B:Option Addr)(rest:List Nat)(E:List Bool)(a7 a4:Nat)(H:Y0)(nx:Nat)(hA:Sl H nx A (C0 rest))(hB:Sl H nx B (N10 E))(ak:E.length=rest.length)(hl:rest.length<=64)(a2:C4 rest):
  Q2 Tryz.prog 86 [.slice A rest.length a7,.slice B E.length a4] H nx fun r H' nx'=>D0 H nx H' nx' /\
   ((∃ e i:Nat,G15 rest E e i/\r = .tuple ⟨[.agg ⟨[.int .i64 (e:Int),.int .i64 (i:Int),.int .i64 (-1)]⟩,.bool true]⟩) \/
    ((∀ e i:Nat,¬ G15 rest E e i)/\r = .tuple ⟨[.agg ⟨[.int .i64 0,.int .i64 0,.int .i64 0]⟩,.bool false]⟩)):=by
 refine spec86 ?_;unfold F86;have U:D0 H nx (hs H nx (some (.cells [.int .i64 0,.int .i64 0,.int .i64 0] 0))) (nx+1):=(D0.refl H nx).new _ (Nat.le_refl _) (by omega);have a8:∀ kk,U11 [.int .i64 0,.int .i64 0,.int .i64 0] [(0,1),(1,1),(2,1)] [] kk=kk (.agg ⟨[.int .i64 0,.int .i64 0,.int .i64 0]⟩):=fun _=>rfl
 have ac:∀(a b:Int) kk,U11 [.int .i64 0,.int .i64 0,.int .i64 0] [(0,1),(1,1),(2,1)] [(0,.int .i64 a),(1,.int .i64 b),(2,.int .i64 (-1))] kk=kk (.agg ⟨[.int .i64 a,.int .i64 b,.int .i64 (-1)]⟩):=fun _ _ _=>rfl
 simp(config:={ maxSteps:=2000000 }) (disch:=first|omega|assumption)only[W0,Q0.val];generalize hK:hs H nx (some (.cells [.int .i64 0,.int .i64 0,.int .i64 0] 0))=K at U;have kG:J0 K nx=some (.cells [.int .i64 0,.int .i64 0,.int .i64 0] 0):=by rw[<- hK,E0]
 refine B1 (m:=rest.length) (fun m L H' nx'=>∃ i:Nat,m+i=rest.length/\L=[.int .i64 (i:Int)]/\(∀ e j:Nat,e<i->¬ G15 rest E e j)/\K=H'/\nx+1<=nx') ?_ ⟨0,rfl,rfl,fun e j h=>by omega,rfl,Nat.le_refl _⟩;rintro m ih L _ nx2 ⟨e,hm,rfl,a3,rfl,a6⟩ ad;simp(config:={ maxSteps:=2000000 }) (disch:=first|omega|assumption)only[W0]
 by_cases he:e<rest.length
 case neg=>
  have a0:¬ (e:Int)<(rest.length:Int):=by omega
  simp(config:={ maxSteps:=2000000 }) (disch:=first|omega|assumption)only[W0,Z0,Nat.reduceAdd,a0,a8,kG,D7,Y12];refine⟨(U.more a6).hs (by omega),.inr fun a b => ?_⟩
  by_cases ha:a<e
  .exact a3 a b ha
  .rintro⟨_,h,_⟩
   have:=N12 h;omega
 have a0:(e:Int)<(rest.length:Int):=by omega
 simp(config:={ maxSteps:=2000000 }) (disch:=first|omega|assumption)only[W0,a0];refine B1 (m:=rest.length) (fun m L H' nx'=>∃ i:Nat,m+i=rest.length/\L=[.int .i64 (i:Int)]/\(∀ j:Nat,j<i->¬ G15 rest E e j)/\K=H'/\nx+1<=nx') ?_ ⟨0,rfl,rfl,fun j h=>by omega,rfl,a6⟩;rintro m3 a9 L3 _ an ⟨i,al,rfl,Z,rfl,ae⟩ a5;simp(config:={ maxSteps:=2000000 }) (disch:=first|omega|assumption)only[W0]
 by_cases hi:i<rest.length
 case neg=>
  have O:¬ (i:Int)<(rest.length:Int):=by omega
  simp(config:={ maxSteps:=2000000 }) (disch:=first|omega|assumption)only[W0,O];refine ad (m-1) _ _ _ (by omega) ⟨e+1,by omega,by simp,fun a b ha => ?_,rfl,ae⟩
  by_cases aa:a=e
  .subst aa
   by_cases hb:b<i
   .exact Z b hb
   .rintro⟨_,_,h,_⟩
    have:=N12 h;omega
  .exact a3 a b (by omega)
 have O:(i:Int)<(rest.length:Int):=by omega
 obtain⟨x,hx⟩:∃ x,rest[e]? = some x:=⟨_,List.getElem?_eq_getElem he⟩
 obtain⟨y,hy⟩:∃ y,rest[i]? = some y:=⟨_,List.getElem?_eq_getElem hi⟩
 obtain⟨p,hp⟩:∃ p,E[e]? = some p:=⟨_,List.getElem?_eq_getElem (by omega)⟩
 obtain⟨q,hq⟩:∃ q,E[i]? = some q:=⟨_,List.getElem?_eq_getElem (by omega)⟩
 obtain⟨A,oA,V63,rfl,_,W,V⟩:=(hA.ext U).open (i:=i) (by rw[E1];omega);obtain⟨B,oB,ah,rfl,_,J,Q⟩:=(hB.ext U).open (i:=i) (by rw[N18];omega);have gx:=V _ _ (Q3 hx);have gy:=V _ _ (Q3 hy);have gp:=Q _ _ (Z38 hp);have gq:=Q _ _ (Z38 hq);have aj:=a2.get hx;have ai:=a2.get hy;have next:¬ G15 rest E e i->∀ nx',nx+1<=nx'->a9 [.int .i64 ((i:Int)+1)] K nx':=fun h nx' ab=>
  a5 (m3-1) _ _ _ (by omega) ⟨i+1,by omega,by simp,fun j hj=>by
   by_cases ag:j=i
   .subst ag;exact h
   .exact Z j (by omega),rfl,ab⟩
 by_cases a1:e=i
 .have d1:decide ((e:Int)≠(i:Int))=false:=by simp[a1]
  simp(config:={ maxSteps:=2000000 }) (disch:=first|omega|assumption)only[W0,O,R1,d1];exact next (fun h=>h.1 a1) _ (by omega)
 have d1:decide ((e:Int)≠(i:Int))=true:=by simp;omega
 cases p with
 | true=>
  simp(config:={ maxSteps:=2000000 }) (disch:=first|omega|assumption)only[W0,O,R1,d1,X3 J,gp];exact next (fun h=>by have:=h.2.1;rw[hp] at this;cases this) _ (by omega)
 | false=>
  cases q with
  | true=>
   simp(config:={ maxSteps:=2000000 }) (disch:=first|omega|assumption)only[W0,O,R1,d1,X3 J,gp,gq];exact next (fun h=>by have:=h.2.2.1;rw[hq] at this;cases this) _ (by omega)
  | false=>
   by_cases hz:Z2 x y=0
   .have d2:decide (Z2 x y=0)=true:=by simp[hz]
    simp(config:={ maxSteps:=2000000 }) (disch:=first|omega|assumption)only[W0,Z0,Nat.reduceAdd,O,R1,d1,X3 J,X3 W,gp,gq,gx,gy,d2,ac,kG,D7,Y12];exact⟨(U.more (by omega)).hs (by omega),.inl ⟨e,i,⟨a1,hp,hq,x,y,hx,hy,hz⟩,rfl⟩⟩
   .have d2:decide (Z2 x y=0)=false:=by simp[hz]
    simp(config:={ maxSteps:=2000000 }) (disch:=first|omega|assumption)only[W0,O,R1,d1,X3 J,X3 W,gp,gq,gx,gy,d2];refine next (fun h => ?_) _ (by omega);obtain⟨_,_,_,x',y',h1,h2,h3⟩:=h;rw[hx] at h1;rw[hy] at h2;cases h1;cases h2;exact hz h3
def Z7(rest:List Nat)(v i:Nat):Bool:=match rest[i]? with
 | some x=>x.testBit v
 | none=>false
def D24(rest:List Nat)(v e:Nat):Prop:=Z7 rest v e=true/\∀ i,i≠e->Z7 rest v i=false
def E37(rest:List Nat)(v i c e:Nat):Prop:=
 (c=0/\∀ j,j<i->Z7 rest v j=false)\/(c=1/\e<i/\Z7 rest v e=true/\∀ j,j<i->j≠e->Z7 rest v j=false)\/(2<=c/\∃ a b,a≠b/\Z7 rest v a=true/\Z7 rest v b=true)
theorem X67(h:E37 rest v rest.length c e):(c=1/\D24 rest v e)\/(c≠1/\∀ e',¬ D24 rest v e'):=by
 have E:∀ j,¬ j<rest.length->Z7 rest v j=false:=fun j hj=>by unfold Z7;rw[List.getElem?_eq_none (by omega)]
 rcases h with ⟨h1,h2⟩ | ⟨h1,_,h3,h4⟩ | ⟨h1,a,b,O,ha,hb⟩
 .refine .inr ⟨by omega,fun e' ⟨h5,_⟩ => ?_⟩
  by_cases hj:e'<rest.length
  .rw[h2 e' hj] at h5;cases h5
  .rw[E e' hj] at h5;cases h5
 .refine .inl ⟨h1,h3,fun i hi => ?_⟩
  by_cases hj:i<rest.length
  .exact h4 i hj hi
  .exact E i hj
 .refine .inr ⟨by omega,fun e' ⟨_,h6⟩ => ?_⟩
  by_cases J:a=e'
  .rw[h6 b (by omega)] at hb;cases hb
  .rw[h6 a J] at ha;cases ha
theorem R66(h:E37 rest v i c e)(hb:Z7 rest v i=true):E37 rest v (i+1) (c+1) i:=by
 rcases h with ⟨h1,h2⟩ | ⟨h1,h2,h3,h4⟩ | ⟨h1,h2⟩
 .exact .inr (.inl ⟨by omega,by omega,hb,fun j hj E=>h2 j (by omega)⟩)
 .exact .inr (.inr ⟨by omega,e,i,by omega,h3,hb⟩)
 .exact .inr (.inr ⟨by omega,h2⟩)
theorem U69(h:E37 rest v i c e)(hb:Z7 rest v i=false):E37 rest v (i+1) c e:=by
 rcases h with ⟨h1,h2⟩ | ⟨h1,h2,h3,h4⟩ | ⟨h1,h2⟩
 .refine .inl ⟨h1,fun j hj => ?_⟩
  by_cases E:j=i
  .subst E;exact hb
  .exact h2 j (by omega)
 .refine .inr (.inl ⟨h1,by omega,h3,fun j hj J => ?_⟩)
  by_cases E:j=i
  .subst E;exact hb
  .exact h4 j (by omega) J
 .exact .inr (.inr ⟨h1,h2⟩)
set_option maxHeartbeats 2000000 in
theorem R38{n:Nat}(hn:n<=32)(A:Option Addr)(rest:List Nat)(a3:Nat)(H:Y0)(nx:Nat)(hA:Sl H nx A (C0 rest))(hl:rest.length<=64)(a8:C4 rest):
  Q2 Tryz.prog 87 [.int .i64 (n:Int),.slice A rest.length a3] H nx fun r H' nx'=>D0 H nx H' nx' /\
   ((∃ v e:Nat,v<n/\D24 rest v e/\r = .tuple ⟨[.agg ⟨[.int .i64 (e:Int),.int .i64 (-1),.int .i64 (v:Int)]⟩,.bool true]⟩) \/
    ((∀ v e:Nat,v<n->¬ D24 rest v e)/\r = .tuple ⟨[.agg ⟨[.int .i64 0,.int .i64 0,.int .i64 0]⟩,.bool false]⟩)):=by
 refine spec87 ?_;unfold F87;have Q:D0 H nx (hs H nx (some (.cells [.int .i64 0,.int .i64 0,.int .i64 0] 0))) (nx+1):=(D0.refl H nx).new _ (Nat.le_refl _) (by omega);have a9:∀ kk,U11 [.int .i64 0,.int .i64 0,.int .i64 0] [(0,1),(1,1),(2,1)] [] kk=kk (.agg ⟨[.int .i64 0,.int .i64 0,.int .i64 0]⟩):=fun _=>rfl
 have a6:∀(a b:Int) kk,U11 [.int .i64 0,.int .i64 0,.int .i64 0] [(0,1),(1,1),(2,1)] [(0,.int .i64 a),(1,.int .i64 (-1)),(2,.int .i64 b)] kk=kk (.agg ⟨[.int .i64 a,.int .i64 (-1),.int .i64 b]⟩):=fun _ _ _=>rfl
 simp(config:={ maxSteps:=2000000 }) (disch:=first|omega|assumption)only[W0,Q0.val];generalize hK:hs H nx (some (.cells [.int .i64 0,.int .i64 0,.int .i64 0] 0))=K at Q;have kG:J0 K nx=some (.cells [.int .i64 0,.int .i64 0,.int .i64 0] 0):=by rw[<- hK,E0]
 refine B1 (m:=n) (fun m L H' nx'=>∃ i:Nat,m+i=n/\L=[.int .i64 (i:Int)]/\(∀ v e:Nat,v<i->¬ D24 rest v e)/\K=H'/\nx+1<=nx') ?_ ⟨0,rfl,rfl,fun e j h=>by omega,rfl,Nat.le_refl _⟩;rintro m ih L _ nx2 ⟨v,hm,rfl,a4,rfl,a1⟩ a5;simp(config:={ maxSteps:=2000000 }) (disch:=first|omega|assumption)only[W0]
 by_cases hv:v<n
 case neg=>
  have Z:¬ (v:Int)<(n:Int):=by omega
  simp(config:={ maxSteps:=2000000 }) (disch:=first|omega|assumption)only[W0,Z0,Nat.reduceAdd,Z,a9,kG,D7,Y12];exact⟨(Q.more a1).hs (by omega),.inr fun a b ha=>a4 a b (by omega)⟩
 have Z:(v:Int)<(n:Int):=by omega
 simp(config:={ maxSteps:=2000000 }) (disch:=first|omega|assumption)only[W0,Z];refine B1 (m:=rest.length) (fun m L H' nx'=>∃ i c e:Nat,m+i=rest.length/\c<=i/\L=[.int .i64 (c:Int),.int .i64 (e:Int),.int .i64 (i:Int)]/\E37 rest v i c e/\K=H'/\nx+1<=nx') ?_ ⟨0,0,0,rfl,Nat.le_refl _,rfl,.inl ⟨rfl,fun j h=>by omega⟩,rfl,a1⟩;rintro m3 aa L3 _ ab ⟨i,c,e,ac,ae,rfl,O,rfl,a2⟩ U;simp(config:={ maxSteps:=2000000 }) (disch:=first|omega|assumption)only[W0]
 by_cases hi:i<rest.length
 case neg=>
  have E:¬ (i:Int)<(rest.length:Int):=by omega
  have:i=rest.length:=by omega
  subst this;rcases X67 O with ⟨h1,h2⟩ | ⟨h1,h2⟩
  .have d1:decide ((c:Int)=1)=true:=by simp;omega
   simp(config:={ maxSteps:=2000000 }) (disch:=first|omega|assumption)only[W0,Z0,Nat.reduceAdd,E,d1,a6,kG,D7,Y12];exact⟨(Q.more a2).hs (by omega),.inl ⟨v,e,hv,h2,rfl⟩⟩
  .have d1:decide ((c:Int)=1)=false:=by simp;omega
   simp(config:={ maxSteps:=2000000 }) (disch:=first|omega|assumption)only[W0,E,d1];refine a5 (m-1) _ _ _ (by omega) ⟨v+1,by omega,by simp,fun a b ha => ?_,rfl,a2⟩
   by_cases a7:a=v
   .subst a7;exact h2 b
   .exact a4 a b (by omega)
 have E:(i:Int)<(rest.length:Int):=by omega
 obtain⟨x,hx⟩:∃ x,rest[i]? = some x:=⟨_,List.getElem?_eq_getElem hi⟩
 obtain⟨A,oA,V63,rfl,_,J,W⟩:=(hA.ext Q).open (i:=i) (by rw[E1];omega);have gx:=W _ _ (Q3 hx);have a0:=a8.get hx;have ad:=G0 (n:=v) a0;have V:Z7 rest v i=x.testBit v:=by unfold Z7;rw[hx]
 cases hb:x.testBit v with
 | true=>
  simp(config:={ maxSteps:=2000000 }) (disch:=first|omega|assumption)only[W0,E,R1,X3 J,gx,hb];exact U (m3-1) _ _ _ (by omega) ⟨i+1,c+1,i,by omega,by omega,by simp,R66 O (by rw[V,hb]),rfl,by omega⟩
 | false=>
  simp(config:={ maxSteps:=2000000 }) (disch:=first|omega|assumption)only[W0,E,R1,X3 J,gx,hb];exact U (m3-1) _ _ _ (by omega) ⟨i+1,c,e,by omega,by omega,by simp,U69 O (by rw[V,hb]),rfl,by omega⟩
theorem U62(h:Z7 rest v i=true):i<rest.length:=by
 unfold Z7 at h
 split at h
 .rename_i hx;exact N12 hx
 .cases h
theorem N28:∀ n:Nat,U3 [.bool false] n=N10 (List.replicate n false)
 | 0=>rfl
 | n+1=>by rw[U3,N28 n];rfl
theorem C53{x:Bool}(h:i<l.length):B12 (N10 l) i [.bool x]=N10 (l.set i x):=by rw[N31 (by rw[N18];exact h)];simp[N10,List.map_set]
theorem M57{l:List Nat}(h:i<l.length):B12 (C0 l) i [.int .u32 0]=C0 (l.set i 0):=V10 (x:=0) h
end Go.Proofs.YtoiioigihocgbaaGreatDoor
