/-
  Plain: the shortest paths between free vertices through others,and the walk along their stages.
  MADE BY PROGRAM (wip/gen/gen.py): functions 71 36 26 39 38 15 13 28 11 25 10 14 3 as marked code,and their claims written out.
  MADE BY PROGRAM (wip/gen/gen.py,from the IR of a piece of code): connex.walk up to its range over slices.Backward as marked code,and its claim written out.
  The closed executor: a piece of code,run by itself.
  Contracts: connex.around;connex.walk up to its range over slices.Backward.
-/
import Derived.Test.YtoiioigihocgbaaGreatDoorN16
import Derived.Test.YtoiioigihocgbaaGreatDoorN17
import Derived.KernelRfl
import Derived.Test.YtoiioigihocgbaaGreatDoorN11
set_option linter.all false
noncomputable section
namespace Go.Clo
variable {k last:Nat}
def shG(aL:List Nat)(inn far lim:Nat):Nat->Nat->Nat->Nat->Option (Nat × Nat)
 | 0,_,_,_=>none
 | k+1,seen,b,st=>if b=0\/(lim≠0/\lim<st) then none else if Q4 aL b 32 &&& far≠0 then some (st,Q4 aL b 32 &&& far) else shG aL inn far lim k (seen ||| b) (Z2 (Q4 aL b 32 &&& inn) (seen ||| b)) (st+1)
def U5(aL:List Nat)(inn last:Nat):Nat->Nat
 | 0=>last
 | k+1=>Q4 aL (U5 aL inn last k) 32 &&& inn
def Q7(aL:List Nat)(inn last len first:Nat):Nat->Nat
 | 0=>first
 | k+1=>tz (U5 aL inn last (len-1-k) &&& aL.getD (Q7 aL inn last len first k) 0)
def lev(aL:List Nat)(inn b:Nat):Nat->Nat
 | 0=>b
 | k+1=>Q4 aL (lev aL inn b k) 32 &&& inn
section
variable {aL:List Nat} {inn far lim:Nat}
theorem K15{b0:Nat}:∀(k E b st:Nat) {r:Nat × Nat},(∀ w,b.testBit w=true->(lev aL inn b0 (st-2)).testBit w=true)->2<=st->shG aL inn far lim k E b st=some r ->
  2<=r.1/\(lim≠0->r.1<=lim)/\r.2≠0/\(∀ w,r.2.testBit w=true->far.testBit w=true)/\∃ u z,(lev aL inn b0 (r.1-2)).testBit u=true/\r.2.testBit z=true/\(aL.getD u 0).testBit z=true
 | 0,E,b,st,r,_,_,h=>by cases h
 | k+1,E,b,st,r,hb,h2,h=>by
  unfold shG at h
  split at h
  .cases h
  .rename_i h3
   split at h
   .rename_i h4
    cases h
    obtain⟨z,hz⟩:=B14 h4;have J:=hz;rw[Nat.testBit_and,Bool.and_eq_true] at J;obtain⟨u,u1,u2,u3⟩:=Y7.1 J.1;refine⟨h2,fun hl => ?_,h4,fun w hw => ?_,u,z,hb u u2,hz,u3⟩
    .show st<=lim
     omega
    .rw[Nat.testBit_and,Bool.and_eq_true] at hw
     exact hw.2
   .refine K15 k _ _ (st+1) (fun w hw => ?_) (by omega) h
    rw[N1,Bool.and_eq_true,Nat.testBit_and,Bool.and_eq_true] at hw;rw[show st+1-2=(st-2)+1 by omega,lev,Nat.testBit_and,Bool.and_eq_true];obtain⟨u,u1,u2,u3⟩:=Y7.1 hw.1.1;exact⟨Y7.2 ⟨u,u1,hb u u2,u3⟩,hw.1.2⟩
theorem R42{N:Nat}(hi:inn<2^N)(hl:last<2^N):∀ k,U5 aL inn last k<2^N
 | 0=>hl
 | k+1=>Nat.lt_of_le_of_lt Nat.and_le_right hi
theorem R50{b:Nat}(hb:∀ w,b.testBit w=true->inn.testBit w=true):∀ k w,(lev aL inn b k).testBit w=true->inn.testBit w=true
 | 0,w,h=>hb w h
 | k+1,w,h=>by
  rw[lev,Nat.testBit_and,Bool.and_eq_true] at h;exact h.2
variable (hsym:∀ u w,(aL.getD u 0).testBit w=true->(aL.getD w 0).testBit u=true) (h32:∀ u w,(aL.getD u 0).testBit w=true->w<32)
include hsym h32
theorem B51{b last:Nat}(hb:∀ w,b.testBit w=true->inn.testBit w=true):∀(j i:Nat),(∃ y,(lev aL inn b j).testBit y=true/\(U5 aL inn last i).testBit y=true)->∃ y,b.testBit y=true/\(U5 aL inn last (i+j)).testBit y=true
 | 0,i,⟨y,h1,h2⟩=>⟨y,h1,h2⟩
 | j+1,i,⟨y,h1,h2⟩=>by
  rw[lev,Nat.testBit_and,Bool.and_eq_true] at h1;obtain⟨u,u1,u2,u3⟩:=Y7.1 h1.1;have:=B51 hb j (i+1) ⟨u,u2,by
   rw[U5,Nat.testBit_and,Bool.and_eq_true];exact⟨Y7.2 ⟨y,h32 _ _ u3,h2,hsym _ _ u3⟩,R50 hb j u u2⟩⟩
  rw[show i+(j+1)=i+1+j by omega];exact this
theorem G55{first E st:Nat}{r:Nat × Nat}(h:shG aL inn far lim k E (aL.getD first 0 &&& inn) 2=some r):aL.getD first 0 &&& U5 aL inn r.2 (r.1-1)≠0:=by
 have hb:∀ w,(aL.getD first 0 &&& inn).testBit w=true->inn.testBit w=true:=fun w hw=>by
  rw[Nat.testBit_and,Bool.and_eq_true] at hw;exact hw.2
 obtain⟨h1,h2,h3,h4,u,z,h5,h6,h7⟩:=K15 (b0:=aL.getD first 0 &&& inn) k E _ 2 (fun w hw=>hw) (Nat.le_refl _) h;obtain⟨y,y1,y2⟩:=B51 hsym h32 hb (last:=r.2) (r.1-2) 1 ⟨u,h5,by
  rw[U5,Nat.testBit_and,Bool.and_eq_true];exact⟨Y7.2 ⟨z,h32 _ _ h7,h6,hsym _ _ h7⟩,R50 hb _ u h5⟩⟩
 rw[show 1+(r.1-2)=r.1-1 by omega] at y2;rw[Nat.testBit_and,Bool.and_eq_true] at y1;intro e;have:(aL.getD first 0 &&& U5 aL inn r.2 (r.1-1)).testBit y=true:=by rw[Nat.testBit_and,y1.1,y2];rfl
 rw[e] at this;simp at this
theorem V61{E:Nat}(h:(U5 aL inn last (k+1)).testBit E=true):U5 aL inn last k &&& aL.getD E 0≠0:=by
 rw[U5,Nat.testBit_and,Bool.and_eq_true] at h;obtain⟨u,u1,u2,u3⟩:=Y7.1 h.1;intro e;have:(U5 aL inn last k &&& aL.getD E 0).testBit u=true:=by rw[Nat.testBit_and,u2,hsym _ _ u3];rfl
 rw[e] at this;simp at this
end
def shN(i:Nat)(r:Option (Nat × Nat))(s:Nat × (Nat->Nat)):Nat × (Nat->Nat):=match r with
 | none=>s
 | some (st,last)=>(st,fun x=>if x=i then last else if s.1=0\/st<s.1 then 0 else s.2 x)
def N14(aL:List Nat)(f i:Nat):Nat:=Z2 (Z2 (2^f-1) (aL.getD i 0)) (2^i)
def J4(aL:List Nat)(N inn f:Nat):Nat->Nat × (Nat->Nat)
 | 0=>(0,fun _=>0)
 | i+1=>shN i (shG aL inn (N14 aL f i) (J4 aL N inn f i).1 N 0 (aL.getD i 0 &&& inn) 2) (J4 aL N inn f i)
theorem E47{aL:List Nat}{N inn f:Nat}:∀(i x:Nat),(J4 aL N inn f i).2 x≠0->x<i/\∃ lim,shG aL inn (N14 aL f x) lim N 0 (aL.getD x 0 &&& inn) 2=some ((J4 aL N inn f i).1,(J4 aL N inn f i).2 x)
 | 0,x,h=>absurd rfl h
 | i+1,x,h=>by
  have ih:=E47 (aL:=aL) (N:=N) (inn:=inn) (f:=f) i x
  cases hr:shG aL inn (N14 aL f i) (J4 aL N inn f i).1 N 0 (aL.getD i 0 &&& inn) 2 with
  | none=>
   have e:J4 aL N inn f (i+1)=J4 aL N inn f i:=by rw[J4,hr];rfl
   rw[e] at h ⊢;obtain⟨h1,h2⟩:=ih h;exact⟨by omega,h2⟩
  | some r=>
   obtain⟨st,last⟩:=r;have e:J4 aL N inn f (i+1)=(st,fun x=>if x=i then last else if (J4 aL N inn f i).1=0\/st<(J4 aL N inn f i).1 then 0 else(J4 aL N inn f i).2 x):=by rw[J4,hr];rfl
   rw[e] at h ⊢;dsimp only at h ⊢
   by_cases hx:x=i
   .subst hx
    rw[if_pos rfl];exact⟨by omega,_,hr⟩
   .rw[if_neg hx] at h ⊢
    split at h
    .exact absurd rfl h
    .rename_i h3
     obtain⟨h1,lim,h2⟩:=ih h;obtain⟨_,h4,_⟩:=K15 (b0:=aL.getD i 0 &&& inn) N 0 _ 2 (fun w hw=>hw) (Nat.le_refl _) hr;have h4:=h4 (by omega);have h5:st=(J4 aL N inn f i).1:=by
      have:st<=(J4 aL N inn f i).1:=h4;omega
     rw[if_neg h3];refine⟨by omega,lim,?_⟩;rw[h5];exact h2
theorem J58{aL:List Nat}{inn last N first len:Nat}(hN:N<=6)(E:∀(u x:Nat),aL[u]? = some x->x<2^N)(hsym:∀ u w,(aL.getD u 0).testBit w=true->(aL.getD w 0).testBit u=true)(hi:inn<2^N)(J:last<2^N)(hf:first<N)
  (O:U5 aL inn last (len-1) &&& aL.getD first 0≠0):∀ k,k<len->Q7 aL inn last len first k<N/\U5 aL inn last (len-1-k) &&& aL.getD (Q7 aL inn last len first k) 0≠0
 | 0,_=>⟨hf,O⟩
 | k+1,hk=>by
  have Q:2^N<=64:=Nat.pow_le_pow_right (n:=2) (by omega) hN;obtain⟨h1,h2⟩:=J58 hN E hsym hi J hf O k (by omega);have hx:U5 aL inn last (len-1-k) &&& aL.getD (Q7 aL inn last len first k) 0<2^N:=Nat.lt_of_le_of_lt Nat.and_le_left (R42 hi J _);have hb:=V33 (x:=U5 aL inn last (len-1-k) &&& aL.getD (Q7 aL inn last len first k) 0) (by omega) (by omega);have hl:=B54 (x:=U5 aL inn last (len-1-k) &&& aL.getD (Q7 aL inn last len first k) 0) (by omega) (by omega) hx;rw[Nat.testBit_and,Bool.and_eq_true] at hb;have e:len-1-k=(len-1-(k+1))+1:=by omega
  rw[e] at hb;have h32:∀ u w,(aL.getD u 0).testBit w=true->w<32:=fun u w h=>by
   cases hg:aL[u]? with
   | none=>rw[List.getD_eq_getElem?_getD,hg] at h;simp at h
   | some x=>
    rw[List.getD_eq_getElem?_getD,hg] at h;have:=R7 (E u x hg) h;omega
  refine⟨hl,?_⟩;exact V61 hsym h32 (by rw[<- e];rw[<- e] at hb;exact hb.1)
def K10(N f:Nat):Nat:=Z2 (2^N-1) (2^f-1)
def K24(aL:List Nat)(N f:Nat):Option (List Nat):=
 match (List.range f).find? fun x=>decide ((J4 aL N (K10 N f) f f).2 x≠0) with
 | none=>none
 | some x=>some ((List.range ((J4 aL N (K10 N f) f f).1+1)).map (Q7 aL (K10 N f) ((J4 aL N (K10 N f) f f).2 x) (J4 aL N (K10 N f) f f).1 x))
end Go.Clo

namespace Go.Proofs.YtoiioigihocgbaaGreatDoor
open Go.Clo
set_option maxRecDepth 100000
variable {H:Y0} {a0 a1:Value} {k:EP} {nx:Nat}
def d71:D:=X5 Tryz.prog 71 [(6,[5])] [[5,7]] []
def F71(a0 a1:Value)(H:Y0)(nx:Nat)(k:EP):Prop:=
 E5 a0 fun t1=>J3 (.cells t1 0) .ptr H nx fun t2 H1 J=>
 G3 (fun t3 t4 H2 nx2=>
 U0 .lss (t4.getD 1 undef) (.int .i64 32) fun t5=>
 K2 t5 (
 V4 (fun t6=>
 U0 .shr a1 (t4.getD 1 undef) fun t8=>
 U0 .and t8 (.int .u32 1) fun t9=>
 U0 .eql t9 (.int .u32 1) fun Z=>
 K2 Z (
 M3 t2 (t4.getD 1 undef) (some 32) 1 fun O=>
 J1 O none H2 fun W=>
 U0 .or (t4.getD 0 undef) W fun V=>
 t6 [V] H2 nx2) (
 t6 [(t4.getD 0 undef)] H2 nx2)) (fun t7 H3 U=>
 U0 .add (t4.getD 1 undef) (.int .i64 1) fun E=>
 t3 [(t7.getD 0 undef),E] H3 U)) (
 M0 (t4.getD 0 undef) fun Q=>k Q H2 nx2)) [(.int .u32 0),(.int .i64 0)] H1 J
theorem spec71(h:F71 a0 a1 H nx k):Q2 Tryz.prog 71 [a0,a1] H nx k:=
 E2 mixed J2 22 5 d71 [(.s 4,none)] (by kernel_rfl) (by kernel_rfl) (by simp) (by kernel_rfl) h
def d36:D:=X5 Tryz.prog 36 [(7,[8]),(14,[46]),(21,[8]),(22,[66])] [[8,19],[8,12,13,14]] [.one (.tst (.tst (.one (.one .nil)) (.one (.one .nil))) (.one (.one (.one .nil)))),.one (.tst (.one .nil) (.one .nil))]
def F36(a0 a1 a2:Value)(H:Y0)(nx:Nat)(k:EP):Prop:=
 E5 a0 fun t1=>J3 (.cells t1 0) .ptr H nx fun t2 H1 b4=>
 M64 none <| J3 (.map [] 0) .map H1 b4 fun t3 H2 nx2=>
 G3 (fun t4 t5 H3 a7=>
 U0 .lss (t5.getD 1 undef) a2 fun t6=>
 K2 t6 (
 V4 (fun t7=>
 M2 (a7+10) fun ae=>
 Y2 Tryz.prog 35 [a2] H3 ae fun t9 H6 ag=>
 M3 t2 (t5.getD 1 undef) (some 32) 1 fun W=>
 J1 W none H6 fun Q=>
 U0 .andNot t9 Q fun ax=>
 U0 .shl (.int .u32 1) (t5.getD 1 undef) fun bf=>
 U0 .andNot ax bf fun ay=>
 (((((J1 W none H6 fun b5=>b5=Q)/\((J1 W none H3 fun bc=>bc=Q)/\True))/\True))/\(
 M3 t2 (t5.getD 1 undef) (some 32) 1 fun ba=>
 J1 ba none H6 fun ao=>
 U0 .and ao a1 fun al=>
 G3 (fun bk E H7 O=>
 V4 (fun V=>
 U0 .neq (E.getD 2 undef) (.int .u32 0) fun ah=>
 K3 true ah (
 U0 .eql (E.getD 0 undef) (.int .i64 0) fun aw=>
 K3 false aw (
 U0 .leq (E.getD 3 undef) (E.getD 0 undef) fun b8=>
 V [b8] H7 O) (
 V [(.bool true)] H7 O)) (
 V [(.bool false)] H7 O)) (fun au H8 a4=>
 K2 (au.getD 0 undef) (
 U0 .or (E.getD 1 undef) (E.getD 2 undef) fun a9=>
 J1 t2 (some 32) H8 fun ai=>
 Y2 Tryz.prog 71 [ai,(E.getD 2 undef)] H8 a4 fun aa H9 U=>
 U0 .and aa ay fun a6=>
 U0 .neq a6 (.int .u32 0) fun ap=>
 K2 ap (
 V4 (fun Z=>
 V4 (fun a3=>
 U0 .eql (E.getD 0 undef) (.int .i64 0) fun ac=>
 K3 false ac (
 U0 .lss (E.getD 3 undef) (E.getD 0 undef) fun bo=>
 a3 [bo] H9 U) (
 a3 [(.bool true)] H9 U)) (fun bg a8 J=>
 K2 (bg.getD 0 undef) (
 M41 t3 a8 fun bd=>
 Z [(E.getD 3 undef)] bd J) (
 Z [(E.getD 0 undef)] a8 J))) (fun aj an a5=>
 W56 (.int .i64) t3 (t5.getD 1 undef) a6 an a5 fun bt aq ab=>
 t7 [(aj.getD 0 undef)] aq ab)) (
 U0 .and aa a1 fun bh=>
 U0 .andNot bh a9 fun az=>
 U0 .add (E.getD 3 undef) (.int .i64 1) fun ad=>
 bk [(E.getD 0 undef),a9,az,ad] H9 U)) (
 t7 [(E.getD 0 undef)] H8 a4))) [(t5.getD 0 undef),(.int .u32 0),al,(.int .i64 2)] H6 ag))\/False) (fun t8 H4 av=>
 U0 .add (t5.getD 1 undef) (.int .i64 1) fun ak=>
 t4 [(t8.getD 0 undef),ak] H4 av)) (
 M0 (.tuple ⟨[(t5.getD 0 undef),t3]⟩) fun b3=>k b3 H3 a7)) [(.int .i64 0),(.int .i64 0)] H2 nx2
theorem spec36{a2:Value}(h:F36 a0 a1 a2 H nx k):Q2 Tryz.prog 36 [a0,a1,a2] H nx k:=
 E2 mixed J2 80 7 d36 [(.s 6,none),(.s 7,none)] (by kernel_rfl) (by kernel_rfl) (by simp) (by kernel_rfl) h
def d26:D:=X5 Tryz.prog 26 [] [] []
def F26(a0:Value)(H:Y0)(nx:Nat)(k:EP):Prop:=
 wVf (.eqn false (.slice 3)) [a0,(.slice none 0 0)] fun t1=>
 K2 t1 (
 M0 (.slice none 0 0) fun t2=>k t2 H nx) (
 K6 0 1 [.int .i64 0] [] fun t3=>J3 (.cells t3 0) (.slice 0 0) H nx fun t4 H1 E=>
 B5 t4 a0 1 8 H1 E fun t5 H2 nx2=>
 M0 t5 fun t6=>k t6 H2 nx2)
theorem spec26(h:F26 a0 H nx k):Q2 Tryz.prog 26 [a0] H nx k:=
 E2 mixed J2 8 4 d26 [(.s 2,none)] (by kernel_rfl) (by kernel_rfl) (by simp) (by kernel_rfl) h
def d13:D:=X5 Tryz.prog 13 [] [[5]] []
def F13(a0 a1:Value)(H:Y0)(nx:Nat)(k:EP):Prop:=
 R4 a0 0 H fun t1=>
 R4 a1 0 H fun t2=>
 U0 .neq t1 t2 fun t3=>
 K2 t3 (
 M0 (.bool false) fun t4=>k t4 H nx) (
 G3 (fun t5 t6 H1 E=>
 R4 a0 0 H1 fun t7=>
 U0 .lss (t6.getD 0 undef) t7 fun t8=>
 K2 t8 (
 M2 (E+9) fun nx2=>
 M3 a0 (t6.getD 0 undef) none 1 fun t9=>
 J1 t9 none H1 fun Q=>
 M3 a1 (t6.getD 0 undef) none 1 fun J=>
 J1 J none H1 fun O=>
 U0 .neq Q O fun a2=>
 (((((J1 J none H1 fun U=>U=O)/\True)/\(((J1 t9 none H1 fun a3=>a3=Q)/\True)/\True)))/\(
 K2 a2 (
 M0 (.bool false) fun W=>k W H1 nx2) (
 U0 .add (t6.getD 0 undef) (.int .i64 1) fun V=>
 t5 [V] H1 nx2)))\/False) (
 M0 (.bool true) fun Z=>k Z H1 E)) [(.int .i64 0)] H nx)
theorem spec13(h:F13 a0 a1 H nx k):Q2 Tryz.prog 13 [a0,a1] H nx k:=
 E2 mixed J2 26 5 d13 [(.s 4,none)] (by kernel_rfl) (by kernel_rfl) (by simp) (by kernel_rfl) h
def d28:D:=X5 Tryz.prog 28 [] [[3]] []
def F28(a0:Value)(H:Y0)(nx:Nat)(k:EP):Prop:=
 E5 a0 fun t1=>J3 (.cells t1 0) .ptr H nx fun t2 H1 O=>
 G3 (fun t3 t4 H2 nx2=>
 B4 t2 0 fun t5=>
 J1 t5 none H2 fun t6=>
 U0 .lss (t4.getD 0 undef) t6 fun t7=>
 K2 t7 (
 B4 t2 1 fun t8=>
 J1 t8 none H2 fun t9=>
 W8 .u64 (t4.getD 0 undef) fun a2=>
 U0 .shl (.int .u32 1) a2 fun Q=>
 Y2 Tryz.prog 62 [t9,Q] H2 nx2 fun Z H3 E=>
 wUn .not Z fun W=>
 K2 W (
 M0 (.bool false) fun J=>k J H3 E) (
 U0 .add (t4.getD 0 undef) (.int .i64 1) fun U=>
 t3 [U] H3 E)) (
 M0 (.bool true) fun V=>k V H2 nx2)) [(.int .i64 0)] H1 O
theorem spec28(h:F28 a0 H nx k):Q2 Tryz.prog 28 [a0] H nx k:=
 E2 mixed J2 17 5 d28 [(.s 2,none)] (by kernel_rfl) (by kernel_rfl) (by simp) (by kernel_rfl) h
def d11:D:=X5 Tryz.prog 11 [(6,[18])] [] [.one (.tst (.one .nil) (.one .nil))]
def F11(a0 a1:Value)(H:Y0)(nx:Nat)(k:EP):Prop:=
 E5 a0 fun t1=>J3 (.cells t1 0) .ptr H nx fun t2 H1 Q=>
 J1 t2 (some 2) H1 fun t3=>
 Y2 Tryz.prog 27 [t3] H1 Q fun t4 H2 nx2=>
 U0 .neq t4 (.int .i64 0) fun t5=>
 K2 t5 (
 M0 t4 fun t6=>k t6 H2 nx2) (
 V4 (fun t7=>
 U0 .lss a1 (.int .i64 0) fun t9=>
 K3 false t9 (
 B4 t2 0 fun a5=>
 J1 a5 none H2 fun U=>
 U0 .gtr a1 U fun a4=>
 t7 [a4] H2 nx2) (
 t7 [(.bool true)] H2 nx2)) (fun t8 H3 E=>
 K2 (t8.getD 0 undef) (
 M0 (.int .i64 3) fun a3=>k a3 H3 E) (
 J1 t2 (some 2) H3 fun O=>
 Y2 Tryz.prog 28 [O] H3 E fun V H4 J=>
 wUn .not V fun Z=>
 K2 Z (
 M0 (.int .i64 9) fun W=>k W H4 J) (
 M0 (.int .i64 0) fun a2=>k a2 H4 J))))
theorem spec11(h:F11 a0 a1 H nx k):Q2 Tryz.prog 11 [a0,a1] H nx k:=
 E2 mixed J2 22 5 d11 [(.s 4,none)] (by kernel_rfl) (by kernel_rfl) (by simp) (by kernel_rfl) h
def d25:D:=X5 Tryz.prog 25 [(6,[25])] [[6,29],[54]] [.one (.tst (.one .nil) (.one .nil))]
def F25(a0 a1:Value)(H:Y0)(nx:Nat)(k:EP):Prop:=
 E5 a0 fun t1=>J3 (.cells t1 0) .ptr H nx fun t2 H1 b3=>
 J1 t2 (some 2) H1 fun t3=>
 Y2 Tryz.prog 27 [t3] H1 b3 fun t4 H2 nx2=>
 U0 .neq t4 (.int .i64 0) fun t5=>
 K2 t5 (
 M0 t4 fun t6=>k t6 H2 nx2) (
 V4 (fun t7=>
 U0 .lss a1 (.int .i64 0) fun t9=>
 K3 false t9 (
 B4 t2 0 fun bt=>
 J1 bt none H2 fun b5=>
 U0 .gtr a1 b5 fun au=>
 t7 [au] H2 nx2) (
 t7 [(.bool true)] H2 nx2)) (fun t8 H3 Z=>
 K2 (t8.getD 0 undef) (
 M0 (.int .i64 3) fun bg=>k bg H3 Z) (
 B4 t2 1 fun av=>
 J1 av none H3 fun a4=>
 R4 a4 0 H3 fun bd=>
 G3 (fun bc E H4 J=>
 U0 .lss (E.getD 1 undef) bd fun al=>
 K2 al (
 M3 a4 (E.getD 1 undef) none 1 fun bk=>
 J1 bk none H4 fun ad=>
 U0 .or (E.getD 0 undef) ad fun bf=>
 U0 .add (E.getD 1 undef) (.int .i64 1) fun ao=>
 bc [bf,ao] H4 J) (
 B4 t2 0 fun aa=>
 J1 aa none H4 fun aq=>
 U0 .shl (.int .u32 1) aq fun b4=>
 U0 .sub b4 (.int .u32 1) fun a3=>
 U0 .neq (E.getD 0 undef) a3 fun ab=>
 K2 ab (
 M0 (.int .i64 9) fun ax=>k ax H4 J) (
 M2 (J+9) fun a9=>
 J1 t2 (some 2) H4 fun W=>
 U0 .shl (.int .u32 1) a1 fun an=>
 U0 .sub an (.int .u32 1) fun ae=>
 U0 .andNot a3 ae fun ak=>
 Y2 Tryz.prog 43 [W,ak] H4 a9 fun ag H6 ac=>
 wNm J 7 .ptr fun a5=>
 hsK H6 (J+7) (some (.cells [.int .i64 0,.slice none 0 0] 0)) fun H7=>D5 a5 ag 2 H7 fun H8=>
 (((((True)/\((True)/\((J1 t2 (some 2) H4 fun bo=>bo=W)/\True)))/\True))/\(
 J1 a5 (some 2) H8 fun ah=>
 Y2 Tryz.prog 42 [ah] H8 ac fun a6 H9 b8=>
 R4 a6 0 H9 fun aw=>
 G3 (fun a8 U V O=>
 U0 .lss (U.getD 0 undef) aw fun az=>
 K2 az (
 M3 a6 (U.getD 0 undef) none 1 fun bh=>
 J1 bh none V fun ap=>
 Y2 Tryz.prog 44 [ap] V O fun a7 a2 Q=>
 U0 .gtr a7 (.int .i64 8) fun ay=>
 K2 ay (
 M0 (.int .i64 12) fun ai=>k ai a2 Q) (
 U0 .add (U.getD 0 undef) (.int .i64 1) fun ba=>
 a8 [ba] a2 Q)) (
 M0 (.int .i64 0) fun aj=>k aj V O)) [(.int .i64 0)] H9 b8))\/False))) [(.int .u32 0),(.int .i64 0)] H3 Z)))
theorem spec25(h:F25 a0 a1 H nx k):Q2 Tryz.prog 25 [a0,a1] H nx k:=
 E2 mixed J2 62 6 d25 [(.s 4,none)] (by kernel_rfl) (by kernel_rfl) (by simp) (by kernel_rfl) h
def d14:D:=X5 Tryz.prog 14 [] [[31]] []
def F14(a0 a1:Value)(H:Y0)(nx:Nat)(k:EP):Prop:=
 E5 a0 fun t1=>J3 (.cells t1 0) .ptr H nx fun t2 H1 ag=>
 J1 t2 (some 2) H1 fun t3=>
 Y2 Tryz.prog 33 [t3,a1] H1 ag fun t4 H2 nx2=>
 U0 .neq t4 (.int .i64 0) fun t5=>
 K2 t5 (
 M0 (.tuple ⟨[(.slice none 0 0),(.bool false)]⟩) fun t6=>k t6 H2 nx2) (
 J1 t2 (some 2) H2 fun t7=>
 Y2 Tryz.prog 34 [t7] H2 nx2 fun t8 H3 a8=>
 J3 (.cells [.int .u32 0,.int .u32 0,.int .u32 0,.int .u32 0,.int .u32 0,.int .u32 0,.int .u32 0,.int .u32 0,.int .u32 0,.int .u32 0,.int .u32 0,.int .u32 0,.int .u32 0,.int .u32 0,.int .u32 0,.int .u32 0,.int .u32 0,.int .u32 0,.int .u32 0,.int .u32 0,.int .u32 0,.int .u32 0,.int .u32 0,.int .u32 0,.int .u32 0,.int .u32 0,.int .u32 0,.int .u32 0,.int .u32 0,.int .u32 0,.int .u32 0,.int .u32 0] 0) .ptr H3 a8 fun t9 H4 aa=>
 D5 t9 t8 32 H4 fun H5=>
 B4 t2 0 fun ao=>
 J1 ao none H5 fun ai=>
 Y2 Tryz.prog 35 [ai] H5 aa fun ad H6 W=>
 Y2 Tryz.prog 35 [a1] H6 W fun an H7 a5=>
 U0 .andNot ad an fun U=>
 J1 t9 (some 32) H7 fun ah=>
 Y2 Tryz.prog 36 [ah,U,a1] H7 a5 fun V H8 a4=>
 G9 V 0 fun ak=>
 G9 V 1 fun Q=>
 G3 (fun a6 E H9 J=>
 U0 .lss (E.getD 0 undef) a1 fun a3=>
 K2 a3 (
 wLk (.int .i64) (.int .u32 0) Q (E.getD 0 undef) false H9 fun al=>
 U0 .neq al (.int .u32 0) fun a9=>
 K2 a9 (
 J1 t9 (some 32) H9 fun Z=>
 wLk (.int .i64) (.int .u32 0) Q (E.getD 0 undef) false H9 fun ab=>
 Y2 Tryz.prog 37 [Z,U,(E.getD 0 undef),ab,ak] H9 J fun aj a7 O=>
 M0 (.tuple ⟨[aj,(.bool true)]⟩) fun ac=>k ac a7 O) (
 U0 .add (E.getD 0 undef) (.int .i64 1) fun a2=>
 a6 [a2] H9 J)) (
 M0 (.tuple ⟨[(.slice none 0 0),(.bool false)]⟩) fun ae=>k ae H9 J)) [(.int .i64 0)] H8 a4)
theorem spec14(h:F14 a0 a1 H nx k):Q2 Tryz.prog 14 [a0,a1] H nx k:=
 E2 mixed J2 47 6 d14 [(.s 4,none),(.s 5,none)] (by kernel_rfl) (by kernel_rfl) (by simp) (by kernel_rfl) h
def d3:D:=X5 Tryz.prog 3 [] [] [.one (.tst (.one (.tst (.one (.tst (.one .nil) (.one .nil))) (.one (.one (.one .nil))))) (.one (.one (.one (.one (.one .nil)))))),.one (.tst (.one (.tst (.one .nil) (.one .nil))) (.one (.one (.one .nil)))),.one (.tst (.one (.tst (.one .nil) (.one .nil))) (.one (.one (.one .nil)))),.one (.tst (.one (.tst (.one .nil) (.one .nil))) (.one (.one (.one .nil)))),.one (.tst (.one (.tst (.one (.tst (.one .nil) (.one .nil))) (.one (.one (.one .nil))))) (.one (.one (.one (.one (.one .nil))))))]
end Go.Proofs.YtoiioigihocgbaaGreatDoor

namespace Go.Proofs.YtoiioigihocgbaaGreatDoor
open Go.Clo
set_option maxRecDepth 100000
def Y64:Code->Code
 | .seq a _=>a
 | c=>c
def J62:Code->Code
 | .seq _ b=>b
 | c=>c
def cw:Code:=Tryz.f37.body.getD .skip
def q0:Code:=Y64 cw
def q1:Code:=Y64 (J62 cw)
def q2:Code:=Y64 (J62 (J62 cw))
def mkC(c:Code)(ls:List (List Nat)):D:=match R2 Tryz.prog 58 c with
 | some c=>V12 c 0 [] ls [] fun d _ _ _ _=>d
 | none => .skip
def b0:D:=mkC q0 []
def b1:D:=mkC q1 []
def b2:D:=mkC q2 [[11,20]]
theorem c0:R2 Tryz.prog 58 q0=some b0.erase:=by kernel_rfl
theorem c1 : R2 Tryz.prog 58 q1 = some b1.erase := by kernel_rfl
theorem c2 : R2 Tryz.prog 58 q2 = some b2.erase := by kernel_rfl
theorem o0:b0.ok 58 6=true:=by kernel_rfl
theorem o1 : b1.ok 58 6 = true := by kernel_rfl
theorem o2 : b2.ok 58 6 = true := by kernel_rfl
def F37(a0 a1 a2 a3 a4:Value)(H:Y0)(nx:Nat)(k:EP):Prop:=
 E5 a0 fun t1=>J3 (.cells t1 0) .ptr H nx fun t2 H1 a9=>
 K6 1 1 [.int .u32 0] [(0,a3)] fun t3=>J3 (.cells t3 0) (.slice 1 1) H1 a9 fun t4 H2 nx2=>
 U0 .sub a4 (.int .i64 1) fun t5=>
 G3 (fun t6 t7 H3 E=>
 U0 .lss (t7.getD 1 undef) t5 fun t8=>
 K2 t8 (
 M2 (E+14) fun a7=>
 J1 t2 (some 32) H3 fun t9=>
 R4 (t7.getD 0 undef) 0 H3 fun Q=>
 U0 .sub Q (.int .i64 1) fun ab=>
 M3 (t7.getD 0 undef) ab none 1 fun J=>
 J1 J none H3 fun O=>
 Y2 Tryz.prog 71 [t9,O] H3 a7 fun a8 H5 U=>
 U0 .and a8 a1 fun aa=>
 K6 1 1 [.int .u32 0] [(0,aa)] fun ac=>wNm E 11 (.slice 1 1) fun ad=>
 hsK H5 (E+11) (some (.cells ac 0)) fun H6=>B5 (t7.getD 0 undef) ad 1 4 H6 U fun a5 H7 W=>
 (((((True)/\((True)/\((J1 J none H3 fun V=>V=O)/\True)))/\(((True)/\((True)/\((R4 (t7.getD 0 undef) 0 H3 fun ag=>ag=Q)/\True)))/\(((True)/\((True)/\((J1 t2 (some 32) H3 fun Z=>Z=t9)/\True)))/\True))))/\(
 U0 .add (t7.getD 1 undef) (.int .i64 1) fun ae=>
 t6 [a5,ae] H7 W))\/False) (
 M0 (.tuple ⟨[t2,(t7.getD 0 undef),a2]⟩) fun a6=>k a6 H3 E)) [t4,(.int .i64 0)] H2 nx2
def R61:List (X × Option (Option Nat)):=[(.s 5,none),(.s 11,none),(.s 2,none)]
theorem e37 (a0 a1 a2 a3 a4:Value) (H:Y0) (nx:Nat) (k:EP):J27 6 [a0,a1,a2,a3,a4] 0 .leaf (fun T=>wD Tryz.prog 6 b0 T H nx (fun T H nx=>wD Tryz.prog 6 b1 T H nx (fun T H nx=>wD Tryz.prog 6 b2 T H nx (G14 Tryz.prog R61 False k) (fun _ _ _ _=>False) (fun _ _ _=>False)) (fun _ _ _ _=>False) (fun _ _ _=>False)) (fun _ _ _ _=>False) (fun _ _ _=>False))=F37 a0 a1 a2 a3 a4 H nx k:=by kernel_rfl
end Go.Proofs.YtoiioigihocgbaaGreatDoor



namespace Go.Clo
theorem B47 {P:Program} {n d:Nat} (hm:P.follows .mixedOrders=true) (hn:n<=2^d) {G6:Code} {c:D} (hc:R2 P n G6=some c.erase) (hok:c.ok n d=true) {T:K0 Value} {H:Y0} {nx:Nat} (hw:WF d T) {k:K Prop}
  (h:wD P d c T H nx k (fun _ _ _ _=>False) (fun _ _ _=>False)):∃ T' H' nx',k T' H' nx'/\WF d T'/\R47 P d n G6 T H nx .n T' H' nx':=by
 obtain⟨o,T',H',nx',h1,hw',_,hok1⟩:=W45 hm hn G6 c hc hok T H nx k _ _ hw h
 cases o with
 | n=>exact⟨T',H',nx',h1,hw',hok1⟩
 | x id=>exact h1.elim
 | r=>exact h1.elim
end Go.Clo
namespace Go.Proofs.YtoiioigihocgbaaGreatDoor
open Go.Clo
section
variable {aL:List Nat} {N:Nat} (hN:N<=6) (hL:NbL aL N)
include hN hL
theorem Z35 {b:Nat} (hb:b<4294967296) (H:Y0) (nx:Nat):Q2 Tryz.prog 71 [.agg ⟨C0 aL⟩,.int .u32 (b:Int)] H nx fun r H' nx'=>r = .int .u32 (Q4 aL b 32:Int)/\D0 H nx H' nx':=by
 have hp64:2^N<=64:=Nat.pow_le_pow_right (n:=2) (by omega) hN
 refine spec71 ?_
 unfold F71
 have hE1:D0 H nx (hs H nx (some (.cells (C0 aL) 0))) (nx+1):=(D0.refl H nx).new _ (Nat.le_refl _) (by omega)
 have g1:J0 (hs H nx (some (.cells (C0 aL) 0))) nx=some (.cells (C0 aL) 0):=E0 _ _ _
 simp (disch:=first|omega|assumption|exact G0 (by assumption)|exact V0 (by assumption)|exact X0 (by omega)|fail) only[W0,Q0.val,W5 aL]
 generalize hs H nx (some (.cells (C0 aL) 0))=H1 at *
 refine B1 (m:=32) (fun q L H' nx'=>∃ (j:Nat),q+j=32/\L=[.int .u32 (Q4 aL b j:Int),.int .i64 (j:Int)]/\H1=H'/\nx+1=nx') ?_ ⟨0,by omega,rfl,rfl,rfl⟩
 rintro q ih7 L _ _ ⟨j,hq,rfl,rfl,rfl⟩ hih7
 have hnl:=Z14 (b:=b) hL.lt
 by_cases hj:j<32
 case neg=>
  obtain rfl:j=32:=by omega
  simp (disch:=first|omega|assumption|exact G0 (by assumption)|exact V0 (by assumption)|exact X0 (by omega)|fail) only[W0]
  exact hE1
 have hj':(j:Int)<32:=by omega
 obtain⟨x,hx,hx2,hxD⟩:=hL.at (u:=j) hj
 have hx32:x<4294967296:=by omega
 have hnj:=hnl j
 have hn32:Q4 aL b j<4294967296:=by omega
 have gx:=Q3 hx
 have hstep:Q4 aL b (j+1)=if b.testBit j=true then Q4 aL b j ||| aL.getD j 0 else Q4 aL b j:=rfl
 rw[hxD] at hstep
 cases hbj:b.testBit j with
 | false=>
  rw[hbj,if_neg (by simp)] at hstep
  simp (disch:=first|omega|assumption|exact G0 (by assumption)|exact V0 (by assumption)|exact X0 (by omega)|fail) only[W0,hj',R1,hbj]
  exact hih7 (q-1) _ _ _ (by omega) ⟨j+1,by omega,by rw[hstep];try simp,rfl,rfl⟩
 | true=>
  rw[hbj,if_pos rfl] at hstep
  simp (disch:=first|omega|assumption|exact G0 (by assumption)|exact V0 (by assumption)|exact X0 (by omega)|fail) only[W0,hj',R1,hbj,g1,gx]
  exact hih7 (q-1) _ _ _ (by omega) ⟨j+1,by omega,by rw[hstep];try simp,rfl,rfl⟩
def C12(aL:List Nat)(inn last len:Nat):List Nat:=(List.range len).map (U5 aL inn last)
omit hN hL in
theorem G45(inn last len:Nat):(C12 aL inn last len).length=len:=by simp[C12]
omit hN hL in
theorem G44{inn last len i:Nat}(h:i<len):(C12 aL inn last len)[i]? = some (U5 aL inn last i):=by simp[C12,h]
omit hN hL in
theorem J57(inn last len:Nat):C12 aL inn last (len+1)=C12 aL inn last len++[U5 aL inn last len]:=by simp[C12,List.range_succ]
set_option maxRecDepth 20000 in
theorem J59{inn last first len:Nat}(hi:inn<2^N)(W:last<2^N)(hf:first<100)(h1:1<=len)(aa:len<=100)(H:Y0)(nx:Nat):
  F37 (.agg ⟨C0 aL⟩) (.int .u32 (inn:Int)) (.int .i64 (first:Int)) (.int .u32 (last:Int)) (.int .i64 (len:Int)) H nx fun v H' nx'=>
   ∃ S s,v = .tuple ⟨[.pointer (some ⟨nx,0,none⟩),.slice (some ⟨S,0,none⟩) len len,.int .i64 (first:Int)]⟩/\J0 H' nx=some (.cells (C0 aL) 0)/\J0 H' S=some (.cells (C0 (C12 aL inn last len)) s)/\nx<nx'/\S<nx':=by
 have a9:2^N<=64:=Nat.pow_le_pow_right (n:=2) (by omega) hN;have a7:=M44 hN hL;unfold F37;have O:∀(x:Int) k,K6 1 1 [.int .u32 0] [(0,.int .u32 x)] k=k [.int .u32 x]:=fun x k=>rfl
 simp(disch:=first|omega|assumption)only[W0,Q0.val,W5 aL,O];have g1:J0 (hs (hs H nx (some (.cells (C0 aL) 0))) (nx+1) (some (.cells [.int .u32 (last:Int)] 0))) nx=some (.cells (C0 aL) 0):=by rw[Z1 _ (by omega),E0]
 have g2:J0 (hs (hs H nx (some (.cells (C0 aL) 0))) (nx+1) (some (.cells [.int .u32 (last:Int)] 0))) (nx+1)=some (.cells [.int .u32 (last:Int)] 0):=E0 _ _ _;generalize hs (hs H nx (some (.cells (C0 aL) 0))) (nx+1) (some (.cells [.int .u32 (last:Int)] 0))=H1 at *
 refine B1 (m:=len-1) (fun m L' H' nx'=>∃(i S s:Nat),m+i+1=len/\L'=[.slice (some ⟨S,0,none⟩) (i+1) (i+1),.int .i64 (i:Int)]/\J0 H' nx=some (.cells (C0 aL) 0)/\J0 H' S=some (.cells (C0 (C12 aL inn last (i+1))) s)/\(s=0\/s=1)/\nx<nx'/\S<nx'/\S≠nx) ?_
  ⟨0,nx+1,0,by omega,rfl,g1,by rw[g2];rfl,.inl rfl,by omega,by omega,by omega⟩
 rintro m ih L1 H2 n2 ⟨i,S,s,hm,rfl,k1,k2,hs',a1,a2,ad⟩ Q;have a6:=G45 (aL:=aL) inn last (i+1)
 by_cases ac:i+1<len
 case neg=>
  obtain rfl:len=i+1:=by omega
  have E:¬ (i:Int)<((i+1:Nat):Int)-1:=by omega
  simp(disch:=first|omega|assumption)only[W0,E];exact⟨S,s,rfl,k1,k2,a1,a2⟩
 have E:(i:Int)<(len:Int)-1:=by omega
 have q0:=Q3 (G44 (aL:=aL) (inn:=inn) (last:=last) (show i<i+1 by omega));have e1:(((i+1:Nat):Int)-1).toNat=i:=by omega
 have ae:U5 aL inn last i<2^N:=R42 hi W i;have ab:=Z14 (b:=U5 aL inn last i) hL.lt 32;have ah:Q4 aL (U5 aL inn last i) 32<4294967296:=by omega
 have ag:inn<4294967296:=by omega
 simp(config:={ maxSteps:=2000000 }) (disch:=first|omega|assumption)only[W0,E,k1,k2,q0,e1,M18 a7];refine R0 (Z35 hN hL (by omega) H2 (n2+14)) ?_;rintro _ H3 n3 ⟨rfl,h3⟩;have a8:=h3.le;have Z:=(h3.get nx (by omega)).trans k1;have V:=(h3.get S (by omega)).trans k2;simp(config:={ maxSteps:=2000000 }) (disch:=first|omega|assumption)only[W0,O];have es:Q4 aL (U5 aL inn last i) 32 &&& inn=U5 aL inn last (i+1):=rfl;rw[es];have g5:J0 (hs H3 (n2+11) (some (.cells [.int .u32 (U5 aL inn last (i+1):Int)] 0))) (n2+11)=some (.cells [.int .u32 (U5 aL inn last (i+1):Int)] 0):=E0 _ _ _;have U:J0 (hs H3 (n2+11) (some (.cells [.int .u32 (U5 aL inn last (i+1):Int)] 0))) nx=some (.cells (C0 aL) 0):=by rw[Z1 _ (by omega)];exact Z
 have a0:J0 (hs H3 (n2+11) (some (.cells [.int .u32 (U5 aL inn last (i+1):Int)] 0))) S=some (.cells (C0 (C12 aL inn last (i+1))) s):=by rw[Z1 _ (by omega)];exact V
 generalize hs H3 (n2+11) (some (.cells [.int .u32 (U5 aL inn last (i+1):Int)] 0))=H5 at *
 have J:(C0 (C12 aL inn last (i+1))).length=i+1:=by rw[E1,a6]
 have a4:∀ kk:EP,(∀ H',J0 H' n3=some (.cells (C0 (C12 aL inn last (i+1+1))) 1)->(∀ j,j≠n3->j≠S->J0 H' j=J0 H5 j)->kk (.slice (some ⟨n3,0,none⟩) (i+1+1) (i+1+1)) H' (n3+1)) ->
   B5 (.slice (some ⟨S,0,none⟩) (i+1) (i+1)) (.slice (some ⟨n2+11,0,none⟩) 1 1) 1 4 H5 n3 kk:=fun kk a5=>by
  have:=Q64 (nx:=n3) (k:=kk) (bytes:=4) a0 hs' (by omega) (J9 (cap:=1) g5 rfl (by omega)) rfl (by omega) (by omega) (fun H' q1 q2=>by
   rw[J];exact a5 H' (by rw[q1,J57 inn last (i+1),Y22];rfl) q2)
  rwa [J] at this
 refine a4 _ ?_;intro H7 g7 f7;have a3:=(f7 nx (by omega) (by omega)).trans U;exact Q (m-1) _ _ _ (by omega) ⟨i+1,n3,1,by omega,by simp,a3,g7,.inr rfl,by omega,by omega,by omega⟩
end
end Go.Proofs.YtoiioigihocgbaaGreatDoor
