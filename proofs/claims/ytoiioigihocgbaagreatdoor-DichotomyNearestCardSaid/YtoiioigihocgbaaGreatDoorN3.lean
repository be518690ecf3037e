/-
  The closed executor: how its heap of names stands to the model's world;basic lemmas.
-/
import Derived.Test.YtoiioigihocgbaaGreatDoorN1
import Derived.Test.YtoiioigihocgbaaGreatDoorN2
import Derived.Below
import Derived.Laws.CopyRow
import Derived.ChangeKeysEq
set_option linter.all false
noncomputable section
namespace Go.Clo
variable {H:Y0} {b:C1} {l l':List Value} {nx:Nat} {v v' z:Value} {w w':World} {α β:Type}
def tg(T:K0 α)(t:Nat):Option α:=tgK T t none some
def ts(d:Nat)(T:K0 α)(i:Nat)(a:α):K0 α:=tsK d T i a id
def WF{α:Type}:Nat->K0 α->Prop
 | _,.leaf=>True
 | 0,.tip _=>True
 | d+1,.node l r=>WF d l/\WF d r
 | _,_=>False
theorem Y32(l r:K0 α)(t:Nat)(z:β)(k:α->β):
  tgK (.node l r) t z k=if t%2=0 then tgK l (t/2) z k else tgK r (t/2) z k:=by
 show @Nat.rec (fun _=>β) (tgK l (Nat.div t 2) z k) (fun _ _=>tgK r (Nat.div t 2) z k) (Nat.mod t 2)=_;show @Nat.rec (fun _=>β) (tgK l (t/2) z k) (fun _ _=>tgK r (t/2) z k) (t%2)=_;rcases Nat.mod_two_eq_zero_or_one t with h | h<;>rw[h]<;>rfl
theorem J11(T:K0 α):∀(t:Nat) (z:β) (k:α->β),tgK T t z k=(tg T t).elim z k:=by
 induction T with
 | leaf=>intros;rfl
 | tip a=>intros;rfl
 | node l r E J=>
  intro t z k;unfold tg;rw[Y32,Y32]
  split
  .exact E _ _ _
  .exact J _ _ _
theorem G36(l r:K0 α)(t:Nat):tg (.node l r) t=if t%2=0 then tg l (t/2) else tg r (t/2):=Y32 l r t none some
@[simp] theorem K71 {α:Type} (t:Nat):tg (.leaf:K0 α) t=none:=rfl
@[simp] theorem J71 {α:Type} (a:α) (t:Nat):tg (.tip a) t=some a:=rfl
theorem X31(d:Nat)(T:K0 α)(i:Nat)(a:α)(k:K0 α->β):
  tsK (d+1) T i a k=match T with
   | .node l r=>if i%2=0 then tsK d l (i/2) a fun l=>k (.node l r) else tsK d r (i/2) a fun r=>k (.node l r)
   | _=>if i%2=0 then tsK d .leaf (i/2) a fun l=>k (.node l .leaf) else tsK d .leaf (i/2) a fun r=>k (.node .leaf r):=by
 cases T with
 | leaf=>
  show @Nat.rec (fun _=>β) (tsK d .leaf (i/2) a fun l=>k (.node l .leaf)) (fun _ _=>tsK d .leaf (i/2) a fun r=>k (.node .leaf r)) (i%2)=_;rcases Nat.mod_two_eq_zero_or_one i with h | h<;>rw[h]<;>rfl
 | tip b=>
  show @Nat.rec (fun _=>β) (tsK d .leaf (i/2) a fun l=>k (.node l .leaf)) (fun _ _=>tsK d .leaf (i/2) a fun r=>k (.node .leaf r)) (i%2)=_;rcases Nat.mod_two_eq_zero_or_one i with h | h<;>rw[h]<;>rfl
 | node l r=>
  show @Nat.rec (fun _=>β) (tsK d l (i/2) a fun l=>k (.node l r)) (fun _ _=>tsK d r (i/2) a fun r=>k (.node l r)) (i%2)=_;rcases Nat.mod_two_eq_zero_or_one i with h | h<;>rw[h]<;>rfl
theorem Z15(d:Nat):∀ {β:Type} (T:K0 α) (i:Nat) (a:α) (k:K0 α->β),tsK d T i a k=k (ts d T i a):=by
 induction d with
 | zero=>intros;rfl
 | succ d ih=>
  intro β T i a k;unfold ts;rw[X31,X31]
  cases T<;>(dsimp only;split<;>rw[ih,ih]<;>rfl)
theorem R36(d:Nat)(T:K0 α)(i:Nat)(a:α):
  ts (d+1) T i a=match T with
   | .node l r=>if i%2=0 then .node (ts d l (i/2) a) r else .node l (ts d r (i/2) a)
   | _=>if i%2=0 then .node (ts d .leaf (i/2) a) .leaf else .node .leaf (ts d .leaf (i/2) a):=by
 unfold ts;rw[X31]
 cases T<;>(dsimp only;split<;>rw[Z15]<;>rfl)
theorem U16(d:Nat):∀(T:K0 α) (i:Nat) (a:α),WF d T->WF d (ts d T i a):=by
 induction d with
 | zero=>intros;trivial
 | succ d ih=>
  intro T i a h;rw[R36]
  cases T with
  | leaf=>dsimp only;split<;>simp[WF,ih _ _ _ (show WF d (.leaf:K0 α) by cases d<;>trivial)]<;>(cases d<;>trivial)
  | tip b=>exact h.elim
  | node l r=>dsimp only;split<;>simp only[WF]<;>simp[WF] at h<;>simp[h,ih]
theorem K21 (d : Nat) : ∀ (T : K0 α) (i j : Nat) (a : α), WF d T -> i < 2 ^ d -> j < 2 ^ d ->
    tg (ts d T i a) j = if j = i then some a else tg T j := by
  induction d with
  | zero =>
    intro T i j a _ hi hj
    have : j = i := by simp at hi hj; omega
    simp [this]; rfl
  | succ d ih =>
    intro T i j a h hi hj
    have hi2 : i / 2 < 2 ^ d := by rw [Nat.pow_succ] at hi; omega
    have hj2 : j / 2 < 2 ^ d := by rw [Nat.pow_succ] at hj; omega
    have wl : WF d (.leaf : K0 α) := by cases d <;> trivial
    rw [R36]
    cases T with
    | leaf =>
      dsimp only
      by_cases hp : i % 2 = 0 <;> by_cases hq : j % 2 = 0 <;> simp only [hp, hq, if_true, if_false, G36]
      · rw [ih _ _ _ _ wl hi2 hj2]
        by_cases e : j = i
        · simp [e]
        · have : j / 2 ≠ i / 2 := by omega
          simp [e, this]
      · have e : j ≠ i := by omega
        simp [e]
      · have e : j ≠ i := by omega
        simp [e]
      · rw [ih _ _ _ _ wl hi2 hj2]
        by_cases e : j = i
        · simp [e]
        · have : j / 2 ≠ i / 2 := by omega
          simp [e, this]
    | tip b => exact h.elim
    | node l r =>
      obtain ⟨hl, hr⟩ := h
      dsimp only
      by_cases hp : i % 2 = 0 <;> by_cases hq : j % 2 = 0 <;> simp only [hp, hq, if_true, if_false, G36]
      · rw [ih _ _ _ _ hl hi2 hj2]
        by_cases e : j = i
        · simp [e]
        · have : j / 2 ≠ i / 2 := by omega
          simp [e, this]
      · have e : j ≠ i := by omega
        simp [e]
      · have e : j ≠ i := by omega
        simp [e]
      · rw [ih _ _ _ _ hr hi2 hj2]
        by_cases e : j = i
        · simp [e]
        · have : j / 2 ≠ i / 2 := by omega
          simp [e, this]
theorem G1{β:Type}(n:Nat)(f:Nat->β):M2 n f=f n:=by cases n<;>rfl
theorem J21(n:Int)(f:Int->β):Q16 n f=f n:=by cases n<;>simp[Q16,G1]
theorem B21(b:Bool)(f:Bool->β):V13 b f=f b:=by cases b<;>rfl
theorem J60(a:Option Addr)(f:Option Addr->β):E35 a f=f a:=by
 cases a with
 | none=>rfl
 | some a=>obtain⟨b,o,s⟩:=a;cases s<;>simp[E35,G1]
theorem E7(v:Value)(f:Value->β):X13 v f=f v:=by
 cases v<;>simp[X13,B21,J21,J60,G1]
 case map r=>cases r<;>simp[]
theorem C20(l:List Value):∀(f:List Value->β),M22 l f=f l:=by
 induction l with
 | nil=>intro f;rfl
 | cons v l ih=>intro f;simp[M22,E7,ih]
theorem Y5{β:Type}(v:Value)(f:Value->β):M0 v f=f v:=by
 cases v<;>simp[M0,E7,C20]
theorem V2(l:List α):∀(f:List α->β),spine l f=f l:=by
 induction l with
 | nil=>intro f;rfl
 | cons v l ih=>intro f;simp[spine,ih]
theorem Q8{α:Type}:∀(l:List α) (n:Nat),nth l n=l[n]?
 | [],n=>by cases n<;>rfl
 | a :: l,0=>rfl
 | a :: l,n+1=>by simp[nth,Q8 l n]
theorem Z12(l:List α):∀(n:Nat) (z:β) (k:α->β),C30 l n z k=(l[n]?).elim z k:=by
 induction l with
 | nil=>intro n z k;cases n<;>rfl
 | cons a l ih=>
  intro n z k
  cases n with
  | zero=>rfl
  | succ n=>show C30 l n z k=_;rw[ih];simp
theorem E14(b:Bool)(x y:β):ifK b x y=if b then x else y:=by cases b<;>rfl
structure J7 where
 blk:Nat
 base:Nat
 sz:Nat
 esz:Nat
 rsz:Nat
abbrev FM:=Nat->Option J7
def FM.le(F F':FM):Prop:=∀ i t,F i=some t->F' i=some t
abbrev C34:Value := .chan none
inductive VR (F:FM):Value->Value->Prop
 | any (v:Value):VR F C34 v
 | bool (b:Bool):VR F (.bool b) (.bool b)
 | int (k:IntKind) (n:Int):VR F (.int k n) (.int k n)
 | float (k:FloatKind) (n:Nat):VR F (.float k n) (.float k n)
 | complex (k:FloatKind) (n m:Nat):VR F (.complex k n m) (.complex k n m)
 | string (s:ByteArray):VR F (.string s) (.string s)
 | ptrN:VR F (.pointer none) (.pointer none)
 | ptr {b o:Nat} {t:J7} (h:F b=some t):VR F (.pointer (some ⟨b,o,none⟩)) (.pointer (some ⟨t.blk,t.base+o,none⟩))
 | sliceN (n c:Nat):VR F (.slice none n c) (.slice none n c)
 | slice {b o n c c':Nat} {t:J7} (h:F b=some t) (hc:c'=c\/(0<t.esz/\c<=c'/\o+c*t.esz=t.sz/\t.base+o+c'*t.esz<=t.rsz/\c'<=9223372036854775807)):
   VR F (.slice (some ⟨b,o,none⟩) n c) (.slice (some ⟨t.blk,t.base+o,none⟩) n c')
 | sliceW (s:Nat) (a:Addr):VR F (.slice (some ⟨0,0,some s⟩) 0 0) (.slice (some a) 0 0)
 | mapN:VR F (.map none) (.map none)
 | map {r:Nat} {t:J7} (h:F r=some t):VR F (.map (some r)) (.map (some t.blk))
 | func (fn:Fn) {x x' y y':Array Value} (h1:x.size=x'.size) (h2:∀(i:Nat) (v v':Value),x[i]? = some v->x'[i]? = some v'->VR F v v')
   (h3:y.size=y'.size) (h4:∀(i:Nat) (v v':Value),y[i]? = some v->y'[i]? = some v'->VR F v v'):VR F (.func fn x y) (.func fn x' y')
 | nilFunc:VR F .nilFunc .nilFunc
 | iface (t:TypeId) {v v':Value} (h:VR F v v'):VR F (.iface t v) (.iface t v')
 | nilIface:VR F .nilIface .nilIface
 | agg {x x':Array Value} (h1:x.size=x'.size) (h2:∀(i:Nat) (v v':Value),x[i]? = some v->x'[i]? = some v'->VR F v v'):VR F (.agg x) (.agg x')
 | tuple {x x':Array Value} (h1:x.size=x'.size) (h2:∀(i:Nat) (v v':Value),x[i]? = some v->x'[i]? = some v'->VR F v v'):VR F (.tuple x) (.tuple x')
theorem VR.mono{F F':FM}(hF:F.le F')(h:VR F v v'):VR F' v v':=by
 induction h with
 | any v=>exact .any v
 | bool b=>exact .bool b
 | int k n=>exact .int k n
 | float k n=>exact .float k n
 | complex k n m=>exact .complex k n m
 | string s=>exact .string s
 | ptrN=>exact .ptrN
 | ptr h=>exact .ptr (hF _ _ h)
 | sliceN n c=>exact .sliceN n c
 | slice h hc=>exact .slice (hF _ _ h) hc
 | sliceW s a=>exact .sliceW s a
 | mapN=>exact .mapN
 | map h=>exact .map (hF _ _ h)
 | func fn h1 _ h3 _ i2 i4=>exact .func fn h1 i2 h3 i4
 | nilFunc=>exact .nilFunc
 | iface t _ ih=>exact .iface t ih
 | nilIface=>exact .nilIface
 | agg h1 _ ih=>exact .agg h1 ih
 | tuple h1 _ ih=>exact .tuple h1 ih
inductive VL (F:FM):List Value->List Value->Prop
 | nil:VL F [] []
 | cons {v v':Value} {l l':List Value} (h:VR F v v') (t:VL F l l'):VL F (v :: l) (v' :: l')
theorem VL.length{F:FM}{l l':List Value}(h:VL F l l'):l.length=l'.length:=by
 induction h with
 | nil=>rfl
 | cons _ _ ih=>simp[ih]
theorem VL.get{F:FM}(h:VL F l l'):∀(i:Nat) (v v':Value),l[i]? = some v->l'[i]? = some v'->VR F v v':=by
 induction h with
 | nil=>intro i v v' h;simp at h
 | cons h _ ih=>
  intro i v v' h1 h2
  cases i with
  | zero=>simp at h1 h2;subst h1;subst h2;exact h
  | succ i=>exact ih i v v' (by simpa using h1) (by simpa using h2)
theorem VL.of{F:FM}:∀ {l l':List Value},l.length=l'.length->(∀(i:Nat) (v v':Value),l[i]? = some v->l'[i]? = some v'->VR F v v')->VL F l l'
 | [],[],_,_ => .nil
 | [],_ :: _,h,_=>by simp at h
 | _ :: _,[],h,_=>by simp at h
 | a :: l,a' :: l',h,g => .cons (g 0 a a' (by simp) (by simp)) (VL.of (by simpa using h) fun i v v' h1 h2=>g (i+1) v v' (by simpa using h1) (by simpa using h2))
theorem VL.some{F:FM}{l l':List Value}(h:VL F l l'){i:Nat}{v:Value}(hv:l[i]? = some v):∃ v',l'[i]? = some v'/\VR F v v':=by
 have hl:=h.length;have hi:i<l.length:=by
  rcases Nat.lt_or_ge i l.length with g | g
  .exact g
  .simp[List.getElem?_eq_none g] at hv
 exact⟨l'[i],by simp[<- hl,hi],h.get i v _ hv (by simp[<- hl,hi])⟩
theorem VL.append{F:FM}{m m':List Value}(h:VL F l l')(g:VL F m m'):VL F (l++m) (l'++m'):=by
 induction h with
 | nil=>exact g
 | cons h _ ih=>exact .cons h ih
theorem VL.take{F:FM}{l l':List Value}(h:VL F l l'):∀ n,VL F (l.take n) (l'.take n):=by
 induction h with
 | nil=>intro n;simp;exact .nil
 | cons h _ ih=>intro n;cases n with
  | zero=>exact .nil
  | succ n=>exact .cons h (ih n)
theorem VL.drop{F:FM}{l l':List Value}(h:VL F l l'):∀ n,VL F (l.drop n) (l'.drop n):=by
 induction h with
 | nil=>intro n;simp;exact .nil
 | cons h t ih=>intro n;cases n with
  | zero=>exact .cons h t
  | succ n=>exact ih n
theorem VL.mono{F F':FM}(hF:F.le F'){l l':List Value}(h:VL F l l'):VL F' l l':=by
 induction h with
 | nil=>exact .nil
 | cons h _ ih=>exact .cons (h.mono hF) ih
theorem VR.agg'{F:FM}(h:VL F l l'):VR F (.agg ⟨l⟩) (.agg ⟨l'⟩):=
 .agg (by simpa using h.length) (fun i v v' h1 h2=>h.get i v v' (by simpa using h1) (by simpa using h2))
theorem VR.tuple'{F:FM}(h:VL F l l'):VR F (.tuple ⟨l⟩) (.tuple ⟨l'⟩):=
 .tuple (by simpa using h.length) (fun i v v' h1 h2=>h.get i v v' (by simpa using h1) (by simpa using h2))
theorem VL.ofArr{F:FM}{x x':Array Value}(h1:x.size=x'.size)(h2:∀(i:Nat)(v v':Value),x[i]? = .some v->x'[i]? = .some v'->VR F v v'):VL F x.toList x'.toList:=
 VL.of (by simpa using h1) (fun i v v' a b=>h2 i v v' (by simpa using a) (by simpa using b))
theorem VR.cells{F:FM}{v v':Value}(h:VR F v v')(E:B22 v=true):VL F v.cells.toList v'.cells.toList:=by
 cases h with
 | any v=>cases E
 | agg h1 h2=>exact VL.ofArr h1 h2
 | bool b=>exact .cons (.bool b) .nil
 | int k n=>exact .cons (.int k n) .nil
 | float k n=>exact .cons (.float k n) .nil
 | complex k n m=>exact .cons (.complex k n m) .nil
 | string s=>exact .cons (.string s) .nil
 | ptrN=>exact .cons .ptrN .nil
 | ptr h=>exact .cons (.ptr h) .nil
 | sliceN n c=>exact .cons (.sliceN n c) .nil
 | slice h hc=>exact .cons (.slice h hc) .nil
 | sliceW s a=>exact .cons (.sliceW s a) .nil
 | mapN=>exact .cons .mapN .nil
 | map h=>exact .cons (.map h) .nil
 | func fn h1 h2 h3 h4=>exact .cons (.func fn h1 h2 h3 h4) .nil
 | nilFunc=>exact .cons .nilFunc .nil
 | iface t h=>exact .cons (.iface t h) .nil
 | nilIface=>exact .cons .nilIface .nil
 | tuple h1 h2=>exact .cons (.tuple h1 h2) .nil
theorem Z36(F:FM)(v:Value)(h:M4 v=true):VR F v v:=by
 cases v with
 | bool b=>exact .bool b
 | int k n=>exact .int k n
 | float k n=>exact .float k n
 | complex k n m=>exact .complex k n m
 | string s=>exact .string s
 | pointer a=>cases a with
  | none=>exact .ptrN
  | some a=>simp[M4] at h
 | slice a n c=>cases a with
  | none=>exact .sliceN n c
  | some a=>simp[M4] at h
 | map r=>cases r with
  | none=>exact .mapN
  | some r=>simp[M4] at h
 | nilFunc=>exact .nilFunc
 | nilIface=>exact .nilIface
 | _=>simp[M4] at h
theorem J10(F:FM):∀(l:List Value),l.all M4=true->VL F l l
 | [],_ => .nil
 | v :: l,h=>by
  simp only[List.all_cons,Bool.and_eq_true] at h;exact .cons (Z36 F v h.1) (J10 F l h.2)
theorem C6(F:FM)(v:Value)(h:X7 v=true):VR F v v:=by
 cases v with
 | agg cs=>exact VR.agg' (J10 F cs.toList h)
 | tuple cs=>exact VR.tuple' (J10 F cs.toList h)
 | _=>exact Z36 F _ h
theorem C11{F:FM}(hv:VR F v v')(h:M4 v=true):v'=v:=by
 cases hv<;>simp[M4] at h<;>rfl
theorem J19{F:FM}(hv:VL F l l')(h:l.all M4=true):l'=l:=by
 induction hv with
 | nil=>rfl
 | cons hv _ ih=>
  simp only[List.all_cons,Bool.and_eq_true] at h;rw[C11 hv h.1,ih h.2]
theorem R51{F:FM}(hv:VR F v v')(h:X7 v=true):v'=v:=by
 have E:=hv
 cases hv with
 | agg h1 h2=>
  have:=J19 (VL.ofArr h1 h2) h;simp only[Value.agg.injEq];exact Array.toList_inj.1 this
 | tuple h1 h2=>
  have:=J19 (VL.ofArr h1 h2) h;simp only[Value.tuple.injEq];exact Array.toList_inj.1 this
 | _=>exact C11 E h
theorem D47(h:X7 z=true):B22 z=true:=by
 cases z<;>first | rfl | (simp[X7,M4] at h;done)
theorem G28(h:Z0 z.cells.toList=true):B22 z=true:=by
 cases z<;>first | rfl | (simp[Value.cells,Z0] at h;done)
theorem X12(h:X7 z=true)(F:FM):VL F z.cells.toList z.cells.toList:=(C6 F z h).cells (D47 h)
def J0(H:Y0)(i:Nat):Option C1:=hgK H i none some
def hs(H:Y0)(i:Nat)(b:Option C1):Y0:=hsK H i b id
theorem V26(v:Option C1)(l r:Y0)(z:β)(k:C1->β):hgK (.node v l r) 0 z k=v.elim z k:=by cases v<;>rfl
theorem Q30(v:Option C1)(l r:Y0)(j:Nat)(z:β)(k:C1->β):hgK (.node v l r) (j+1) z k=if j%2=0 then hgK l (j/2) z k else hgK r (j/2) z k:=by
 show @Nat.rec (fun _=>β) (hgK l (j/2) z k) (fun _ _=>hgK r (j/2) z k) (j%2)=_;rcases Nat.mod_two_eq_zero_or_one j with h | h<;>rw[h]<;>rfl
theorem W70(H:Y0):∀(i:Nat) (z:β) (k:C1->β),hgK H i z k=(J0 H i).elim z k:=by
 induction H with
 | leaf=>intros;rfl
 | node v l r J E=>
  intro i z k;unfold J0
  cases i with
  | zero=>rw[V26,V26];cases v<;>rfl
  | succ j=>
   rw[Q30,Q30]
   split
   .exact J _ _ _
   .exact E _ _ _
theorem Y4(H:Y0)(i:Nat)(z:β)(k:C1->β):D12 H i z k=(J0 H i).elim z k:=W70 H i z k
theorem C40(i:Nat):J0 .leaf i=none:=rfl
theorem C17(v:Option C1)(l r:Y0):J0 (.node v l r) 0=v:=by unfold J0;rw[V26];cases v<;>rfl
theorem Y21(v:Option C1)(l r:Y0)(j:Nat):J0 (.node v l r) (j+1)=if j%2=0 then J0 l (j/2) else J0 r (j/2):=by
 unfold J0;rw[Q30]
def Y0.val:Y0->Option C1
 | .leaf=>none
 | .node v _ _=>v
def Y0.left:Y0->Y0
 | .leaf => .leaf
 | .node _ l _=>l
def Y0.right:Y0->Y0
 | .leaf => .leaf
 | .node _ _ r=>r
theorem B39(H:Y0):J0 H 0=H.val:=by
 cases H with
 | leaf=>rfl
 | node v l r=>exact C17 v l r
theorem V27(H:Y0)(j:Nat):J0 H (j+1)=if j%2=0 then J0 H.left (j/2) else J0 H.right (j/2):=by
 cases H with
 | leaf=>simp only[C40,Y0.left,Y0.right,ite_self]
 | node v l r=>exact Y21 v l r j
theorem C31(f:Nat)(H:Y0)(b:Option C1)(k:Y0->β):hsF (f+1) H 0 b k=k (.node b H.left H.right):=by
 cases H<;>rfl
theorem D31(f:Nat)(H:Y0)(j:Nat)(b:Option C1)(k:Y0->β):
  hsF (f+1) H (j+1) b k=if j%2=0 then hsF f H.left (j/2) b fun l=>k (.node H.val l H.right) else hsF f H.right (j/2) b fun r=>k (.node H.val H.left r):=by
 cases H with
 | leaf=>
  show @Nat.rec (fun _=>β) (hsF f .leaf (j/2) b fun l=>k (.node none l .leaf)) (fun _ _=>hsF f .leaf (j/2) b fun r=>k (.node none .leaf r)) (j%2)=_;rcases Nat.mod_two_eq_zero_or_one j with h | h<;>rw[h]<;>rfl
 | node v l r=>
  show @Nat.rec (fun _=>β) (hsF f l (j/2) b fun l=>k (.node v l r)) (fun _ _=>hsF f r (j/2) b fun r=>k (.node v l r)) (j%2)=_;rcases Nat.mod_two_eq_zero_or_one j with h | h<;>rw[h]<;>rfl
theorem J47(f:Nat):∀ {β:Type} (H:Y0) (i:Nat) (b:Option C1) (k:Y0->β),hsF f H i b k=k (hsF f H i b id):=by
 induction f with
 | zero=>intros;rfl
 | succ f ih=>
  intro β H i b k
  cases i with
  | zero=>rw[C31,C31];rfl
  | succ j=>
   rw[D31,D31]
   split
   .rw[ih,ih (k:=fun l=>id (Y0.node H.val l H.right))];rfl
   .rw[ih,ih (k:=fun r=>id (Y0.node H.val H.left r))];rfl
theorem G4{β:Type}(H:Y0)(i:Nat)(b:Option C1)(k:Y0->β):hsK H i b k=k (hs H i b):=J47 _ H i b k
theorem E59{j f:Nat}(h:Nat.log2 (j+1+1)+1<=f+1):Nat.log2 (j/2+1)+1<=f:=by
 have e:Nat.log2 (j+2)=Nat.log2 ((j+2)/2)+1:=by
  rw[Nat.log2_def,if_pos (by omega)]
 have e2:(j+2)/2=j/2+1:=by omega
 rw[e2] at e;have:Nat.log2 (j+1+1)=Nat.log2 (j+2):=rfl;omega
theorem X64(f:Nat):∀(H:Y0) (i j:Nat) (b:Option C1),Nat.log2 (i+1)+1<=f->J0 (hsF f H i b id) j=if j=i then b else J0 H j:=by
 induction f with
 | zero=>intro H i j b h;omega
 | succ f ih=>
  intro H i j b h
  cases i with
  | zero=>
   rw[C31]
   cases j with
   | zero=>rw[if_pos rfl];exact C17 _ _ _
   | succ j=>rw[if_neg (by omega)];show J0 (.node b H.left H.right) (j+1)=_;rw[Y21,V27]
  | succ i=>
   have hf:=E59 h;rw[D31]
   split
   .rename_i hp
    rw[J47];show J0 (.node H.val (hsF f H.left (i/2) b id) H.right) j=_
    cases j with
    | zero=>rw[if_neg (by omega),C17,B39]
    | succ j=>
     rw[Y21,V27]
     by_cases hq:j%2=0
     .rw[if_pos hq,if_pos hq,ih _ _ _ _ hf]
      by_cases e:j=i
      .subst e;simp
      .rw[if_neg (by omega),if_neg (by omega)]
     .rw[if_neg hq,if_neg hq,if_neg (by omega)]
   .rename_i hp
    rw[J47];show J0 (.node H.val H.left (hsF f H.right (i/2) b id)) j=_
    cases j with
    | zero=>rw[if_neg (by omega),C17,B39]
    | succ j=>
     rw[Y21,V27]
     by_cases hq:j%2=0
     .rw[if_pos hq,if_pos hq,if_neg (by omega)]
     .rw[if_neg hq,if_neg hq,ih _ _ _ _ hf]
      by_cases e:j=i
      .subst e;simp
      .rw[if_neg (by omega),if_neg (by omega)]
theorem N7(H:Y0)(i j:Nat)(b:Option C1):J0 (hs H i b) j=if j=i then b else J0 H j:=X64 _ H i j b (Nat.le_refl _)
inductive EL (F:FM):List MapEntry->List MapEntry->Prop
 | nil:EL F [] []
 | cons {k v v':Value} {b:Nat} {l l':List MapEntry} (hk:M4 k=true) (h:VR F v v') (t:EL F l l'):EL F (⟨k,v,b⟩ :: l) (⟨k,v',b⟩ :: l')
def BR(F:FM)(t:J7)(b:C1)(w:World):Prop:=
 match b with
 | .cells c sl=>∃ c' e,w.heap[t.blk]? = some (.cells c' e (0,0))/\c'.size=t.rsz/\t.sz=c.length/\t.esz=sl/\t.base+c.length<=t.rsz/\VL F c ((c'.toList.drop t.base).take c.length)
 | .map es clock=>t.base=0/\∃ es',w.heap[t.blk]? = some (.map es' clock)/\EL F es es'.toList
 | .rom c=>∃ c' e m,w.heap[t.blk]? = some (.cells c' e m)/\c'.size=t.rsz/\t.sz=c.length/\t.esz=0/\t.base+c.length<=t.rsz/\VL F c ((c'.toList.drop t.base).take c.length)
def Own(F:FM)(H:Y0)(nx:Nat)(b:Nat):Prop:=∃ i k t,i<nx/\J0 H i=some k/\k.isRom=false/\F i=some t/\t.blk=b
def GlW(w:World):Prop:=∀ x ∈ Q42,x.1<w.heap.size/\∀(i:Nat) (v:Value),x.2[i]? = some v->w.cell? ⟨x.1,i,none⟩=some v
def Gl(F:FM)(H:Y0)(nx:Nat)(w:World):Prop:=GlW w/\∀ x ∈ Q42,¬ Own F H nx x.1
theorem GlW.step(h:GlW w)(hw:∀ x ∈ Q42,w'.heap[x.1]? = w.heap[x.1]?):GlW w':=fun x hx=>by
 obtain⟨h1,h2⟩:=h x hx;have e:=hw x hx;refine⟨?_,fun i v hv => ?_⟩
 .rcases Nat.lt_or_ge x.1 w'.heap.size with g | g
  .exact g
  .rw[Array.getElem?_eq_none g,Array.getElem?_eq_getElem h1] at e;cases e
 .have:=h2 i v hv
  unfold World.cell? at this ⊢;rw[e];exact this
theorem Gl.step{F:FM}{H:Y0}{nx:Nat}{w:World}{F':FM}{H':Y0}{nx':Nat}{w':World}(h:Gl F H nx w)(E:∀ b,b<w.heap.size->¬ Own F H nx b->w'.heap[b]? = w.heap[b]?)
  (J:∀ b,Own F' H' nx' b->Own F H nx b\/w.heap.size<=b):Gl F' H' nx' w':=
 ⟨h.1.step fun x hx=>E _ (h.1 x hx).1 (h.2 x hx),fun x hx ho=>(J _ ho).elim (h.2 x hx) (fun h'=>by have:=(h.1 x hx).1;omega)⟩
structure HR (F:FM) (H:Y0) (nx:Nat) (w:World):Prop where
 blk:∀ i b,i<nx->J0 H i=some b->∃ t,F i=some t/\BR F t b w
 inj:∀ i j bi bj ti tj,i<nx->j<nx->J0 H i=some bi->J0 H j=some bj->F i=some ti->F j=some tj->ti.blk=tj.blk->i=j\/(bi.isRom=true/\bj.isRom=true)
 fresh:∀ i,nx<=i->F i=none
 top:∀ i,nx<=i->J0 H i=none
 gl:Gl F H nx w
def Y53(F:FM)(H:Y0)(nx:Nat)(b:Nat):Prop:=∃ i k t,i<nx/\J0 H i=some k/\F i=some t/\t.blk=b
structure N2 (F:FM) (H:Y0) (nx:Nat) (w:World) (F':FM) (H':Y0) (nx':Nat) (w':World):Prop where
 le:nx<=nx'
 ext:∀ i,i<nx->F' i=F i
 os:w'.os=w.os
 tape:w'.tape=w.tape
 output:w'.output=w.output
 size:w.heap.size<=w'.heap.size
 frame:∀ b,b<w.heap.size->¬ Own F H nx b->w'.heap[b]? = w.heap[b]?
 own:∀ b,Own F' H' nx' b->Own F H nx b\/w.heap.size<=b
 keep:∀ i,i<nx->J0 H i=none->J0 H' i=none
 rom:∀ i b,J0 H' i=some b->b.isRom=true->i<nx/\J0 H i=some b
 hr:HR F' H' nx' w'
theorem BR.lt{F:FM}{t:J7}(h:BR F t b w):t.blk<w.heap.size:=by
 cases b with
 | cells c sl=>
  obtain⟨c',e,h,_⟩:=h;rcases Nat.lt_or_ge t.blk w.heap.size with g | g
  .exact g
  .simp[Array.getElem?_eq_none g] at h
 | map es k=>
  obtain⟨_,es',h,_⟩:=h;rcases Nat.lt_or_ge t.blk w.heap.size with g | g
  .exact g
  .simp[Array.getElem?_eq_none g] at h
 | rom c=>
  obtain⟨c',e,m,h,_⟩:=h;rcases Nat.lt_or_ge t.blk w.heap.size with g | g
  .exact g
  .simp[Array.getElem?_eq_none g] at h
theorem EL.mono{F F':FM}(hF:F.le F'){l l':List MapEntry}(h:EL F l l'):EL F' l l':=by
 induction h with
 | nil=>exact .nil
 | cons hk h _ ih=>exact .cons hk (h.mono hF) ih
theorem BR.mono{F F':FM}(hF:F.le F'){t:J7}{b:C1}{w w':World}(h:BR F t b w)(hw:w'.heap[t.blk]? = w.heap[t.blk]?):BR F' t b w':=by
 cases b with
 | cells c sl=>
  obtain⟨c',e,h1,h2,h3,h4,h5,h6⟩:=h;exact⟨c',e,hw.trans h1,h2,h3,h4,h5,h6.mono hF⟩
 | map es k=>
  obtain⟨h0,es',h1,h2⟩:=h;exact⟨h0,es',hw.trans h1,h2.mono hF⟩
 | rom c=>
  obtain⟨c',e,m,h1,h2,h3,h4,h5,h6⟩:=h;exact⟨c',e,m,hw.trans h1,h2,h3,h4,h5,h6.mono hF⟩
theorem HR.low{F:FM}(h:HR F H nx w){i:Nat}(hg:J0 H i=some b):i<nx:=by
 rcases Nat.lt_or_ge i nx with g | g
 .exact g
 .rw[h.top i g] at hg;cases hg
theorem N2.refl{F:FM}(h:HR F H nx w):N2 F H nx w F H nx w:=
 ⟨Nat.le_refl _,fun _ _=>rfl,rfl,rfl,rfl,Nat.le_refl _,fun _ _ _=>rfl,fun _ h => .inl h,fun _ _ h=>h,fun _ _ hg _=>⟨h.low hg,hg⟩,h⟩
theorem N2.fle{F:FM}{F':FM}{H':Y0}{nx':Nat}(h:N2 F H nx w F' H' nx' w')(hr:HR F H nx w):F.le F':=by
 intro i t hi;rcases Nat.lt_or_ge i nx with g | g
 .rw[h.ext i g];exact hi
 .rw[hr.fresh i g] at hi;cases hi
theorem N2.trans{F:FM}{H:Y0}{nx:Nat}{w:World}{F1:FM}{H1:Y0}{E:Nat}{w1:World}{F2:FM}{H2:Y0}{nx2:Nat}{w2:World}
  (h:N2 F H nx w F1 H1 E w1)(g:N2 F1 H1 E w1 F2 H2 nx2 w2):N2 F H nx w F2 H2 nx2 w2 where
 le:=Nat.le_trans h.le g.le
 ext i hi:=(g.ext i (Nat.lt_of_lt_of_le hi h.le)).trans (h.ext i hi)
 os:=g.os.trans h.os
 tape:=g.tape.trans h.tape
 output:=g.output.trans h.output
 size:=Nat.le_trans h.size g.size
 frame b hb hn:=(g.frame b (Nat.lt_of_lt_of_le hb h.size) (fun ho=>(h.own b ho).elim hn (fun hx=>by omega))).trans (h.frame b hb hn)
 own b ho:=by
  rcases g.own b ho with h1 | h1
  .exact h.own b h1
  .exact .inr (Nat.le_trans h.size h1)
 keep i hi hn:=g.keep i (Nat.lt_of_lt_of_le hi h.le) (h.keep i hi hn)
 rom i b hg hb:=let ⟨_,h1⟩:=g.rom i b hg hb;h.rom i b h1 hb
 hr:=g.hr
theorem HR.drew{F:FM}{nx:Nat}(h:HR F H nx w)(n:Nat):HR F H nx { w with drawn:=n }:=
 ⟨fun i b hi hb=>let ⟨t,ht,hr⟩:=h.blk i b hi hb;⟨t,ht,hr.mono (fun _ _ h=>h) rfl⟩,h.inj,h.fresh,h.top,h.gl.step (fun _ _ _=>rfl) (fun _ h => .inl h)⟩
theorem N2.drew{F:FM}{H:Y0}{nx:Nat}{w:World}(h:HR F H nx w)(n:Nat):N2 F H nx w F H nx { w with drawn:=n }:=
 ⟨Nat.le_refl _,fun _ _=>rfl,rfl,rfl,rfl,Nat.le_refl _,fun _ _ _=>rfl,fun _ h => .inl h,fun _ _ h=>h,fun _ _ hg _=>⟨h.low hg,hg⟩,h.drew n⟩
theorem HR.reserve{F:FM}(h:HR F H nx w){nx2:Nat}(h1:nx<=nx2):HR F H nx2 w:=by
 have low:∀ i b,i<nx2->J0 H i=some b->i<nx:=by
  intro i b hi hg;rcases Nat.lt_or_ge i nx with g | g
  .exact g
  .rw[h.top i g] at hg;cases hg
 exact⟨fun i b hi hg=>h.blk i b (low i b hi hg) hg,fun i j bi bj ti tj hi hj gi gj=>h.inj i j bi bj ti tj (low i bi hi gi) (low j bj hj gj) gi gj,fun i hi=>h.fresh i (by omega),fun i hi=>h.top i (by omega),h.gl.step (fun _ _ _=>rfl) (fun b ⟨i,k,t,hi,hg,E,hF,e⟩ => .inl ⟨i,k,t,low i k hi hg,hg,E,hF,e⟩)⟩
end Go.Clo
