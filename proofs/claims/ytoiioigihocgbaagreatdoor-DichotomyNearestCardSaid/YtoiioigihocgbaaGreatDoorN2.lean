/-
  A closed executor: an interpreter over the model's code with a heap of its own names. This text: its definitions.
-/
import Derived.Calls
import Derived.Orders
import Derived.LoopN
import Derived.Scope
import Derived.KernelRfl
set_option linter.all false
noncomputable section
namespace Go.Clo
variable {α β:Type}
inductive K0 (α:Type) where
 | leaf
 | tip (a:α)
 | node (l r:K0 α)
inductive C1 where
 | cells (c:List Value) (sl:Nat)
 | map (es:List MapEntry) (clock:Nat)
 | rom (c:List Value)
def C1.isRom:C1->Bool
 | .rom _=>true
 | _=>false
inductive Y0 where
 | leaf
 | node (v:Option C1) (l r:Y0)
@[reducible] def M6 {α β:Type} (k:α->β) (a:α):β:=k a
def tgK(T:K0 α):Nat->β->(α->β)->β:=
 @K0.rec α (fun _=>Nat->β->(α->β)->β) (fun _ z _=>z) (fun v _ _ k=>k v)
  (fun _ _ l r t z k=>@Nat.rec (fun _=>β) (l (Nat.div t 2) z k) (fun _ _=>r (Nat.div t 2) z k) (Nat.mod t 2)) T
def tsK(d:Nat):K0 α->Nat->α->(K0 α->β)->β:=
 @Nat.rec (fun _=>K0 α->Nat->α->(K0 α->β)->β) (fun _ _ a k=>k (.tip a))
  (fun _ ih t i a k=>@K0.rec α (fun _=>β)
   (@Nat.rec (fun _=>β) (ih .leaf (Nat.div i 2) a fun l=>k (.node l .leaf)) (fun _ _=>ih .leaf (Nat.div i 2) a fun r=>k (.node .leaf r)) (Nat.mod i 2))
   (fun _=>@Nat.rec (fun _=>β) (ih .leaf (Nat.div i 2) a fun l=>k (.node l .leaf)) (fun _ _=>ih .leaf (Nat.div i 2) a fun r=>k (.node .leaf r)) (Nat.mod i 2))
   (fun l r _ _=>@Nat.rec (fun _=>β) (ih l (Nat.div i 2) a fun l=>k (.node l r)) (fun _ _=>ih r (Nat.div i 2) a fun r=>k (.node l r)) (Nat.mod i 2)) t) d
def hgK(H:Y0):Nat->β->(C1->β)->β:=
 @Y0.rec (fun _=>Nat->β->(C1->β)->β) (fun _ z _=>z)
  (fun v _ _ l r i z k=>@Nat.rec (fun _=>β) (@Option.rec C1 (fun _=>β) z k v)
   (fun j _=>@Nat.rec (fun _=>β) (l (Nat.div j 2) z k) (fun _ _=>r (Nat.div j 2) z k) (Nat.mod j 2)) i) H
def hsF(E:Nat):Y0->Nat->Option C1->(Y0->β)->β:=
 @Nat.rec (fun _=>Y0->Nat->Option C1->(Y0->β)->β) (fun H _ _ k=>k H)
  (fun _ ih H i b k=>@Y0.rec (fun _=>β)
   (@Nat.rec (fun _=>β) (M6 k (.node b .leaf .leaf))
    (fun j _=>@Nat.rec (fun _=>β) (ih .leaf (Nat.div j 2) b fun l=>M6 k (.node none l .leaf)) (fun _ _=>ih .leaf (Nat.div j 2) b fun r=>M6 k (.node none .leaf r)) (Nat.mod j 2)) i)
   (fun v l r _ _=>@Nat.rec (fun _=>β) (M6 k (.node b l r))
    (fun j _=>@Nat.rec (fun _=>β) (ih l (Nat.div j 2) b fun l=>M6 k (.node v l r)) (fun _ _=>ih r (Nat.div j 2) b fun r=>M6 k (.node v l r)) (Nat.mod j 2)) i) H) E
def hsK(H:Y0)(i:Nat)(b:Option C1)(k:Y0->β):β:=hsF (Nat.log2 (Nat.add i 1)+1) H i b k
def C30(l:List α):Nat->β->(α->β)->β:=
 @List.rec α (fun _=>Nat->β->(α->β)->β) (fun _ z _=>z)
  (fun a _ ih n z k=>@Nat.rec (fun _=>β) (k a) (fun m _=>ih m z k) n) l
def ifK(b:Bool)(x y:β):β:=@Bool.rec (fun _=>β) y x b
def M2(n:Nat)(f:Nat->β):β:=
 match n with
 | 0=>f 0
 | Nat.succ m=>f (Nat.succ m)
def Q16(n:Int)(f:Int->β):β:=
 match n with
 | .ofNat m=>M2 m fun m=>f (.ofNat m)
 | .negSucc m=>M2 m fun m=>f (.negSucc m)
def V13(b:Bool)(f:Bool->β):β:=
 match b with
 | true=>f true
 | false=>f false
def E35(a:Option Addr)(f:Option Addr->β):β:=
 match a with
 | none=>f none
 | some a=>match a with
  | ⟨b,o,s⟩=>M2 b fun b=>M2 o fun o=>match s with
   | none=>f (some ⟨b,o,none⟩)
   | some s=>f (some ⟨b,o,some s⟩)
def X13(v:Value)(f:Value->β):β:=
 match v with
 | .bool b=>V13 b fun b=>f (.bool b)
 | .int k n=>Q16 n fun n=>f (.int k n)
 | .pointer a=>E35 a fun a=>f (.pointer a)
 | .slice a l c=>E35 a fun a=>M2 l fun l=>M2 c fun c=>f (.slice a l c)
 | .map r=>match r with
  | none=>f (.map none)
  | some r=>M2 r fun r=>f (.map (some r))
 | v=>f v
def M22{β:Type}(l:List Value)(f:List Value->β):β:=
 match l with
 | []=>f []
 | v :: l=>X13 v fun v=>M22 l fun l=>f (v :: l)
def M0(v:Value)(f:Value->β):β:=
 match v with
 | .agg cs=>M22 cs.toList fun l=>f (.agg ⟨l⟩)
 | .tuple cs=>M22 cs.toList fun l=>f (.tuple ⟨l⟩)
 | v=>X13 v f
def spine{α β:Type}(l:List α)(f:List α->β):β:=
 match l with
 | []=>f []
 | v :: l=>spine l fun l=>f (v :: l)
def nth{α:Type}:List α->Nat->Option α
 | [],_=>none
 | a :: l,k=>match k with
  | 0=>some a
  | k+1=>nth l k
def R26{α:Type}:List α->Nat->α->List α
 | [],_,_=>[]
 | a :: l,k,b=>match k with
  | 0=>b :: l
  | k+1=>a :: R26 l k b
def M4:Value->Bool
 | .bool _ | .int _ _ | .float _ _ | .complex _ _ _ | .string _ | .nilFunc | .nilIface=>true
 | .pointer a=>a.isNone
 | .slice a _ _=>a.isNone
 | .map r=>r.isNone
 | _=>false
def X7:Value->Bool
 | .agg cs=>cs.toList.all M4
 | .tuple cs=>cs.toList.all M4
 | v=>M4 v
def E30{α:Type}(P:Program):Sem α->Option α
 | .pure a=>some a
 | .program k=>E30 P (k P)
 | .mark _ k=>E30 P k
 | _=>none
inductive X where
 | s (t:Nat)
 | c (v:Value)
def N0(n:Nat):Operand->Option X
 | .tmp t=>cond (Nat.blt t n) (some (.s t)) none
 | .const v=>cond (X7 v) (some (.c v)) none
 | .global _=>none
 | .func f=>some (.c (.func (.func f) #[] #[]))
def U7(n:Nat):List Operand->Option (List X)
 | []=>some []
 | x :: l=>match N0 n x,U7 n l with
  | some x,some l=>some (x :: l)
  | _,_=>none
def B8(n:Nat):Option Operand->Option (Option X)
 | none=>some none
 | some x=>match N0 n x with
  | some x=>some (some x)
  | none=>none
def R16(n:Nat):List (Nat × Operand)->Option (List (Nat × X))
 | []=>some []
 | (i,x) :: l=>match N0 n x,R16 n l with
  | some x,some l=>some ((i,x) :: l)
  | _,_=>none
def W4(T:K0 Value)(x:X)(k:Value->β):β:=
 @X.rec (fun _=>β) (fun t=>tgK T t (k undef) k) (fun v=>k v) x
def U17(T:K0 Value)(l:List X):(List Value->β)->β:=
 @List.rec X (fun _=>(List Value->β)->β) (fun k=>k []) (fun x _ ih k=>W4 T x fun v=>ih fun vs=>k (v :: vs)) l
def R24(T:K0 Value)(x:Option X)(k:Option Value->β):β:=
 match x with
 | none=>k none
 | some x=>W4 T x fun v=>k (some v)
def E34{β:Type}(T:K0 Value)(l:List (Nat × X))(k:List (Nat × Value)->β):β:=
 match l with
 | []=>k []
 | (i,x) :: l=>W4 T x fun v=>E34 T l fun vs=>k ((i,v) :: vs)
inductive VF where
 | eqb (neg:Bool)
 | eqn (neg:Bool) (t:TypeDesc)
 | eqs (neg:Bool) (offs:List (Nat × Nat))
 | sidx
 | ssl (lo hi:Bool)
 | mm (mx:Bool)
 | s2a (n:Nat)
 | bad
inductive IP where
 | mv (x:X)
 | pick (c a b:X)
 | bin (op:BinOp) (x y:X)
 | un (op:UnOp) (x:X)
 | eq (neg:Bool) (t:Option TypeDesc) (x y:X) (o:Oper)
 | scal (xs:List X) (o:Oper)
 | fld (x:X) (off:Nat)
 | idx (x ix:X) (len:Option Nat) (size:Nat)
 | nilc (x:X)
 | ext (x:X) (i:Nat)
 | part (x:X) (off:Nat) (size:Option Nat)
 | aidx (x ix:X) (len size:Nat) (agg:Bool)
 | build (z:List Value) (pl:List (Nat × Nat)) (parts:List (Nat × X))
 | slA (x:X) (n size:Nat) (lo hi mx:Option X)
 | mkf (fn:Fn) (first cap:List X)
 | mki (t:TypeId) (x:X)
 | vf (f:VF) (xs:List X)
def G27:Value->Bool
 | .pointer a=>a.isNone
 | .slice a _ _=>a.isNone
 | .map r=>r.isNone
 | .nilFunc=>true
 | _=>false
def C8(t:Option TypeDesc)(x y:Value):Option Bool:=
 match t,x,y with
 | some (.pointer _),.pointer a,.pointer b=>cond (a.isNone || b.isNone) (some (a.isNone&&b.isNone)) none
 | some (.slice _),.slice a _ _,.slice b _ _=>cond (a.isNone || b.isNone) (some (a.isNone&&b.isNone)) none
 | some (.map _ _),.map a,.map b=>cond (a.isNone || b.isNone) (some (a.isNone&&b.isNone)) none
 | some (.func _ _ _),.nilFunc,.func _ _ _=>some false
 | some (.func _ _ _),.func _ _ _,.nilFunc=>some false
 | some (.func _ _ _),.nilFunc,.nilFunc=>some true
 | _,_,_=>none
def D42(T:K0 Value):Operand->Value
 | .tmp t=>tgK T t undef id
 | .const v=>v
 | .global _=>undef
 | .func f => .func (.func f) #[] #[]
def K20(P:Program)(T:K0 Value)(xs:List X)(o:Oper)(z:β)(k:Value->β):β:=
 U17 T xs fun vs=>cond (vs.all X7)
  (match E30 P (execOp (D42 T) o) with
   | some (.value v)=>M0 v fun v=>cond (X7 v) (k v) z
   | _=>z) z
def Q14(k:IntKind)(n:Int):Bool:=
 match n with
 | .ofNat m=>(match k with
  | .i64=>Nat.blt m 9223372036854775808
  | .u32=>Nat.blt m 4294967296
  | .u64=>Nat.blt m 18446744073709551616
  | .u8=>Nat.blt m 256
  | _=>false)
 | .negSucc m=>(match k with
  | .i64=>Nat.blt m 9223372036854775808
  | _=>false)
def N52(a b:Int):Int:=
 match a,b with
 | .ofNat a,.ofNat b => .ofNat (Nat.add a b)
 | a,b=>a+b
def X54(a b:Int):Int:=
 match a,b with
 | .ofNat a,.ofNat b=>cond (Nat.ble b a) (.ofNat (Nat.sub a b)) (.negSucc (Nat.sub (Nat.sub b a) 1))
 | a,b=>a-b
def ltI(a b:Int):Bool:=
 match a,b with
 | .ofNat a,.ofNat b=>Nat.blt a b
 | .negSucc _,.ofNat _=>true
 | .ofNat _,.negSucc _=>false
 | .negSucc a,.negSucc b=>Nat.blt b a
def leI(a b:Int):Bool:=
 match a,b with
 | .ofNat a,.ofNat b=>Nat.ble a b
 | .negSucc _,.ofNat _=>true
 | .ofNat _,.negSucc _=>false
 | .negSucc a,.negSucc b=>Nat.ble b a
def eqI(a b:Int):Bool:=
 match a,b with
 | .ofNat a,.ofNat b=>Nat.beq a b
 | .negSucc a,.negSucc b=>Nat.beq a b
 | _,_=>false
def eqK:IntKind->IntKind->Bool
 | .i8,.i8 | .i16,.i16 | .i32,.i32 | .i64,.i64 | .u8,.u8 | .u16,.u16 | .u32,.u32 | .u64,.u64=>true
 | _,_=>false
def G7(op:BinOp)(k:IntKind)(a b:Int):Option Value:=
 match op with
 | .add=>some (.int k (k.wrap (a+b)))
 | .sub=>some (.int k (k.wrap (a-b)))
 | .mul=>some (.int k (k.wrap (a*b)))
 | .quo=>if b=0 then none else some (.int k (k.wrap (a.tdiv b)))
 | .rem=>if b=0 then none else some (.int k (a.tmod b))
 | .and=>some (.int k (k.wrap (BitVec.ofInt k.bits a &&& BitVec.ofInt k.bits b).toNat))
 | .or=>some (.int k (k.wrap (BitVec.ofInt k.bits a ||| BitVec.ofInt k.bits b).toNat))
 | .xor=>some (.int k (k.wrap (BitVec.ofInt k.bits a ^^^ BitVec.ofInt k.bits b).toNat))
 | .andNot=>some (.int k (k.wrap (BitVec.ofInt k.bits a &&& ~~~(BitVec.ofInt k.bits b)).toNat))
 | .eql=>some (.bool (a==b))
 | .neq=>some (.bool (a != b))
 | .lss=>some (.bool (decide (a<b)))
 | .leq=>some (.bool (decide (a<=b)))
 | .gtr=>some (.bool (decide (a > b)))
 | .geq=>some (.bool (decide (a ≥ b)))
 | _=>none
def K53(op:BinOp)(a b:ByteArray):Option Value:=
 match op with
 | .add=>if ((a.size+b.size:Nat):Int) > IntKind.i64.max then none else some (.string (a++b))
 | .eql=>some (.bool (a.toList==b.toList))
 | .neq=>some (.bool !(a.toList==b.toList))
 | .lss=>some (.bool (Op.bytesLess a.toList b.toList))
 | .leq=>some (.bool (Op.bytesLess a.toList b.toList || a.toList==b.toList))
 | .gtr=>some (.bool !(Op.bytesLess a.toList b.toList || a.toList==b.toList))
 | .geq=>some (.bool !(Op.bytesLess a.toList b.toList))
 | _=>none
def C18(op:BinOp)(k:IntKind)(a b:Int):Option Value:=
 if b<0 then none else match op with
  | .shl=>some (.int k (k.wrap (a*2^min b.toNat k.bits)))
  | .shr=>some (.int k (a.fdiv (2^min b.toNat k.bits)))
  | _=>none
def N4:BinOp->Bool
 | .shl | .shr=>true
 | _=>false
def R9(op:BinOp)(x y:Value):Option Value:=
 match x,y with
 | .int k a,.int k' b=>cond (N4 op) (C18 op k a b) (cond (eqK k k') (G7 op k a b) none)
 | .string a,.string b=>K53 op a b
 | _,_=>none
def unV(op:UnOp)(x:Value):Option Value:=
 match op,x with
 | .neg,.int k n=>some (.int k (k.wrap (0-n)))
 | .xor,.int k n=>some (.int k (k.wrap (BitVec.ofInt k.bits (if k.signed then -1 else k.max) ^^^ BitVec.ofInt k.bits n).toNat))
 | .not,.bool b=>some (.bool !b)
 | _,_=>none
def X22(r:Option Value)(z:β)(f:Value->β):β:=
 match r with
 | some v=>X13 v f
 | none=>z
def C55(op:BinOp)(k:IntKind)(a b:Int)(z:β)(f:Value->β):β:=
 match op with
 | .add=>Q16 (N52 a b) fun r=>cond (Q14 k r) (f (.int k r)) (X22 (G7 op k a b) z f)
 | .sub=>Q16 (X54 a b) fun r=>cond (Q14 k r) (f (.int k r)) (X22 (G7 op k a b) z f)
 | .lss=>V13 (ltI a b) fun r=>f (.bool r)
 | .leq=>V13 (leI a b) fun r=>f (.bool r)
 | .gtr=>V13 (ltI b a) fun r=>f (.bool r)
 | .geq=>V13 (leI b a) fun r=>f (.bool r)
 | .eql=>V13 (eqI a b) fun r=>f (.bool r)
 | .neq=>V13 (!(eqI a b)) fun r=>f (.bool r)
 | op=>X22 (G7 op k a b) z f
def J42(op:BinOp)(vx vy:Value)(z:β)(f:Value->β):β:=
 match vx,vy with
 | .int k a,.int k' b=>cond (N4 op) (X22 (C18 op k a b) z f) (cond (eqK k k') (C55 op k a b z f) z)
 | .string a,.string b=>X22 (K53 op a b) z f
 | _,_=>z
def V52(op:BinOp)(x y:X)(T:K0 Value)(z:β)(f:Value->β):β:=
 W4 T x fun vx=>W4 T y fun vy=>J42 op vx vy z f
def unK(op:UnOp)(x:X)(T:K0 Value)(z:β)(f:Value->β):β:=
 W4 T x fun v=>X22 (unV op v) z f
def M55(P:Program)(T:K0 Value)(neg:Bool)(t:Option TypeDesc)(x y:X)(o:Oper)(z:β)(f:Value->β):β:=
 W4 T x fun vx=>W4 T y fun vy=>
  match vx,vy with
  | .int k a,.int k' b=>cond (eqK k k') (V13 (cond neg (!(eqI a b)) (eqI a b)) fun r=>f (.bool r)) z
  | vx,vy=>cond (G27 vx || G27 vy)
   (match C8 t vx vy with
    | some b=>V13 (cond neg (!b) b) fun r=>f (.bool r)
    | none=>z) (K20 P T [x,y] o z f)
def B22:Value->Bool
 | .chan _=>false
 | _=>true
def V16(E:Nat->Option (Nat × Nat))(cells:List Value):List (Nat × Value)->Option (List Value)
 | []=>some cells
 | (i,v) :: rest=>
  match E i with
  | none=>none
  | some (off,size)=>
   cond (Nat.beq v.cells.toList.length size&&Nat.ble (off+size) cells.length&&B22 v)
    (V16 E (cells.take off++v.cells.toList++cells.drop (off+size)) rest) none
def Y13(x:Option Value)(top:Nat):Option Nat:=
 match x with
 | none=>some top
 | some v=>match v with
  | .int _ n=>match n with
   | .ofNat m=>cond (Nat.ble m top) (some m) none
   | _=>none
  | _=>none
def hiA(hi mx:Option Value)(len m:Nat):Option Nat:=
 match hi with
 | none=>(match mx with
  | none=>some len
  | some _=>none)
 | some v=>Y13 (some v) m
def loA(lo:Option Value)(h:Nat):Option Nat:=
 match lo with
 | none=>some 0
 | some v=>Y13 (some v) h
def V34(E:Nat)(x y:Value):Option Bool:=
 match E,x,y with
 | 0,.int k a,.int k' b=>cond (eqK k k') (some (a==b)) none
 | 1,.bool a,.bool b=>some (a==b)
 | 2,.string a,.string b=>some (a.toList==b.toList)
 | _,_,_=>none
def G18(a b:List Value):List (Nat × Nat)->Option Bool
 | []=>some true
 | (o,tag) :: os=>match nth a o,nth b o with
  | some x,some y=>(match V34 tag x y,G18 a b os with
   | some r,some r'=>some (r&&r')
   | _,_=>none)
  | _,_=>none
def G31(s:ByteArray)(lo hi:Option Value):Option Value:=
 match (match hi with | none=>some s.size | some v=>Y13 (some v) s.size) with
 | none=>none
 | some h=>match (match lo with | none=>some 0 | some v=>Y13 (some v) h) with
  | none=>none
  | some l=>some (.string (s.extract l h))
def mmV(mx:Bool):Value->List Value->Option Value
 | .int k x,[]=>some (.int k x)
 | .int k x,.int _ y :: r=>mmV mx (.int k (cond mx (if y > x then y else x) (if y<x then y else x))) r
 | _,_=>none
def J52(s:ByteArray)(n:Int):Option Value:=((if 0<=n then s[n.toNat]? else none):Option UInt8).map fun b => .int .u8 b.toNat
def VF.ev:VF->List Value->Option Value
 | .eqb neg,[.bool a,.bool b]=>some (.bool (cond neg (!(a==b)) (a==b)))
 | .eqn neg t,[x,y]=>(C8 (some t) x y).map fun b => .bool (cond neg (!b) b)
 | .eqs neg offs,[.agg a,.agg b]=>(G18 a.toList b.toList offs).map fun r => .bool (cond neg (!r) r)
 | .sidx,[.string s,.int _ n]=>J52 s n
 | .ssl false false,[.string s]=>G31 s none none
 | .ssl true false,[.string s,l]=>G31 s (some l) none
 | .ssl false true,[.string s,h]=>G31 s none (some h)
 | .ssl true true,[.string s,l,h]=>G31 s (some l) (some h)
 | .mm mx,x :: r=>mmV mx x r
 | .s2a n,[.slice (some ⟨b,o,none⟩) len _]=>cond (Nat.ble n len) (some (.pointer (some ⟨b,o,none⟩))) none
 | _,_=>none
def vfK(f:VF)(xs:List X)(T:K0 Value)(z:β)(k:Value->β):β:=
 U17 T xs fun vs=>X22 (f.ev vs) z k
def B26(a:Option Addr)(len cap size:Nat)(lo hi mx:Option Value)(E:Bool):Option Value:=
 match Y13 mx cap with
 | none=>none
 | some m=>
  match hiA hi mx len m with
  | none=>none
  | some h=>
   match loA lo h with
   | none=>none
   | some l=>
    match a with
    | none=>some (.slice none (h-l) (m-l))
    | some a=>cond ((E&&mx.isNone&&Nat.beq m l && !(Nat.beq l 0)) || !(Nat.ble l m)) none
     (some (.slice (some (cond (Nat.beq m l) a { block:=a.block,off:=a.off+l*size,spot:=a.spot })) (h-l) (m-l)))
def V42(c a b:X)(T:K0 Value)(z:β)(k:Value->β):β:=
 W4 T c fun v=>match v with
  | .bool t=>ifK t (W4 T a k) (W4 T b k)
  | _=>z
def U19(n:Nat)(a:Addr)(k:Value->β):β:=
 M2 n fun n=>match a with
  | ⟨b,_,s⟩=>k (.pointer (some ⟨b,n,s⟩))
def X53(x:X)(off:Nat)(T:K0 Value)(z:β)(k:Value->β):β:=
 W4 T x fun v=>match v with
  | .pointer (some a)=>U19 (a.off+off) a k
  | _=>z
def N41(len:Option Nat)(size:Nat)(i:Nat)(z:β)(k:Value->β)(v:Value):β:=
 match len,v with
 | none,.slice (some a) n _=>cond (Nat.blt i n) (U19 (a.off+i*size) a k) z
 | some n,.pointer (some a)=>cond (Nat.blt i n) (U19 (a.off+i*size) a k) z
 | _,_=>z
def R30(x ix:X)(len:Option Nat)(size:Nat)(T:K0 Value)(z:β)(k:Value->β):β:=
 W4 T ix fun vi=>match vi with
  | .int _ (.ofNat i)=>W4 T x fun v=>N41 len size i z k v
  | _=>z
def U42(x:X)(T:K0 Value)(z:β)(k:Value->β):β:=
 W4 T x fun v=>match v with
  | .pointer (some a)=>k (.pointer (some a))
  | _=>z
def E54(x:X)(i:Nat)(T:K0 Value)(z:β)(k:Value->β):β:=
 W4 T x fun v=>match v with
  | .tuple vs=>C30 vs.toList i z k
  | _=>z
def E21(l:List Value)(off:Nat)(size:Option Nat)(z:β)(k:Value->β):β:=
 match size with
 | some n=>spine (l.drop off |>.take n) fun l=>k (.agg ⟨l⟩)
 | none=>C30 l off z k
def C41(x:X)(off:Nat)(size:Option Nat)(T:K0 Value)(z:β)(k:Value->β):β:=
 W4 T x fun v=>match v with
  | .agg cs=>E21 cs.toList off size z k
  | _=>z
def D41(x ix:X)(len size:Nat)(agg:Bool)(T:K0 Value)(z:β)(k:Value->β):β:=
 W4 T ix fun vi=>match vi with
  | .int _ (.ofNat i)=>W4 T x fun v=>match v with
   | .agg cs=>cond (Nat.blt i len) (E21 cs.toList (i*size) (cond agg (some size) none) z k) z
   | _=>z
  | _=>z
def W35(zero:List Value)(pl:List (Nat × Nat))(parts:List (Nat × X))(T:K0 Value)(z:β)(k:Value->β):β:=
 E34 T parts fun vs=>match V16 (nth pl) zero vs with
  | some cs=>spine cs fun cs=>k (.agg ⟨cs⟩)
  | none=>z
def U52(x:X)(n size:Nat)(lo hi mx:Option X)(T:K0 Value)(z:β)(k:Value->β):β:=
 W4 T x fun v=>R24 T lo fun lo=>R24 T hi fun hi=>R24 T mx fun mx=>match v with
  | .pointer (some a)=>(match B26 (some a) n n size lo hi mx false with
   | some r=>X13 r k
   | none=>z)
  | _=>z
def X4(P:Program)(i:IP):K0 Value->β->(Value->β)->β:=
 @IP.rec (fun _=>K0 Value->β->(Value->β)->β)
  (fun x T _ k=>W4 T x k)
  V42
  V52 unK
  (fun neg t x y o T z k=>M55 P T neg t x y o z k)
  (fun xs o T z k=>K20 P T xs o z k)
  X53 R30 U42 E54 C41 D41 W35 U52
  (fun fn first cap T _ k=>U17 T first fun f=>U17 T cap fun c=>k (.func fn ⟨f⟩ ⟨c⟩))
  (fun t x T _ k=>W4 T x fun v=>k (.iface t v)) vfK i
inductive IR where
 | ld (x:X) (size:Option Nat)
 | lk (kd:TypeDesc) (zero:Value) (x ix:X) (ok:Bool)
 | len (x:X) (kd:Nat)
 | convI (kd:IntKind) (x:X)
 | conv (x:X) (o:Oper)
 | sl (x:X) (size:Nat) (lo hi mx:Option X)
 | str (x:X)
def Q9:TypeDesc->Value->Bool
 | .int _,.int _ _=>true
 | .string,.string _=>true
 | .bool,.bool _=>true
 | _,_=>false
def G5{α:Type}:Nat->List α->Option (List α)
 | 0,_=>some []
 | n+1,l=>match l with
  | []=>none
  | a :: l=>match G5 n l with
   | some r=>some (a :: r)
   | none=>none
def D12(H:Y0)(i:Nat)(z:β)(k:C1->β):β:=
 hgK H i z k
def B19(H:Y0)(a:Addr)(n:Nat)(z:β)(k:List Value->β):β:=
 match a with
 | ⟨b,o,none⟩=>D12 H b z fun b=>match b with
  | .cells c _=>(match G5 n (c.drop o) with
   | some l=>spine l k
   | none=>z)
  | .rom c=>(match G5 n (c.drop o) with
   | some l=>spine l k
   | none=>z)
  | _=>z
 | _=>z
def ldC(o:Nat)(size:Option Nat)(z:β)(k:Value->β)(c:List Value):β:=
 match size with
  | none=>C30 c o z k
  | some n=>(match G5 n (c.drop o) with
   | some l=>spine l fun l=>k (.agg ⟨l⟩)
   | none=>z)
def ldB(o:Nat)(size:Option Nat)(z:β)(k:Value->β)(b:C1):β:=
 match b with
 | .cells c _=>ldC o size z k c
 | .rom c=>ldC o size z k c
 | _=>z
def rLd(x:X)(size:Option Nat)(T:K0 Value)(H:Y0)(z:β)(k:Value->β):β:=
 W4 T x fun v=>match v with
  | .pointer (some ⟨b,o,none⟩)=>D12 H b z (ldB o size z k)
  | _=>z
def rLk(kd:TypeDesc)(zero:Value)(x ix:X)(ok:Bool)(T:K0 Value)(H:Y0)(z:β)(k:Value->β):β:=
 W4 T x fun v=>W4 T ix fun vi=>cond (Q9 kd vi)
  ((fun(es:List MapEntry->β)=>match v with
   | .map none=>es []
   | .map (some r)=>D12 H r z fun b=>match b with
    | .map l _=>es l
    | _=>z
   | _=>z) fun l=>match Instr.findNow kd vi l 0 with
    | some (some (_,v))=>cond ok (M6 k (.tuple ⟨[v,.bool true]⟩)) (M6 k v)
    | some none=>cond ok (M6 k (.tuple ⟨[zero,.bool false]⟩)) (M6 k zero)
    | none=>z) z
def U53(x:X)(kd:Nat)(T:K0 Value)(H:Y0)(z:β)(k:Value->β):β:=
 W4 T x fun v=>match kd,v with
  | 0,.slice _ n _=>M6 k (.int .i64 (.ofNat n))
  | 1,.string s=>M2 s.size fun n=>M6 k (.int .i64 (.ofNat n))
  | 2,.map none=>M6 k (.int .i64 (.ofNat 0))
  | 2,.map (some r)=>D12 H r z fun b=>match b with
   | .map l _=>M2 l.length fun n=>M6 k (.int .i64 (.ofNat n))
   | _=>z
  | _,_=>z
def X34(kd:IntKind)(x:X)(T:K0 Value)(_:Y0)(z:β)(k:Value->β):β:=
 W4 T x fun v=>match v with
  | .int _ n=>cond (Q14 kd n) (M6 k (.int kd n)) (Q16 (kd.wrap n) fun n=>M6 k (.int kd n))
  | _=>z
def J70(P:Program)(x:X)(o:Oper)(T:K0 Value)(z:β)(k:Value->β):β:=K20 P T [x] o z k
def N8(b:C1)(o cap size:Nat):Option Bool:=
 match b with
 | .cells c sl=>cond (Nat.beq sl 0) (some false) (cond (Nat.beq sl size) (some (Nat.beq (o+cap*size) c.length)) none)
 | .rom _=>some false
 | _=>none
def slB(a:Addr)(len cap size:Nat)(lo hi mx:Option Value)(z:β)(k:Value->β)(b:C1):β:=
 match N8 b a.off cap size with
 | some l=>(match B26 (some a) len cap size lo hi mx l with
  | some r=>X13 r k
  | none=>z)
 | none=>z
def rSl(x:X)(size:Nat)(lo hi mx:Option X)(T:K0 Value)(H:Y0)(z:β)(k:Value->β):β:=
 W4 T x fun v=>R24 T lo fun lo=>R24 T hi fun hi=>R24 T mx fun mx=>match v with
  | .slice none len cap=>(match B26 none len cap size lo hi mx false with
   | some r=>X13 r k
   | none=>z)
  | .slice (some ⟨b,o,none⟩) len cap=>D12 H b z (slB ⟨b,o,none⟩ len cap size lo hi mx z k)
  | _=>z
def R22:List Value->Option (List UInt8)
 | []=>some []
 | .int .u8 (.ofNat n) :: r=>cond (Nat.blt n 256) (match R22 r with
  | some l=>some (UInt8.ofNat n :: l)
  | none=>none) none
 | _=>none
def Q53(x:X)(T:K0 Value)(H:Y0)(z:β)(k:Value->β):β:=
 W4 T x fun v=>match v with
  | .slice none _ _=>M6 k (.string ⟨#[]⟩)
  | .slice (some a) len _=>B19 H a len z fun cs=>match R22 cs with
   | some bs=>M6 k (.string ⟨⟨bs⟩⟩)
   | none=>z
  | _=>z
def M9(P:Program)(i:IR):K0 Value->Y0->β->(Value->β)->β:=
 @IR.rec (fun _=>K0 Value->Y0->β->(Value->β)->β) rLd rLk U53 X34 (fun x o T _ z k=>J70 P x o T z k) rSl Q53 i
def Z0:List Value->Bool
 | []=>true
 | .agg _ :: _ | .tuple _ :: _ | .chan _ :: _=>false
 | _ :: l=>Z0 l
inductive Q0 where
 | ptr
 | slice (len cap:Nat)
 | map
def Q0.val(q:Nat):Q0->Value
 | .ptr => .pointer (some { block:=q,off:=0 })
 | .slice l c => .slice (some { block:=q,off:=0 }) l c
 | .map => .map (some q)
def U3(z:List Value):Nat->List Value
 | 0=>[]
 | n+1=>z++U3 z n
inductive IA where
 | alloc (z:List Value)
 | box (x:X)
 | bsl (len size:Nat) (z:List Value) (parts:List (Nat × X))
 | msl (l c:X) (z:List Value)
 | mmap (x:Option X)
def evA(i:IA)(T:K0 Value)(z:β)(k:C1->Q0->β):β:=
 match i with
 | .alloc zero=>spine zero fun l=>k (.cells l 0) .ptr
 | .box x=>W4 T x fun v=>cond (Z0 v.cells.toList) (spine v.cells.toList fun l=>k (.cells l 0) .ptr) z
 | .bsl len size zero parts=>E34 T parts fun vs=>
  match V16 (fun k=>some (k*size,size)) (U3 zero len) vs with
  | some cs=>cond (Z0 cs) (spine cs fun cs=>k (.cells cs 0) (.slice len len)) z
  | none=>z
 | .msl l c zero=>W4 T l fun vl=>W4 T c fun vc=>match vl,vc with
  | .int .i64 (.ofNat l),.int .i64 (.ofNat c)=>cond (Nat.ble l c&&Nat.ble c 1000000) (spine (U3 zero c) fun cs=>k (.cells cs 0) (.slice l c)) z
  | _,_=>z
 | .mmap x=>R24 T x fun x=>match x with
  | none=>k (.map [] 0) .map
  | some (.int _ _)=>k (.map [] 0) .map
  | _=>z
inductive IE where
 | st (x v:X) (size:Nat)
 | upd (kd:TypeDesc) (m k v:X)
 | call (f:X) (args:List X)
 | app (s x:X) (size bytes:Nat)
 | copy (d s:X) (size:Nat)
 | clrM (m:X)
 | clrS (s:X) (zero:List Value)
abbrev Z3(β:Type):=FuncId->List Value->Y0->Nat->β->(Value->Y0->Nat->β)->β
def U12(H:Y0)(a:Addr)(vs:List Value)(z:β)(k:Y0->β):β:=
 match a with
 | ⟨b,o,none⟩=>D12 H b z fun blk=>match blk with
  | .cells c sl=>cond (Nat.ble (o+vs.length) c.length)
   (spine (c.take o++vs++c.drop (o+vs.length)) fun c=>hsK H b (some (.cells c sl)) k) z
  | _=>z
 | _=>z
def Z5(H:Y0)(size n:Nat)(x:Value)(z:β)(k:List Value->β):β:=
 match x with
 | .slice (some a) _ _=>B19 H a (n*size) z k
 | .slice none _ _=>k []
 | .string s=>M22 ((s.extract 0 n).data.toList.map fun b => .int .u8 b.toNat) k
 | _=>z
def Y45:Value->Option Nat
 | .slice _ n _=>some n
 | .string s=>some s.size
 | _=>none
def C42(H:Y0)(nx:Nat)(size J O E n:Nat)(base:Option Addr)(new:List Value)(z:β)(k:Value->Y0->Nat->β):β:=
 match base with
 | none=>cond (Nat.beq n 0) (k (.slice none J E) H nx) z
 | some ⟨b,o,none⟩=>M2 (o+O*size) fun o'=>U12 H ⟨b,o',none⟩ new z fun H'=>k (.slice (some ⟨b,o,none⟩) J E) H' nx
 | _=>z
def K11(H:Y0)(nx size E:Nat)(cs:List Value)(k:Value->Y0->Nat->β):β:=
 M2 (nx+1) fun J=>M2 size fun size=>hsK H nx (some (.cells cs size)) fun H'=>k (.slice (some ⟨nx,0,none⟩) E E) H' J
def D22(H:Y0)(nx:Nat)(size E J:Nat)(base:Option Addr)(cs:List Value)(z:β)(k:Value->Y0->Nat->β):β:=
 match base with
 | none=>K11 H nx size E cs k
 | some ⟨b,o,none⟩=>D12 H b z fun blk=>match N8 blk o J size with
  | some false=>K11 H nx size E cs k
  | some true=>hsK H b none fun H=>K11 H nx size E cs k
  | none=>z
 | _=>z
def Z22(H:Y0)(nx:Nat)(size bytes:Nat)(s x:Value)(z:β)(k:Value->Y0->Nat->β):β:=
 match s,Y45 x with
 | .slice base sLen sCap,some n=>M2 (sLen+n) fun E=>
  cond (Nat.ble ((2*E+1000)*bytes) 281474976710656&&Nat.ble E 1000000000)
   (Z5 H size n x z fun new=>cond (Z0 new)
   (cond (Nat.ble E sCap) (C42 H nx size E sLen sCap n base new z k)
    (Z5 H size sLen s z fun J=>spine (J++new) fun cs=>cond (Nat.beq cs.length (E*size)) (D22 H nx size E sCap base cs z k) z)) z) z
 | _,_=>z
def E41(f:X)(args:List X)(call:Z3 β)(T:K0 Value)(H:Y0)(nx:Nat)(z:β)(k:Value->Y0->Nat->β):β:=
 W4 T f fun vf=>match vf with
  | .func (.func g) ⟨first⟩ ⟨cap⟩=>U17 T args fun vs=>spine (first++vs++cap) fun vs=>call g vs H nx z k
  | _=>z
def eSt(x v:X)(size:Nat)(_:Z3 β)(T:K0 Value)(H:Y0)(nx:Nat)(z:β)(k:Value->Y0->Nat->β):β:=
 W4 T x fun vx=>W4 T v fun vv=>match vx with
  | .pointer (some a)=>cond (Nat.beq vv.cells.toList.length size&&Z0 vv.cells.toList)
   (U12 H a vv.cells.toList z fun H=>k undef H nx) z
  | _=>z
def G52(kd:TypeDesc)(H:Y0)(nx:Nat)(r:Nat)(vk vv:Value)(z:β)(k:Value->Y0->Nat->β)(b:C1):β:=
 match b with
 | .map es clock=>cond (Q9 kd vk)
  (match Instr.findNow kd vk es 0 with
   | some (some (i,_))=>(match nth es i with
    | some e=>spine (R26 es i { key:=vk,val:=vv,born:=e.born }) fun es=>hsK H r (some (.map es clock)) fun H=>k undef H nx
    | none=>z)
   | some none=>spine (es++[{ key:=vk,val:=vv,born:=clock }]) fun es=>M2 (clock+1) fun c=>hsK H r (some (.map es c)) fun H=>k undef H nx
   | none=>z) z
 | _=>z
def U54(kd:TypeDesc)(m key v:X)(_:Z3 β)(T:K0 Value)(H:Y0)(nx:Nat)(z:β)(k:Value->Y0->Nat->β):β:=
 W4 T m fun vm=>W4 T key fun vk=>W4 T v fun vv=>match vm with
  | .map (some r)=>D12 H r z (G52 kd H nx r vk vv z k)
  | _=>z
def B41(d s:X)(size:Nat)(_:Z3 β)(T:K0 Value)(H:Y0)(nx:Nat)(z:β)(k:Value->Y0->Nat->β):β:=
 W4 T d fun vd=>W4 T s fun vs=>match vd,Y45 vs with
  | .slice base dLen _,some m=>M2 (Nat.min m dLen) fun n=>Z5 H size n vs z fun cs=>cond (Z0 cs) (match base with
   | none=>M6 (M6 (M6 k (.int .i64 (.ofNat n))) H) nx
   | some a=>U12 H a cs z fun H=>M6 (M6 (M6 k (.int .i64 (.ofNat n))) H) nx) z
  | _,_=>z
def Y42(m:X)(_:Z3 β)(T:K0 Value)(H:Y0)(nx:Nat)(z:β)(k:Value->Y0->Nat->β):β:=
 W4 T m fun v=>match v with
  | .map none=>k undef H nx
  | .map (some r)=>D12 H r z fun b=>match b with
   | .map _ clock=>hsK H r (some (.map [] clock)) fun H=>k undef H nx
   | _=>z
  | _=>z
def W42(s:X)(zero:List Value)(_:Z3 β)(T:K0 Value)(H:Y0)(nx:Nat)(z:β)(k:Value->Y0->Nat->β):β:=
 W4 T s fun v=>match v with
  | .slice none _ _=>k undef H nx
  | .slice (some ⟨b,o,none⟩) n _=>cond (Nat.beq n 0) (k undef H nx) (cond (Z0 (U3 zero n)) (U12 H ⟨b,o,none⟩ (U3 zero n) z fun H=>k undef H nx) z)
  | _=>z
def evE(i:IE):Z3 β->K0 Value->Y0->Nat->β->(Value->Y0->Nat->β)->β:=
 @IE.rec (fun _=>Z3 β->K0 Value->Y0->Nat->β->(Value->Y0->Nat->β)->β)
  eSt U54 E41 (fun s x size bytes _ T H nx z k=>W4 T s fun vs=>W4 T x fun vx=>Z22 H nx size bytes vs vx z k) B41 Y42 W42 i
inductive I where
 | p (i:IP)
 | r (i:IR)
 | a (i:IA)
 | e (i:IE)
def R13(P:Program):List Field->Option (List (Nat × Nat))
 | []=>some []
 | f :: fs=>match P.info? f.type,R13 P fs with
  | some i,some l=>some ((f.offset,i.size) :: l)
  | _,_=>none
def M10(P:Program)(t:TypeId):Option (List Value):=
 match P.info? t with
 | some i=>match i.zero with
  | some z=>cond (X7 z&&Z0 z.cells.toList&&Nat.beq z.cells.toList.length i.size) (some z.cells.toList) none
  | none=>none
 | none=>none
def G8:TypeDesc->Bool
 | .struct _ | .array _ _=>true
 | _=>false
def E8(P:Program)(t:TypeId):Option (Option Nat):=
 match P.underlying t,P.info? t with
 | some d,some i=>some (cond (G8 d) (some i.size) none)
 | _,_=>none
def Y27(n size:Nat):List (Nat × Nat):=(List.range n).map fun i=>(i*size,size)
def N69:BinOp->Option Bool
 | .eql=>some false
 | .neq=>some true
 | _=>none
def W36:Option TypeDesc->Option Nat
 | some (.int _)=>some 0
 | some .bool=>some 1
 | some .string=>some 2
 | _=>none
def D27(P:Program):List Field->Option (List (Nat × Nat))
 | []=>some []
 | f :: fs=>match W36 (P.underlying f.type),D27 P fs with
  | some tag,some os=>some ((f.offset,tag) :: os)
  | _,_=>none
def V43 (P:Program) (t:TypeId) (fs:List Field):Option (List (Nat × Nat)):=
 cond (!P.stoodInHeld t && !P.eqGuardType P.depth t && fs.all fun f => f.name != "_") (D27 P fs) none
def G19(P:Program)(n:Nat)(o:Oper):Option I:=
 match o.op with
 | .move x | .assign x=>(N0 n x).map fun x => .p (.mv x)
 | .pick c a b=>match N0 n c,N0 n a,N0 n b with
  | some c,some a,some b=>some (.p (.pick c a b))
  | _,_,_=>none
 | .binOp op t x y _=>match N0 n x,N0 n y with
  | some x,some y=>match N69 op with
   | none=>some (.p (.bin op x y))
   | some neg=>match P.underlying t with
    | some (.int _)=>some (.p (.bin op x y))
    | some .string=>some (.p (.bin op x y))
    | some .bool=>some (.p (.vf (.eqb neg) [x,y]))
    | some (.pointer e)=>some (.p (.vf (.eqn neg (.pointer e)) [x,y]))
    | some (.slice e)=>some (.p (.vf (.eqn neg (.slice e)) [x,y]))
    | some (.map a e)=>some (.p (.vf (.eqn neg (.map a e)) [x,y]))
    | some (.func a e c)=>some (.p (.vf (.eqn neg (.func a e c)) [x,y]))
    | some (.struct fs)=>(match V43 P t fs.toList with
     | some offs=>some (.p (.vf (.eqs neg offs) [x,y]))
     | none=>some (.p (.eq neg (P.underlying t) x y o)))
    | _=>some (.p (.eq neg (P.underlying t) x y o))
  | _,_=>none
 | .unOp op _ x=>match N0 n x with
  | some x=>some (.p (.un op x))
  | none=>none
 | .fieldAddr s x f=>match N0 n x,P.underlying s with
  | some x,some (.struct fs)=>match nth fs.toList f with
   | some fd=>match P.info? fd.type with
    | some i=>cond (Nat.beq i.size 0) none (some (.p (.fld x fd.offset)))
    | none=>none
   | none=>none
  | _,_=>none
 | .indexAddr t x ix=>match N0 n x,N0 n ix,P.underlying t with
  | some x,some ix,some (.slice e)=>match P.info? e with
   | some i=>some (.p (.idx x ix none i.size))
   | none=>none
  | some x,some ix,some (.array len e)=>match P.info? e with
   | some i=>some (.p (.idx x ix (some len) i.size))
   | none=>none
  | _,_,_=>none
 | .nilCheck x=>(N0 n x).map fun x => .p (.nilc x)
 | .extract x i=>(N0 n x).map fun x => .p (.ext x i)
 | .field t x f=>match N0 n x,P.underlying t with
  | some x,some (.struct fs)=>match nth fs.toList f with
   | some fd=>(E8 P fd.type).map fun sh => .p (.part x fd.offset sh)
   | none=>none
  | _,_=>none
 | .index t x ix=>match N0 n x,N0 n ix,P.underlying t with
  | some x,some ix,some (.array len e)=>match P.info? e,P.underlying e with
   | some i,some d=>some (.p (.aidx x ix len i.size (G8 d)))
   | _,_=>none
  | some x,some ix,some .string=>some (.p (.vf .sidx [x,ix]))
  | _,_,_=>none
 | .build t parts=>match P.underlying t,M10 P t,R16 n parts.toList with
  | some (.struct fields),some z,some ps=>(R13 P fields.toList).map fun pl => .p (.build z pl ps)
  | some (.array k e),some z,some ps=>match P.info? e with
   | some i=>some (.p (.build z (Y27 k i.size) ps))
   | none=>none
  | _,_,_=>none
 | .slice t x lo hi mx=>match N0 n x,B8 n lo,B8 n hi,B8 n mx,P.underlying t with
  | some x,some lo,some hi,some mx,some (.slice e)=>match P.info? e with
   | some i=>some (.r (.sl x i.size lo hi mx))
   | none=>none
  | some x,some lo,some hi,some mx,some (.array k e)=>match P.info? e with
   | some i=>some (.p (.slA x k i.size lo hi mx))
   | none=>none
  | some x,some lo,some hi,some none,some .string=>some (.p (.vf (.ssl lo.isSome hi.isSome) (x :: (lo.toList++hi.toList))))
  | _,_,_,_,_=>none
 | .makeFunc fn first E=>match U7 n first.toList,U7 n E.toList with
  | some f,some c=>some (.p (.mkf fn f c))
  | _,_=>none
 | .makeInterface t x=>match N0 n x,P.underlying t with
  | some _,some (.interface _)=>none
  | some x,some _=>some (.p (.mki t x))
  | _,_=>none
 | .load t x=>match N0 n x,E8 P t with
  | some x,some sh=>some (.r (.ld x sh))
  | _,_=>none
 | .lookup t x ix ok=>match N0 n x,N0 n ix,P.underlying t with
  | some x,some ix,some (.map key elem)=>match P.underlying key,P.info? elem with
   | some kd,some ie=>match ie.zero with
    | some z=>cond (X7 z) (some (.r (.lk kd z x ix ok))) none
    | none=>none
   | _,_=>none
  | _,_,_=>none
 | .convert src dst x=>match N0 n x,P.underlying src,P.underlying dst with
  | some x,some (.int _),some (.int k)=>some (.r (.convI k x))
  | some x,some (.slice e),some .string=>match P.underlying e with
   | some (.int .u8)=>some (.r (.str x))
   | _=>some (.r (.conv x o))
  | some x,some _,some _=>some (.r (.conv x o))
  | _,_,_=>none
 | .alloc e=>(M10 P e).map fun z => .a (.alloc z)
 | .box _ x=>(N0 n x).map fun x => .a (.box x)
 | .buildSlice t len parts=>match P.underlying t,R16 n parts.toList with
  | some (.slice e),some ps=>match M10 P e,P.info? e with
   | some z,some i=>cond (Nat.ble (len*i.size) 16777216) (some (.a (.bsl len i.size z ps))) none
   | _,_=>none
  | _,_=>none
 | .makeSlice t l c=>match N0 n l,N0 n c,P.underlying t with
  | some l,some c,some (.slice e)=>match M10 P e,P.info? e with
   | some z,some i=>cond (Nat.ble i.bytes 100000) (some (.a (.msl l c z))) none
   | _,_=>none
  | _,_,_=>none
 | .makeMap t r=>match B8 n r,P.underlying t with
  | some r,some (.map _ _)=>some (.a (.mmap r))
  | _,_=>none
 | .store t x v=>match N0 n x,N0 n v,P.info? t with
  | some x,some v,some i=>some (.e (.st x v i.size))
  | _,_,_=>none
 | .mapUpdate t m k v=>match N0 n m,N0 n k,N0 n v,P.underlying t with
  | some m,some k,some v,some (.map key _)=>(P.underlying key).map fun kd => .e (.upd kd m k v)
  | _,_,_,_=>none
 | .call c=>match c.callee with
  | .value f=>match N0 n f,U7 n c.args.toList with
   | some f,some xs=>some (.e (.call f xs))
   | _,_=>none
  | .builtin .append=>match c.argTypes.toList,c.args.toList with
   | t :: u :: _,s :: x :: _=>match N0 n s,N0 n x,P.underlying t,P.underlying u with
    | some s,some x,some (.slice e),some ud=>match M10 P e,P.info? e with
     | some _,some i=>(match ud with
      | .int _=>none
      | _=>cond (Nat.blt 0 i.size) (some (.e (.app s x i.size i.bytes))) none)
     | _,_=>none
    | _,_,_,_=>none
   | _,_=>none
  | .builtin .copy=>match c.argTypes.toList,c.args.toList with
   | t :: _,s :: x :: _=>match N0 n s,N0 n x,P.underlying t with
    | some s,some x,some (.slice e)=>(P.info? e).map fun i => .e (.copy s x i.size)
    | _,_,_=>none
   | _,_=>none
  | .builtin .len=>match c.argTypes.toList,c.args.toList with
   | [t],[x]=>match N0 n x,P.underlying t with
    | some x,some (.slice _)=>some (.r (.len x 0))
    | some x,some .string=>some (.r (.len x 1))
    | some x,some (.map _ _)=>some (.r (.len x 2))
    | _,_=>none
   | _,_=>none
  | .builtin .min=>(U7 n c.args.toList).map fun xs => .p (.vf (.mm false) xs)
  | .builtin .max=>(U7 n c.args.toList).map fun xs => .p (.vf (.mm true) xs)
  | .builtin .clear=>match c.argTypes.toList,c.args.toList with
   | [t],[x]=>match N0 n x,P.underlying t with
    | some x,some (.map _ _)=>some (.e (.clrM x))
    | some x,some (.slice e)=>(M10 P e).map fun z => .e (.clrS x z)
    | _,_=>none
   | _,_=>none
  | _=>none
 | .sliceToArrayPointer J x=>match N0 n x,P.underlying J with
  | some x,some (.array k _)=>some (.p (.vf (.s2a k) [x]))
  | _,_=>none
 | .insert t m k v=>match N0 n m,N0 n k,N0 n v,P.underlying t with
  | some m,some k,some v,some (.map key _)=>(P.underlying key).map fun kd => .e (.upd kd m k v)
  | _,_,_,_=>none
 | _=>none
def W18(P:Program)(n:Nat)(o:Oper):Option I:=
 match G19 P n o with
 | some i=>some i
 | none=>some (.p (.vf .bad []))
theorem E20{P:Program}{n:Nat}{o:Oper}{i:I}(h:W18 P n o=some i):G19 P n o=some i\/i = .p (.vf .bad []):=by
 unfold W18 at h
 split at h
 .cases h;exact .inl (by assumption)
 .cases h;exact .inr rfl
structure S where
 guard:Option (Nat × Bool)
 dst:Option Nat
 i:I
def W16(n:Nat)(ops:List Oper):Option (Nat × Bool)->Option (Option (Nat × Bool))
 | none=>some none
 | some (j,want)=>match nth ops j with
  | some o=>match o.dst with
   | some t=>cond (Nat.blt t n) (some (some (t,want))) none
   | none=>none
  | none=>none
def E42(n:Nat):Option Tmp->Option (Option Nat)
 | none=>some none
 | some t=>cond (Nat.blt t n) (some (some t)) none
def K16(P:Program)(n:Nat)(ops:List Oper)(o:Oper):Option S:=
 match W16 n ops o.guard,E42 n o.dst,W18 P n o with
 | some g,some d,some i=>some ⟨g,d,i⟩
 | _,_,_=>none
def R3(P:Program)(n:Nat)(ops:List Oper):List Oper->Option (List S)
 | []=>some []
 | o :: l=>match K16 P n ops o,R3 P n ops l with
  | some s,some l=>some (s :: l)
  | _,_=>none
def Q1(acc:List Nat)(es:List Edge)(m:Nat):Nat:=
 match es with
 | []=>m
 | e :: es=>cond (Region.binds .any e)
  (Q1 acc es (m ||| 2^e.on ||| (match nth acc e.on with | some x=>x | none=>0)))
  (Q1 acc es m)
def D26{β:Type}(acc:List Nat)(ops:List Oper)(f:List Nat->β):β:=
 match ops with
 | []=>f acc
 | o :: ops=>M2 (Q1 acc o.after.toList 0) fun m=>D26 (acc++[m]) ops f
def U1(ops:List Oper):List Nat:=D26 [] ops id
def D2(ms:List Nat)(i j:Nat):Bool:=
 match nth ms i with
 | some m=>Nat.testBit m j
 | none=>false
def J17(ops:List Oper)(o:Oper):List Tmp:=
 (o.op.operands.toList.filterMap fun x=>match x with | .tmp t=>some t | _=>none) ++
 (match o.guard with
  | some (g,_)=>match nth ops g with
   | some o=>o.dst.toList
   | none=>[]
  | none=>[])
def E13(ms:List Nat)(ops:List Oper):List Oper->Nat->Bool
 | [],_=>true
 | o :: rest,i=>
  (ops.zipIdx.all fun(oj,j)=>match oj.dst with
   | none=>true
   | some d=>Nat.beq i j || ((!(o.dst==some d))&&(!((J17 ops o).contains d) || D2 ms i j || D2 ms j i))) &&
  (match o.guard with
   | none=>true
   | some (g,_)=>D2 ms i g&&Nat.blt g i) &&
  (match o.dst with
   | none=>true
   | some d => !(J17 ops o).contains d) &&
  o.after.toList.all (fun e => !Region.binds .any e || Nat.blt e.on i) &&
  E13 ms ops rest (i+1)
structure Rd where
 i:Nat
 r:IR
 T:K0 Value
 v:Value
def Y3(ms:List Nat)(es:List Nat)(j:Nat):Bool:=es.any fun e=>D2 ms e j
def U13{β:Type}(ms:List Nat)(N:Nat)(es:List Nat)(i:Nat)(H:Y0)(f:Y0->β):List (Nat × C1)->β
 | []=>f H
 | (j,b) :: as=>cond (D2 ms i j && !Y3 ms es j)
  (hsK H (N+j) (some b) fun H=>U13 ms N es i H f as)
  (U13 ms N es i H f as)
mutual
def veq:Nat->Value->Value->Bool
 | 0,_,_=>false
 | n+1,x,y=>match x,y with
  | .bool a,.bool b=>a==b
  | .int j a,.int k b=>eqK j k&&eqI a b
  | .float j a,.float k b=>decide (j=k)&&Nat.beq a b
  | .string a,.string b=>decide (a=b)
  | .pointer a,.pointer b=>decide (a=b)
  | .slice a l c,.slice a' l' c'=>decide (a=a')&&Nat.beq l l'&&Nat.beq c c'
  | .map a,.map b=>decide (a=b)
  | .nilFunc,.nilFunc=>true
  | .nilIface,.nilIface=>true
  | .func f x y,.func f' x' y'=>decide (f=f')&&D25 n x.toList x'.toList&&D25 n y.toList y'.toList
  | .iface t v,.iface t' v'=>Nat.beq t t'&&veq n v v'
  | .agg a,.agg b=>D25 n a.toList b.toList
  | .tuple a,.tuple b=>D25 n a.toList b.toList
  | _,_=>false
def D25:Nat->List Value->List Value->Bool
 | 0,_,_=>false
 | n+1,x,y=>match x,y with
  | [],[]=>true
  | a :: x,b :: y=>veq n a b&&D25 n x y
  | _,_=>false
end
def E22(P:Program)(ms:List Nat)(N:Nat)(as:List (Nat × C1))(r:Rd):List Nat->List Y0->Y0->List Nat->Bool
 | es,Ms,M,later=>
  (cond (es.any (fun e=>D2 ms e r.i) || later.any (fun e=>D2 ms r.i e)) true
   (U13 ms N es r.i M (fun h=>M9 P r.r r.T h false fun v=>veq 64 v r.v) as)) &&
  (match es,Ms with
   | e :: es',M' :: Ms'=>cond (D2 ms r.i e) true (E22 P ms N as r es' Ms' M' (e :: later))
   | [],[]=>true
   | _,_=>false)
def Z13{β:Type}(ms:List Nat)(N:Nat)(es:List Nat)(H:Y0)(f:Y0->β):List (Nat × C1)->β
 | []=>f H
 | (j,b) :: as=>cond (Y3 ms es j) (Z13 ms N es H f as) (hsK H (N+j) (some b) fun H=>Z13 ms N es H f as)
def E4(d:Nat)(dst:Option Nat)(v:Value)(T:K0 Value)(k:K0 Value->β):β:=
 match dst with
 | none=>k T
 | some t=>tsK d T t v k
def V8(g:Option (Nat × Bool))(T:K0 Value)(z E no:β):β:=
 match g with
 | none=>E
 | some (t,want)=>tgK T t no fun v=>match v with
  | .bool b=>ifK (cond b want (!want)) E no
  | .chan _=>z
  | _=>no
def Z4{β:Type}(P:Program)(d:Nat)(call:Z3 β)(ms:List Nat)(N:Nat)(z:β)
  (k:K0 Value->Y0->Nat->List Y0->List Nat->List (Nat × C1)->List Rd->β):
  List S->Nat->K0 Value->Y0->Nat->List Y0->List Nat->List (Nat × C1)->List Rd->β
 | [],_,T,H,nx,Ms,es,as,rs=>k T H nx Ms es as rs
 | ⟨g,dst,op⟩ :: l,i,T,H,nx,Ms,es,as,rs=>V8 g T z
  (match op with
   | .p op=>X4 P op T z fun v=>E4 d dst v T fun T=>Z4 P d call ms N z k l (i+1) T H nx Ms es as rs
   | .r op=>U13 ms N es i H (fun h=>M9 P op T h z fun v=>E4 d dst v T fun T'=>Z4 P d call ms N z k l (i+1) T' H nx Ms es as (⟨i,op,T,v⟩ :: rs)) as
   | .a op=>evA op T z fun b y=>M2 (N+i) fun q=>M0 (y.val q) fun v=>E4 d dst v T fun T=>Z4 P d call ms N z k l (i+1) T H nx Ms es ((i,b) :: as) rs
   | .e op=>cond (es.all fun e=>D2 ms i e)
    (U13 ms N es i H (fun h=>evE op call T h nx z fun v H' nx=>E4 d dst v T fun T=>Z4 P d call ms N z k l (i+1) T H' nx (H :: Ms) (i :: es) as rs) as) z)
  (E4 d dst undef T fun T=>Z4 P d call ms N z k l (i+1) T H nx Ms es as rs)
inductive C where
 | skip
 | ops (l:List S)
 | draw (ms:List Nat) (l:List S)
 | seq (a b:C)
 | cond (x:X) (t e:C)
 | block (id:Nat) (c:C)
 | loop (c:C)
 | exit (id:Nat)
 | ret
def R2(P:Program)(n:Nat):Code->Option C
 | .skip | .label _=>some .skip
 | .region _ ops draw=>match R3 P n ops.toList ops.toList with
  | some l=>(match draw with
   | false=>some (.ops l)
   | true=>cond (E13 (U1 ops.toList) ops.toList ops.toList 0) (some (.draw (U1 ops.toList) l)) none)
  | none=>none
 | .seq a b=>match R2 P n a,R2 P n b with
  | some a,some b=>some (.seq a b)
  | _,_=>none
 | .cond x t e=>match N0 n x,R2 P n t,R2 P n e with
  | some x,some t,some e=>some (.cond x t e)
  | _,_,_=>none
 | .block id c=>(R2 P n c).map (.block id)
 | .loop c=>(R2 P n c).map .loop
 | .scope c=>R2 P n c
 | .exit id=>some (.exit id)
 | .ret=>some .ret
 | _=>none
def C54(i:IP)(P:Program)(d:Nat)(dst:Option Nat)(_:Z3 β)(T:K0 Value)(H:Y0)(nx:Nat)(z:β)(k:K0 Value->Y0->Nat->β):β:=
 X4 P i T z fun v=>E4 d dst v T fun T=>k T H nx
def K56(i:IR)(P:Program)(d:Nat)(dst:Option Nat)(_:Z3 β)(T:K0 Value)(H:Y0)(nx:Nat)(z:β)(k:K0 Value->Y0->Nat->β):β:=
 M9 P i T H z fun v=>E4 d dst v T fun T=>k T H nx
def J36(d:Nat)(dst:Option Nat)(T:K0 Value)(H:Y0)(nx:Nat)(k:K0 Value->Y0->Nat->β)(b:C1)(y:Q0):β:=
 hsK H nx (some b) fun H=>M2 (nx+1) fun n=>X13 (y.val nx) fun v=>E4 d dst v T fun T=>k T H n
def Z42(i:IA)(_:Program)(d:Nat)(dst:Option Nat)(_:Z3 β)(T:K0 Value)(H:Y0)(nx:Nat)(z:β)(k:K0 Value->Y0->Nat->β):β:=
 evA i T z (J36 d dst T H nx k)
def N53(i:IE)(_:Program)(d:Nat)(dst:Option Nat)(call:Z3 β)(T:K0 Value)(H:Y0)(nx:Nat)(z:β)(k:K0 Value->Y0->Nat->β):β:=
 evE i call T H nx z fun v H nx=>E4 d dst v T fun T=>k T H nx
def V30(i:I):Program->Nat->Option Nat->Z3 β->K0 Value->Y0->Nat->β->(K0 Value->Y0->Nat->β)->β:=
 @I.rec (fun _=>Program->Nat->Option Nat->Z3 β->K0 Value->Y0->Nat->β->(K0 Value->Y0->Nat->β)->β) C54 K56 Z42 N53 i
def U18(P:Program)(d:Nat)(call:Z3 β)(s:S)(T:K0 Value)(H:Y0)(nx:Nat)(z:β)(k:K0 Value->Y0->Nat->β):β:=
 @S.rec (fun _=>β) (fun g dst op=>V8 g T z (V30 op P d dst call T H nx z k) (E4 d dst undef T fun T=>k T H nx)) s
def C9(P:Program)(d:Nat)(call:Z3 β)(z:β)(k:K0 Value->Y0->Nat->β)(l:List S):K0 Value->Y0->Nat->β:=
 @List.rec S (fun _=>K0 Value->Y0->Nat->β) k (fun s _ ih T H nx=>U18 P d call s T H nx z ih) l
abbrev K(β:Type):=K0 Value->Y0->Nat->β
abbrev E12(β:Type):=List Nat->Nat->List (Nat × C1)->List Rd->List Nat->List Y0->Y0->β->β->β
abbrev E15(β:Type):=β->(K β->K β)->K β
def D43(P:Program):E12 β:=fun ms N as rs es Ms H y z=>cond (rs.all fun r=>E22 P ms N as r es Ms H []) y z
def N45(m:Nat):E15 β:=fun z f=>@Nat.rec (fun _=>K β) (fun _ _ _=>z) (fun _ ih=>f ih) m
def Z28(P:Program)(d:Nat)(call:Z3 β)(E:E12 β)(z:β)(ms:List Nat)(l:List S)(T:K0 Value)(H:Y0)(nx:Nat)(k:K β):β:=
 M2 (nx+l.length) fun nx'=>
  Z4 P d call ms nx z (fun T H n Ms es as rs=>E ms nx as rs es Ms H (Z13 ms nx es H (fun H=>k T H n) as) z) l 0 T H nx' [] [] [] []
def X71(l:List S)(P:Program)(d:Nat)(call:Z3 β)(_:E12 β)(_:E15 β)(z:β)(T:K0 Value)(H:Y0)(nx:Nat)(k:K β)(_:Nat->K β)(_:K β):β:=
 C9 P d call z k l T H nx
def V70(ms:List Nat)(l:List S)(P:Program)(d:Nat)(call:Z3 β)(E:E12 β)(_:E15 β)(z:β)(T:K0 Value)(H:Y0)(nx:Nat)(k:K β)(_:Nat->K β)(_:K β):β:=
 Z28 P d call E z ms l T H nx k
abbrev CK(β:Type):=Program->Nat->Z3 β->E12 β->E15 β->β->K0 Value->Y0->Nat->K β->(Nat->K β)->K β->β
def Y71(_ _:C)(a b:CK β)(P:Program)(d:Nat)(call:Z3 β)(E:E12 β)(fx:E15 β)(z:β)(T:K0 Value)(H:Y0)(nx:Nat)(k:K β)(x:Nat->K β)(r:K β):β:=
 a P d call E fx z T H nx (fun T H nx=>b P d call E fx z T H nx k x r) x r
def U70(c:X)(_ _:C)(t e:CK β)(P:Program)(d:Nat)(call:Z3 β)(E:E12 β)(fx:E15 β)(z:β)(T:K0 Value)(H:Y0)(nx:Nat)(k:K β)(x:Nat->K β)(r:K β):β:=
 W4 T c fun v=>match v with
  | .bool b=>ifK b (t P d call E fx z T H nx k x r) (e P d call E fx z T H nx k x r)
  | _=>z
def Z69(id:Nat)(_:C)(c:CK β)(P:Program)(d:Nat)(call:Z3 β)(J:E12 β)(fx:E15 β)(z:β)(T:K0 Value)(H:Y0)(nx:Nat)(k:K β)(x:Nat->K β)(r:K β):β:=
 c P d call J fx z T H nx k (fun E T H nx=>cond (Nat.beq E id) (k T H nx) (x E T H nx)) r
def D70(_:C)(c:CK β)(P:Program)(d:Nat)(call:Z3 β)(E:E12 β)(fx:E15 β)(z:β)(T:K0 Value)(H:Y0)(nx:Nat)(_:K β)(x:Nat->K β)(r:K β):β:=
 fx z (fun ih T H nx=>c P d call E fx z T H nx ih x r) T H nx
def N6(c:C):CK β:=
 @C.rec (fun _=>CK β)
  (fun _ _ _ _ _ _ T H nx k _ _=>k T H nx)
  X71 V70 Y71 U70 Z69 D70
  (fun id _ _ _ _ _ _ T H nx _ x _=>x id T H nx)
  (fun _ _ _ _ _ _ T H nx _ _ r=>r T H nx) c
def M17(P:Program)(n:Nat):List ResultVar->Option (List (X × Option (Option Nat)))
 | []=>some []
 | r :: rs=>match (match r with
   | .tmp t=>cond (Nat.blt t n) (some (X.s t,none)) none
   | .cell a t=>cond (Nat.blt a n) ((E8 P t).map fun sh=>(X.s a,some sh)) none),M17 P n rs with
  | some r,some rs=>some (r :: rs)
  | _,_=>none
structure CF where
 n:Nat
 d:Nat
 body:C
 res:List (X × Option (Option Nat))
def cfn(P:Program)(f:FuncId):Option CF:=
 match nth P.funcs.toList f with
 | some fn=>match fn.body with
  | some c=>match R2 P fn.ntmps c,M17 P fn.ntmps fn.results.toList with
   | some body,some res=>some ⟨fn.ntmps,Nat.log2 fn.ntmps+1,body,res⟩
   | _,_=>none
  | none=>none
 | none=>none
def W24{β:Type}(P:Program)(T:K0 Value)(H:Y0)(z:β)(k:List Value->β):List (X × Option (Option Nat))->β
 | []=>k []
 | (x,sh) :: rs=>match sh with
  | none=>W4 T x fun v=>W24 P T H z (fun vs=>k (v :: vs)) rs
  | some sh=>M9 P (.ld x sh) T H z fun v=>W24 P T H z (fun vs=>k (v :: vs)) rs
def tup(vs:List Value):Value:=
 match vs with
 | [v]=>v
 | vs => .tuple ⟨vs⟩
def J27{β:Type}(d:Nat)(l:List Value)(i:Nat)(T:K0 Value)(f:K0 Value->β):β:=
 match l with
 | []=>f T
 | v :: l=>tsK d T i v fun T=>J27 d l (i+1) T f
abbrev Orc:=FuncId->Option (List Value->Y0->Nat->Option (Value × Y0 × Nat))
def G14(P:Program)(res:List (X × Option (Option Nat)))(z:β)(k:Value->Y0->Nat->β)(T:K0 Value)(H:Y0)(nx:Nat):β:=
 W24 P T H z (fun vs=>M0 (tup vs) fun v=>k v H nx) res
def W28(P:Program)(call:Z3 β)(E:E12 β)(fx:E15 β)(args:List Value)(H:Y0)(nx:Nat)(z:β)(k:Value->Y0->Nat->β)(n d:Nat)(body:C)(res:List (X × Option (Option Nat))):β:=
 cond (Nat.ble args.length n)
  (J27 d args 0 .leaf fun T=>N6 body P d call E fx z T H nx (G14 P res z k) (fun _ _ _ _=>z) (G14 P res z k)) z
def K42(P:Program)(E:Orc)(n:Nat):Z3 β:=
 @Nat.rec (fun _=>Z3 β) (fun _ _ _ _ z _=>z)
  (fun _ ih f args H nx z k=>match E f with
   | some o=>(match o args H nx with
    | some (v,H,nx)=>k v H nx
    | none=>z)
   | none=>match cfn P f with
    | some ⟨n,d,body,res⟩=>W28 P ih (D43 P) (N45 1000000) args H nx z k n d body res
    | none=>z) n
def U46(P:Program)(E:Orc)(n:Nat)(f:FuncId)(args:List Value):Option Value:=
 K42 P E n f args .leaf 0 none fun v _ _=>some v
end Go.Clo
