/-
  A closed executor: an interpreter over the model's code with a heap of its own names. This text: its definitions.
-/
import Derived.Calls
import Derived.Orders
import Derived.LoopN
import Derived.Scope
import Derived.KernelRfl
set_option linter.unusedSimpArgs false
set_option linter.unusedVariables false
set_option linter.unusedSectionVars false
namespace Go.Clo
variable {α β:Type}
inductive U1 (α:Type) where
 | leaf
 | tip (a:α)
 | node (l r:U1 α)
inductive V4 where
 | cells (c:List Value) (sl:Nat)
 | map (es:List MapEntry) (clock:Nat)
 | rom (c:List Value)
def V4.isRom:V4->Bool
 | .rom _=>true
 | _=>false
inductive Y0 where
 | leaf
 | node (v:Option V4) (l r:Y0)
@[reducible] def apK {α β:Type} (k:α->β) (a:α):β:=k a
noncomputable def tgK (T:U1 α):Nat->β->(α->β)->β:=
 @U1.rec α (fun _=>Nat->β->(α->β)->β) (fun _ z _=>z) (fun v _ _ k=>k v)
  (fun _ _ l r t z k=>@Nat.rec (fun _=>β) (l (Nat.div t 2) z k) (fun _ _=>r (Nat.div t 2) z k) (Nat.mod t 2)) T
noncomputable def tsK (d:Nat):U1 α->Nat->α->(U1 α->β)->β:=
 @Nat.rec (fun _=>U1 α->Nat->α->(U1 α->β)->β) (fun _ _ a k=>k (.tip a))
  (fun _ ih t i a k=>@U1.rec α (fun _=>β)
   (@Nat.rec (fun _=>β) (ih .leaf (Nat.div i 2) a fun l=>k (.node l .leaf)) (fun _ _=>ih .leaf (Nat.div i 2) a fun r=>k (.node .leaf r)) (Nat.mod i 2))
   (fun _=>@Nat.rec (fun _=>β) (ih .leaf (Nat.div i 2) a fun l=>k (.node l .leaf)) (fun _ _=>ih .leaf (Nat.div i 2) a fun r=>k (.node .leaf r)) (Nat.mod i 2))
   (fun l r _ _=>@Nat.rec (fun _=>β) (ih l (Nat.div i 2) a fun l=>k (.node l r)) (fun _ _=>ih r (Nat.div i 2) a fun r=>k (.node l r)) (Nat.mod i 2)) t) d
noncomputable def hgK (H:Y0):Nat->β->(V4->β)->β:=
 @Y0.rec (fun _=>Nat->β->(V4->β)->β) (fun _ z _=>z)
  (fun v _ _ l r i z k=>@Nat.rec (fun _=>β) (@Option.rec V4 (fun _=>β) z k v)
   (fun j _=>@Nat.rec (fun _=>β) (l (Nat.div j 2) z k) (fun _ _=>r (Nat.div j 2) z k) (Nat.mod j 2)) i) H
noncomputable def hsF (fuel:Nat):Y0->Nat->Option V4->(Y0->β)->β:=
 @Nat.rec (fun _=>Y0->Nat->Option V4->(Y0->β)->β) (fun H _ _ k=>k H)
  (fun _ ih H i b k=>@Y0.rec (fun _=>β)
   (@Nat.rec (fun _=>β) (apK k (.node b .leaf .leaf))
    (fun j _=>@Nat.rec (fun _=>β) (ih .leaf (Nat.div j 2) b fun l=>apK k (.node none l .leaf)) (fun _ _=>ih .leaf (Nat.div j 2) b fun r=>apK k (.node none .leaf r)) (Nat.mod j 2)) i)
   (fun v l r _ _=>@Nat.rec (fun _=>β) (apK k (.node b l r))
    (fun j _=>@Nat.rec (fun _=>β) (ih l (Nat.div j 2) b fun l=>apK k (.node v l r)) (fun _ _=>ih r (Nat.div j 2) b fun r=>apK k (.node v l r)) (Nat.mod j 2)) i) H) fuel
noncomputable def hsK (H:Y0) (i:Nat) (b:Option V4) (k:Y0->β):β:=hsF (Nat.log2 (Nat.add i 1)+1) H i b k
noncomputable def X47 (l:List α):Nat->β->(α->β)->β:=
 @List.rec α (fun _=>Nat->β->(α->β)->β) (fun _ z _=>z)
  (fun a _ ih n z k=>@Nat.rec (fun _=>β) (k a) (fun m _=>ih m z k) n) l
noncomputable def ifK (b:Bool) (x y:β):β:=@Bool.rec (fun _=>β) y x b
def E2 (n:Nat) (f:Nat->β):β:=
 match n with
 | 0=>f 0
 | Nat.succ m=>f (Nat.succ m)
def W26 (n:Int) (f:Int->β):β:=
 match n with
 | .ofNat m=>E2 m fun m=>f (.ofNat m)
 | .negSucc m=>E2 m fun m=>f (.negSucc m)
def Q20 (b:Bool) (f:Bool->β):β:=
 match b with
 | true=>f true
 | false=>f false
def Q52 (a:Option Addr) (f:Option Addr->β):β:=
 match a with
 | none=>f none
 | some a=>match a with
  | ⟨b,o,s⟩=>E2 b fun b=>E2 o fun o=>match s with
   | none=>f (some ⟨b,o,none⟩)
   | some s=>f (some ⟨b,o,some s⟩)
def R17 (v:Value) (f:Value->β):β:=
 match v with
 | .bool b=>Q20 b fun b=>f (.bool b)
 | .int k n=>W26 n fun n=>f (.int k n)
 | .pointer a=>Q52 a fun a=>f (.pointer a)
 | .slice a l c=>Q52 a fun a=>E2 l fun l=>E2 c fun c=>f (.slice a l c)
 | .map r=>match r with
  | none=>f (.map none)
  | some r=>E2 r fun r=>f (.map (some r))
 | v=>f v
def W36 {β:Type} (l:List Value) (f:List Value->β):β:=
 match l with
 | []=>f []
 | v :: l=>R17 v fun v=>W36 l fun l=>f (v :: l)
def W1 (v:Value) (f:Value->β):β:=
 match v with
 | .agg cs=>W36 cs.toList fun l=>f (.agg ⟨l⟩)
 | .tuple cs=>W36 cs.toList fun l=>f (.tuple ⟨l⟩)
 | v=>R17 v f
def R7 {α β:Type} (l:List α) (f:List α->β):β:=
 match l with
 | []=>f []
 | v :: l=>R7 l fun l=>f (v :: l)
def nth {α:Type}:List α->Nat->Option α
 | [],_=>none
 | a :: l,k=>match k with
  | 0=>some a
  | k+1=>nth l k
def E40 {α:Type}:List α->Nat->α->List α
 | [],_,_=>[]
 | a :: l,k,b=>match k with
  | 0=>b :: l
  | k+1=>a :: E40 l k b
def W9:Value->Bool
 | .bool _ | .int _ _ | .float _ _ | .complex _ _ _ | .string _ | .nilFunc | .nilIface=>true
 | .pointer a=>a.isNone
 | .slice a _ _=>a.isNone
 | .map r=>r.isNone
 | _=>false
def C11:Value->Bool
 | .agg cs=>cs.toList.all W9
 | .tuple cs=>cs.toList.all W9
 | v=>W9 v
def W49 {α:Type} (P:Program):Sem α->Option α
 | .pure a=>some a
 | .program k=>W49 P (k P)
 | .mark _ k=>W49 P k
 | _=>none
inductive X where
 | s (t:Nat)
 | c (v:Value)
def Q2 (n:Nat):Operand->Option X
 | .tmp t=>cond (Nat.blt t n) (some (.s t)) none
 | .const v=>cond (C11 v) (some (.c v)) none
 | .global _=>none
 | .func f=>some (.c (.func (.func f) #[] #[]))
def E12 (n:Nat):List Operand->Option (List X)
 | []=>some []
 | x :: l=>match Q2 n x,E12 n l with
  | some x,some l=>some (x :: l)
  | _,_=>none
def D14 (n:Nat):Option Operand->Option (Option X)
 | none=>some none
 | some x=>match Q2 n x with
  | some x=>some (some x)
  | none=>none
def E26 (n:Nat):List (Nat × Operand)->Option (List (Nat × X))
 | []=>some []
 | (i,x) :: l=>match Q2 n x,E26 n l with
  | some x,some l=>some ((i,x) :: l)
  | _,_=>none
noncomputable def E7 (T:U1 Value) (x:X) (k:Value->β):β:=
 @X.rec (fun _=>β) (fun t=>tgK T t (k undef) k) (fun v=>k v) x
noncomputable def W27 (T:U1 Value) (l:List X):(List Value->β)->β:=
 @List.rec X (fun _=>(List Value->β)->β) (fun k=>k []) (fun x _ ih k=>E7 T x fun v=>ih fun vs=>k (v :: vs)) l
noncomputable def Q37 (T:U1 Value) (x:Option X) (k:Option Value->β):β:=
 match x with
 | none=>k none
 | some x=>E7 T x fun v=>k (some v)
noncomputable def K53 {β:Type} (T:U1 Value) (l:List (Nat × X)) (k:List (Nat × Value)->β):β:=
 match l with
 | []=>k []
 | (i,x) :: l=>E7 T x fun v=>K53 T l fun vs=>k ((i,v) :: vs)
inductive VF where
 | eqb (neg:Bool)
 | eqn (neg:Bool) (t:TypeDesc)
 | eqs (neg:Bool) (offs:List (Nat × Nat))
 | sidx
 | ssl (lo hi:Bool)
 | mm (mx:Bool)
 | s2a (n:Nat)
 | bad
inductive IP where
 | mv (x:X)
 | pick (c a b:X)
 | bin (op:BinOp) (x y:X)
 | un (op:UnOp) (x:X)
 | eq (neg:Bool) (t:Option TypeDesc) (x y:X) (o:Oper)
 | scal (xs:List X) (o:Oper)
 | fld (x:X) (off:Nat)
 | idx (x ix:X) (len:Option Nat) (size:Nat)
 | nilc (x:X)
 | ext (x:X) (i:Nat)
 | part (x:X) (off:Nat) (size:Option Nat)
 | aidx (x ix:X) (len size:Nat) (agg:Bool)
 | build (z:List Value) (pl:List (Nat × Nat)) (parts:List (Nat × X))
 | slA (x:X) (n size:Nat) (lo hi mx:Option X)
 | mkf (fn:Fn) (first cap:List X)
 | mki (t:TypeId) (x:X)
 | vf (f:VF) (xs:List X)
def Z43:Value->Bool
 | .pointer a=>a.isNone
 | .slice a _ _=>a.isNone
 | .map r=>r.isNone
 | .nilFunc=>true
 | _=>false
def M14 (t:Option TypeDesc) (x y:Value):Option Bool:=
 match t,x,y with
 | some (.pointer _),.pointer a,.pointer b=>cond (a.isNone || b.isNone) (some (a.isNone&&b.isNone)) none
 | some (.slice _),.slice a _ _,.slice b _ _=>cond (a.isNone || b.isNone) (some (a.isNone&&b.isNone)) none
 | some (.map _ _),.map a,.map b=>cond (a.isNone || b.isNone) (some (a.isNone&&b.isNone)) none
 | some (.func _ _ _),.nilFunc,.func _ _ _=>some false
 | some (.func _ _ _),.func _ _ _,.nilFunc=>some false
 | some (.func _ _ _),.nilFunc,.nilFunc=>some true
 | _,_,_=>none
noncomputable def G61 (T:U1 Value):Operand->Value
 | .tmp t=>tgK T t undef id
 | .const v=>v
 | .global _=>undef
 | .func f => .func (.func f) #[] #[]
noncomputable def E33 (P:Program) (T:U1 Value) (xs:List X) (o:Oper) (z:β) (k:Value->β):β:=
 W27 T xs fun vs=>cond (vs.all C11)
  (match W49 P (execOp (G61 T) o) with
   | some (.value v)=>W1 v fun v=>cond (C11 v) (k v) z
   | _=>z) z
def N22 (k:IntKind) (n:Int):Bool:=
 match n with
 | .ofNat m=>(match k with
  | .i64=>Nat.blt m 9223372036854775808
  | .u32=>Nat.blt m 4294967296
  | .u64=>Nat.blt m 18446744073709551616
  | .u8=>Nat.blt m 256
  | _=>false)
 | .negSucc m=>(match k with
  | .i64=>Nat.blt m 9223372036854775808
  | _=>false)
def C72 (a b:Int):Int:=
 match a,b with
 | .ofNat a,.ofNat b => .ofNat (Nat.add a b)
 | a,b=>a+b
def B76 (a b:Int):Int:=
 match a,b with
 | .ofNat a,.ofNat b=>cond (Nat.ble b a) (.ofNat (Nat.sub a b)) (.negSucc (Nat.sub (Nat.sub b a) 1))
 | a,b=>a-b
def ltI (a b:Int):Bool:=
 match a,b with
 | .ofNat a,.ofNat b=>Nat.blt a b
 | .negSucc _,.ofNat _=>true
 | .ofNat _,.negSucc _=>false
 | .negSucc a,.negSucc b=>Nat.blt b a
def leI (a b:Int):Bool:=
 match a,b with
 | .ofNat a,.ofNat b=>Nat.ble a b
 | .negSucc _,.ofNat _=>true
 | .ofNat _,.negSucc _=>false
 | .negSucc a,.negSucc b=>Nat.ble b a
def eqI (a b:Int):Bool:=
 match a,b with
 | .ofNat a,.ofNat b=>Nat.beq a b
 | .negSucc a,.negSucc b=>Nat.beq a b
 | _,_=>false
def eqK:IntKind->IntKind->Bool
 | .i8,.i8 | .i16,.i16 | .i32,.i32 | .i64,.i64 | .u8,.u8 | .u16,.u16 | .u32,.u32 | .u64,.u64=>true
 | _,_=>false
def R11 (op:BinOp) (k:IntKind) (a b:Int):Option Value:=
 match op with
 | .add=>some (.int k (k.wrap (a+b)))
 | .sub=>some (.int k (k.wrap (a-b)))
 | .mul=>some (.int k (k.wrap (a*b)))
 | .quo=>if b=0 then none else some (.int k (k.wrap (a.tdiv b)))
 | .rem=>if b=0 then none else some (.int k (a.tmod b))
 | .and=>some (.int k (k.wrap (BitVec.ofInt k.bits a &&& BitVec.ofInt k.bits b).toNat))
 | .or=>some (.int k (k.wrap (BitVec.ofInt k.bits a ||| BitVec.ofInt k.bits b).toNat))
 | .xor=>some (.int k (k.wrap (BitVec.ofInt k.bits a ^^^ BitVec.ofInt k.bits b).toNat))
 | .andNot=>some (.int k (k.wrap (BitVec.ofInt k.bits a &&& ~~~(BitVec.ofInt k.bits b)).toNat))
 | .eql=>some (.bool (a==b))
 | .neq=>some (.bool (a != b))
 | .lss=>some (.bool (decide (a<b)))
 | .leq=>some (.bool (decide (a<=b)))
 | .gtr=>some (.bool (decide (a > b)))
 | .geq=>some (.bool (decide (a ≥ b)))
 | _=>none
def E73 (op:BinOp) (a b:ByteArray):Option Value:=
 match op with
 | .add=>if ((a.size+b.size:Nat):Int) > IntKind.i64.max then none else some (.string (a++b))
 | .eql=>some (.bool (a.toList==b.toList))
 | .neq=>some (.bool !(a.toList==b.toList))
 | .lss=>some (.bool (Op.bytesLess a.toList b.toList))
 | .leq=>some (.bool (Op.bytesLess a.toList b.toList || a.toList==b.toList))
 | .gtr=>some (.bool !(Op.bytesLess a.toList b.toList || a.toList==b.toList))
 | .geq=>some (.bool !(Op.bytesLess a.toList b.toList))
 | _=>none
def E20 (op:BinOp) (k:IntKind) (a b:Int):Option Value:=
 if b<0 then none else match op with
  | .shl=>some (.int k (k.wrap (a*2^min b.toNat k.bits)))
  | .shr=>some (.int k (a.fdiv (2^min b.toNat k.bits)))
  | _=>none
def M7:BinOp->Bool
 | .shl | .shr=>true
 | _=>false
def U12 (op:BinOp) (x y:Value):Option Value:=
 match x,y with
 | .int k a,.int k' b=>cond (M7 op) (E20 op k a b) (cond (eqK k k') (R11 op k a b) none)
 | .string a,.string b=>E73 op a b
 | _,_=>none
def unV (op:UnOp) (x:Value):Option Value:=
 match op,x with
 | .neg,.int k n=>some (.int k (k.wrap (0-n)))
 | .xor,.int k n=>some (.int k (k.wrap (BitVec.ofInt k.bits (if k.signed then -1 else k.max) ^^^ BitVec.ofInt k.bits n).toNat))
 | .not,.bool b=>some (.bool !b)
 | _,_=>none
noncomputable def B34 (r:Option Value) (z:β) (f:Value->β):β:=
 match r with
 | some v=>R17 v f
 | none=>z
noncomputable def W72 (op:BinOp) (k:IntKind) (a b:Int) (z:β) (f:Value->β):β:=
 match op with
 | .add=>W26 (C72 a b) fun r=>cond (N22 k r) (f (.int k r)) (B34 (R11 op k a b) z f)
 | .sub=>W26 (B76 a b) fun r=>cond (N22 k r) (f (.int k r)) (B34 (R11 op k a b) z f)
 | .lss=>Q20 (ltI a b) fun r=>f (.bool r)
 | .leq=>Q20 (leI a b) fun r=>f (.bool r)
 | .gtr=>Q20 (ltI b a) fun r=>f (.bool r)
 | .geq=>Q20 (leI b a) fun r=>f (.bool r)
 | .eql=>Q20 (eqI a b) fun r=>f (.bool r)
 | .neq=>Q20 (!(eqI a b)) fun r=>f (.bool r)
 | op=>B34 (R11 op k a b) z f
noncomputable def W61 (op:BinOp) (vx vy:Value) (z:β) (f:Value->β):β:=
 match vx,vy with
 | .int k a,.int k' b=>cond (M7 op) (B34 (E20 op k a b) z f) (cond (eqK k k') (W72 op k a b z f) z)
 | .string a,.string b=>B34 (E73 op a b) z f
 | _,_=>z
noncomputable def E75 (op:BinOp) (x y:X) (T:U1 Value) (z:β) (f:Value->β):β:=
 E7 T x fun vx=>E7 T y fun vy=>W61 op vx vy z f
noncomputable def unK (op:UnOp) (x:X) (T:U1 Value) (z:β) (f:Value->β):β:=
 E7 T x fun v=>B34 (unV op v) z f
noncomputable def N73 (P:Program) (T:U1 Value) (neg:Bool) (t:Option TypeDesc) (x y:X) (o:Oper) (z:β) (f:Value->β):β:=
 E7 T x fun vx=>E7 T y fun vy=>
  match vx,vy with
  | .int k a,.int k' b=>cond (eqK k k') (Q20 (cond neg (!(eqI a b)) (eqI a b)) fun r=>f (.bool r)) z
  | vx,vy=>cond (Z43 vx || Z43 vy)
   (match M14 t vx vy with
    | some b=>Q20 (cond neg (!b) b) fun r=>f (.bool r)
    | none=>z) (E33 P T [x,y] o z f)
def Q35:Value->Bool
 | .chan _=>false
 | _=>true
def V21 (place:Nat->Option (Nat × Nat)) (cells:List Value):List (Nat × Value)->Option (List Value)
 | []=>some cells
 | (i,v) :: rest=>
  match place i with
  | none=>none
  | some (off,size)=>
   cond (Nat.beq v.cells.toList.length size&&Nat.ble (off+size) cells.length&&Q35 v)
    (V21 place (cells.take off++v.cells.toList++cells.drop (off+size)) rest) none
def Z11 (x:Option Value) (top:Nat):Option Nat:=
 match x with
 | none=>some top
 | some v=>match v with
  | .int _ n=>match n with
   | .ofNat m=>cond (Nat.ble m top) (some m) none
   | _=>none
  | _=>none
def hiA (hi mx:Option Value) (len m:Nat):Option Nat:=
 match hi with
 | none=>(match mx with
  | none=>some len
  | some _=>none)
 | some v=>Z11 (some v) m
def loA (lo:Option Value) (h:Nat):Option Nat:=
 match lo with
 | none=>some 0
 | some v=>Z11 (some v) h
def N50 (tag:Nat) (x y:Value):Option Bool:=
 match tag,x,y with
 | 0,.int k a,.int k' b=>cond (eqK k k') (some (a==b)) none
 | 1,.bool a,.bool b=>some (a==b)
 | 2,.string a,.string b=>some (a.toList==b.toList)
 | _,_,_=>none
def C28 (a b:List Value):List (Nat × Nat)->Option Bool
 | []=>some true
 | (o,tag) :: os=>match nth a o,nth b o with
  | some x,some y=>(match N50 tag x y,C28 a b os with
   | some r,some r'=>some (r&&r')
   | _,_=>none)
  | _,_=>none
def K49 (s:ByteArray) (lo hi:Option Value):Option Value:=
 match (match hi with | none=>some s.size | some v=>Z11 (some v) s.size) with
 | none=>none
 | some h=>match (match lo with | none=>some 0 | some v=>Z11 (some v) h) with
  | none=>none
  | some l=>some (.string (s.extract l h))
def mmV (mx:Bool):Value->List Value->Option Value
 | .int k x,[]=>some (.int k x)
 | .int k x,.int _ y :: r=>mmV mx (.int k (cond mx (if y > x then y else x) (if y<x then y else x))) r
 | _,_=>none
def G54 (s:ByteArray) (n:Int):Option Value:=((if 0<=n then s[n.toNat]? else none):Option UInt8).map fun b => .int .u8 b.toNat
def VF.ev:VF->List Value->Option Value
 | .eqb neg,[.bool a,.bool b]=>some (.bool (cond neg (!(a==b)) (a==b)))
 | .eqn neg t,[x,y]=>(M14 (some t) x y).map fun b => .bool (cond neg (!b) b)
 | .eqs neg offs,[.agg a,.agg b]=>(C28 a.toList b.toList offs).map fun r => .bool (cond neg (!r) r)
 | .sidx,[.string s,.int _ n]=>G54 s n
 | .ssl false false,[.string s]=>K49 s none none
 | .ssl true false,[.string s,l]=>K49 s (some l) none
 | .ssl false true,[.string s,h]=>K49 s none (some h)
 | .ssl true true,[.string s,l,h]=>K49 s (some l) (some h)
 | .mm mx,x :: r=>mmV mx x r
 | .s2a n,[.slice (some ⟨b,o,none⟩) len _]=>cond (Nat.ble n len) (some (.pointer (some ⟨b,o,none⟩))) none
 | _,_=>none
noncomputable def vfK (f:VF) (xs:List X) (T:U1 Value) (z:β) (k:Value->β):β:=
 W27 T xs fun vs=>B34 (f.ev vs) z k
def G11 (a:Option Addr) (len cap size:Nat) (lo hi mx:Option Value) (loose:Bool):Option Value:=
 match Z11 mx cap with
 | none=>none
 | some m=>
  match hiA hi mx len m with
  | none=>none
  | some h=>
   match loA lo h with
   | none=>none
   | some l=>
    match a with
    | none=>some (.slice none (h-l) (m-l))
    | some a=>cond ((loose&&mx.isNone&&Nat.beq m l && !(Nat.beq l 0)) || !(Nat.ble l m)) none
     (some (.slice (some (cond (Nat.beq m l) a { block:=a.block,off:=a.off+l*size,spot:=a.spot })) (h-l) (m-l)))
noncomputable def N61 (c a b:X) (T:U1 Value) (z:β) (k:Value->β):β:=
 E7 T c fun v=>match v with
  | .bool t=>ifK t (E7 T a k) (E7 T b k)
  | _=>z
noncomputable def Q30 (n:Nat) (a:Addr) (k:Value->β):β:=
 E2 n fun n=>match a with
  | ⟨b,_,s⟩=>k (.pointer (some ⟨b,n,s⟩))
noncomputable def J75 (x:X) (off:Nat) (T:U1 Value) (z:β) (k:Value->β):β:=
 E7 T x fun v=>match v with
  | .pointer (some a)=>Q30 (a.off+off) a k
  | _=>z
noncomputable def Y61 (len:Option Nat) (size:Nat) (i:Nat) (z:β) (k:Value->β) (v:Value):β:=
 match len,v with
 | none,.slice (some a) n _=>cond (Nat.blt i n) (Q30 (a.off+i*size) a k) z
 | some n,.pointer (some a)=>cond (Nat.blt i n) (Q30 (a.off+i*size) a k) z
 | _,_=>z
noncomputable def N46 (x ix:X) (len:Option Nat) (size:Nat) (T:U1 Value) (z:β) (k:Value->β):β:=
 E7 T ix fun vi=>match vi with
  | .int _ (.ofNat i)=>E7 T x fun v=>Y61 len size i z k v
  | _=>z
noncomputable def D61 (x:X) (T:U1 Value) (z:β) (k:Value->β):β:=
 E7 T x fun v=>match v with
  | .pointer (some a)=>k (.pointer (some a))
  | _=>z
noncomputable def K75 (x:X) (i:Nat) (T:U1 Value) (z:β) (k:Value->β):β:=
 E7 T x fun v=>match v with
  | .tuple vs=>X47 vs.toList i z k
  | _=>z
noncomputable def N34 (l:List Value) (off:Nat) (size:Option Nat) (z:β) (k:Value->β):β:=
 match size with
 | some n=>R7 (l.drop off |>.take n) fun l=>k (.agg ⟨l⟩)
 | none=>X47 l off z k
noncomputable def E61 (x:X) (off:Nat) (size:Option Nat) (T:U1 Value) (z:β) (k:Value->β):β:=
 E7 T x fun v=>match v with
  | .agg cs=>N34 cs.toList off size z k
  | _=>z
noncomputable def R60 (x ix:X) (len size:Nat) (agg:Bool) (T:U1 Value) (z:β) (k:Value->β):β:=
 E7 T ix fun vi=>match vi with
  | .int _ (.ofNat i)=>E7 T x fun v=>match v with
   | .agg cs=>cond (Nat.blt i len) (N34 cs.toList (i*size) (cond agg (some size) none) z k) z
   | _=>z
  | _=>z
noncomputable def M51 (zero:List Value) (pl:List (Nat × Nat)) (parts:List (Nat × X)) (T:U1 Value) (z:β) (k:Value->β):β:=
 K53 T parts fun vs=>match V21 (nth pl) zero vs with
  | some cs=>R7 cs fun cs=>k (.agg ⟨cs⟩)
  | none=>z
noncomputable def K76 (x:X) (n size:Nat) (lo hi mx:Option X) (T:U1 Value) (z:β) (k:Value->β):β:=
 E7 T x fun v=>Q37 T lo fun lo=>Q37 T hi fun hi=>Q37 T mx fun mx=>match v with
  | .pointer (some a)=>(match G11 (some a) n n size lo hi mx false with
   | some r=>R17 r k
   | none=>z)
  | _=>z
noncomputable def Q7 (P:Program) (i:IP):U1 Value->β->(Value->β)->β:=
 @IP.rec (fun _=>U1 Value->β->(Value->β)->β)
  (fun x T _ k=>E7 T x k)
  N61
  E75 unK
  (fun neg t x y o T z k=>N73 P T neg t x y o z k)
  (fun xs o T z k=>E33 P T xs o z k)
  J75 N46 D61 K75 E61 R60 M51 K76
  (fun fn first cap T _ k=>W27 T first fun f=>W27 T cap fun c=>k (.func fn ⟨f⟩ ⟨c⟩))
  (fun t x T _ k=>E7 T x fun v=>k (.iface t v)) vfK i
inductive IR where
 | ld (x:X) (size:Option Nat)
 | lk (kd:TypeDesc) (zero:Value) (x ix:X) (ok:Bool)
 | len (x:X) (kd:Nat)
 | convI (kd:IntKind) (x:X)
 | conv (x:X) (o:Oper)
 | sl (x:X) (size:Nat) (lo hi mx:Option X)
 | str (x:X)
def N15:TypeDesc->Value->Bool
 | .int _,.int _ _=>true
 | .string,.string _=>true
 | .bool,.bool _=>true
 | _,_=>false
def D9 {α:Type}:Nat->List α->Option (List α)
 | 0,_=>some []
 | n+1,l=>match l with
  | []=>none
  | a :: l=>match D9 n l with
   | some r=>some (a :: r)
   | none=>none
noncomputable def J20 (H:Y0) (i:Nat) (z:β) (k:V4->β):β:=
 hgK H i z k
noncomputable def G24 (H:Y0) (a:Addr) (n:Nat) (z:β) (k:List Value->β):β:=
 match a with
 | ⟨b,o,none⟩=>J20 H b z fun b=>match b with
  | .cells c _=>(match D9 n (c.drop o) with
   | some l=>R7 l k
   | none=>z)
  | .rom c=>(match D9 n (c.drop o) with
   | some l=>R7 l k
   | none=>z)
  | _=>z
 | _=>z
noncomputable def ldC (o:Nat) (size:Option Nat) (z:β) (k:Value->β) (c:List Value):β:=
 match size with
  | none=>X47 c o z k
  | some n=>(match D9 n (c.drop o) with
   | some l=>R7 l fun l=>k (.agg ⟨l⟩)
   | none=>z)
noncomputable def ldB (o:Nat) (size:Option Nat) (z:β) (k:Value->β) (b:V4):β:=
 match b with
 | .cells c _=>ldC o size z k c
 | .rom c=>ldC o size z k c
 | _=>z
noncomputable def rLd (x:X) (size:Option Nat) (T:U1 Value) (H:Y0) (z:β) (k:Value->β):β:=
 E7 T x fun v=>match v with
  | .pointer (some ⟨b,o,none⟩)=>J20 H b z (ldB o size z k)
  | _=>z
noncomputable def rLk (kd:TypeDesc) (zero:Value) (x ix:X) (ok:Bool) (T:U1 Value) (H:Y0) (z:β) (k:Value->β):β:=
 E7 T x fun v=>E7 T ix fun vi=>cond (N15 kd vi)
  ((fun (es:List MapEntry->β)=>match v with
   | .map none=>es []
   | .map (some r)=>J20 H r z fun b=>match b with
    | .map l _=>es l
    | _=>z
   | _=>z) fun l=>match Instr.findNow kd vi l 0 with
    | some (some (_,v))=>cond ok (apK k (.tuple ⟨[v,.bool true]⟩)) (apK k v)
    | some none=>cond ok (apK k (.tuple ⟨[zero,.bool false]⟩)) (apK k zero)
    | none=>z) z
noncomputable def V75 (x:X) (kd:Nat) (T:U1 Value) (H:Y0) (z:β) (k:Value->β):β:=
 E7 T x fun v=>match kd,v with
  | 0,.slice _ n _=>apK k (.int .i64 (.ofNat n))
  | 1,.string s=>E2 s.size fun n=>apK k (.int .i64 (.ofNat n))
  | 2,.map none=>apK k (.int .i64 (.ofNat 0))
  | 2,.map (some r)=>J20 H r z fun b=>match b with
   | .map l _=>E2 l.length fun n=>apK k (.int .i64 (.ofNat n))
   | _=>z
  | _,_=>z
noncomputable def Y52 (kd:IntKind) (x:X) (T:U1 Value) (_:Y0) (z:β) (k:Value->β):β:=
 E7 T x fun v=>match v with
  | .int _ n=>cond (N22 kd n) (apK k (.int kd n)) (W26 (kd.wrap n) fun n=>apK k (.int kd n))
  | _=>z
noncomputable def N95 (P:Program) (x:X) (o:Oper) (T:U1 Value) (z:β) (k:Value->β):β:=E33 P T [x] o z k
def C10 (b:V4) (o cap size:Nat):Option Bool:=
 match b with
 | .cells c sl=>cond (Nat.beq sl 0) (some false) (cond (Nat.beq sl size) (some (Nat.beq (o+cap*size) c.length)) none)
 | .rom _=>some false
 | _=>none
noncomputable def slB (a:Addr) (len cap size:Nat) (lo hi mx:Option Value) (z:β) (k:Value->β) (b:V4):β:=
 match C10 b a.off cap size with
 | some l=>(match G11 (some a) len cap size lo hi mx l with
  | some r=>R17 r k
  | none=>z)
 | none=>z
noncomputable def rSl (x:X) (size:Nat) (lo hi mx:Option X) (T:U1 Value) (H:Y0) (z:β) (k:Value->β):β:=
 E7 T x fun v=>Q37 T lo fun lo=>Q37 T hi fun hi=>Q37 T mx fun mx=>match v with
  | .slice none len cap=>(match G11 none len cap size lo hi mx false with
   | some r=>R17 r k
   | none=>z)
  | .slice (some ⟨b,o,none⟩) len cap=>J20 H b z (slB ⟨b,o,none⟩ len cap size lo hi mx z k)
  | _=>z
def R35:List Value->Option (List UInt8)
 | []=>some []
 | .int .u8 (.ofNat n) :: r=>cond (Nat.blt n 256) (match R35 r with
  | some l=>some (UInt8.ofNat n :: l)
  | none=>none) none
 | _=>none
noncomputable def V74 (x:X) (T:U1 Value) (H:Y0) (z:β) (k:Value->β):β:=
 E7 T x fun v=>match v with
  | .slice none _ _=>apK k (.string ⟨#[]⟩)
  | .slice (some a) len _=>G24 H a len z fun cs=>match R35 cs with
   | some bs=>apK k (.string ⟨⟨bs⟩⟩)
   | none=>z
  | _=>z
noncomputable def evR (P:Program) (i:IR):U1 Value->Y0->β->(Value->β)->β:=
 @IR.rec (fun _=>U1 Value->Y0->β->(Value->β)->β) rLd rLk V75 Y52 (fun x o T _ z k=>N95 P x o T z k) rSl V74 i
def Z0:List Value->Bool
 | []=>true
 | .agg _ :: _ | .tuple _ :: _ | .chan _ :: _=>false
 | _ :: l=>Z0 l
inductive B0 where
 | ptr
 | slice (len cap:Nat)
 | map
def B0.val (q:Nat):B0->Value
 | .ptr => .pointer (some { block:=q,off:=0 })
 | .slice l c => .slice (some { block:=q,off:=0 }) l c
 | .map => .map (some q)
def V5 (z:List Value):Nat->List Value
 | 0=>[]
 | n+1=>z++V5 z n
inductive IA where
 | alloc (z:List Value)
 | box (x:X)
 | bsl (len size:Nat) (z:List Value) (parts:List (Nat × X))
 | msl (l c:X) (z:List Value)
 | mmap (x:Option X)
noncomputable def evA (i:IA) (T:U1 Value) (z:β) (k:V4->B0->β):β:=
 match i with
 | .alloc zero=>R7 zero fun l=>k (.cells l 0) .ptr
 | .box x=>E7 T x fun v=>cond (Z0 v.cells.toList) (R7 v.cells.toList fun l=>k (.cells l 0) .ptr) z
 | .bsl len size zero parts=>K53 T parts fun vs=>
  match V21 (fun k=>some (k*size,size)) (V5 zero len) vs with
  | some cs=>cond (Z0 cs) (R7 cs fun cs=>k (.cells cs 0) (.slice len len)) z
  | none=>z
 | .msl l c zero=>E7 T l fun vl=>E7 T c fun vc=>match vl,vc with
  | .int .i64 (.ofNat l),.int .i64 (.ofNat c)=>cond (Nat.ble l c&&Nat.ble c 1000000) (R7 (V5 zero c) fun cs=>k (.cells cs 0) (.slice l c)) z
  | _,_=>z
 | .mmap x=>Q37 T x fun x=>match x with
  | none=>k (.map [] 0) .map
  | some (.int _ _)=>k (.map [] 0) .map
  | _=>z
inductive IE where
 | st (x v:X) (size:Nat)
 | upd (kd:TypeDesc) (m k v:X)
 | call (f:X) (args:List X)
 | app (s x:X) (size bytes:Nat)
 | copy (d s:X) (size:Nat)
 | clrM (m:X)
 | clrS (s:X) (zero:List Value)
abbrev B5 (β:Type):=FuncId->List Value->Y0->Nat->β->(Value->Y0->Nat->β)->β
noncomputable def Q18 (H:Y0) (a:Addr) (vs:List Value) (z:β) (k:Y0->β):β:=
 match a with
 | ⟨b,o,none⟩=>J20 H b z fun blk=>match blk with
  | .cells c sl=>cond (Nat.ble (o+vs.length) c.length)
   (R7 (c.take o++vs++c.drop (o+vs.length)) fun c=>hsK H b (some (.cells c sl)) k) z
  | _=>z
 | _=>z
noncomputable def G8 (H:Y0) (size n:Nat) (x:Value) (z:β) (k:List Value->β):β:=
 match x with
 | .slice (some a) _ _=>G24 H a (n*size) z k
 | .slice none _ _=>k []
 | .string s=>W36 ((s.extract 0 n).data.toList.map fun b => .int .u8 b.toNat) k
 | _=>z
def B54:Value->Option Nat
 | .slice _ n _=>some n
 | .string s=>some s.size
 | _=>none
noncomputable def N60 (H:Y0) (nx:Nat) (size need sLen sCap n:Nat) (base:Option Addr) (new:List Value) (z:β) (k:Value->Y0->Nat->β):β:=
 match base with
 | none=>cond (Nat.beq n 0) (k (.slice none need sCap) H nx) z
 | some ⟨b,o,none⟩=>E2 (o+sLen*size) fun o'=>Q18 H ⟨b,o',none⟩ new z fun H'=>k (.slice (some ⟨b,o,none⟩) need sCap) H' nx
 | _=>z
noncomputable def C17 (H:Y0) (nx size need:Nat) (cs:List Value) (k:Value->Y0->Nat->β):β:=
 E2 (nx+1) fun nx1=>E2 size fun size=>hsK H nx (some (.cells cs size)) fun H'=>k (.slice (some ⟨nx,0,none⟩) need need) H' nx1
noncomputable def B26 (H:Y0) (nx:Nat) (size need sCap:Nat) (base:Option Addr) (cs:List Value) (z:β) (k:Value->Y0->Nat->β):β:=
 match base with
 | none=>C17 H nx size need cs k
 | some ⟨b,o,none⟩=>J20 H b z fun blk=>match C10 blk o sCap size with
  | some false=>C17 H nx size need cs k
  | some true=>hsK H b none fun H=>C17 H nx size need cs k
  | none=>z
 | _=>z
noncomputable def X27 (H:Y0) (nx:Nat) (size bytes:Nat) (s x:Value) (z:β) (k:Value->Y0->Nat->β):β:=
 match s,B54 x with
 | .slice base sLen sCap,some n=>E2 (sLen+n) fun need=>
  cond (Nat.ble ((2*need+1000)*bytes) 281474976710656&&Nat.ble need 1000000000)
   (G8 H size n x z fun new=>cond (Z0 new)
   (cond (Nat.ble need sCap) (N60 H nx size need sLen sCap n base new z k)
    (G8 H size sLen s z fun old=>R7 (old++new) fun cs=>cond (Nat.beq cs.length (need*size)) (B26 H nx size need sCap base cs z k) z)) z) z
 | _,_=>z
noncomputable def C60 (f:X) (args:List X) (call:B5 β) (T:U1 Value) (H:Y0) (nx:Nat) (z:β) (k:Value->Y0->Nat->β):β:=
 E7 T f fun vf=>match vf with
  | .func (.func g) ⟨first⟩ ⟨cap⟩=>W27 T args fun vs=>R7 (first++vs++cap) fun vs=>call g vs H nx z k
  | _=>z
noncomputable def eSt (x v:X) (size:Nat) (_:B5 β) (T:U1 Value) (H:Y0) (nx:Nat) (z:β) (k:Value->Y0->Nat->β):β:=
 E7 T x fun vx=>E7 T v fun vv=>match vx with
  | .pointer (some a)=>cond (Nat.beq vv.cells.toList.length size&&Z0 vv.cells.toList)
   (Q18 H a vv.cells.toList z fun H=>k undef H nx) z
  | _=>z
noncomputable def Z74 (kd:TypeDesc) (H:Y0) (nx:Nat) (r:Nat) (vk vv:Value) (z:β) (k:Value->Y0->Nat->β) (b:V4):β:=
 match b with
 | .map es clock=>cond (N15 kd vk)
  (match Instr.findNow kd vk es 0 with
   | some (some (i,_))=>(match nth es i with
    | some e=>R7 (E40 es i { key:=vk,val:=vv,born:=e.born }) fun es=>hsK H r (some (.map es clock)) fun H=>k undef H nx
    | none=>z)
   | some none=>R7 (es++[{ key:=vk,val:=vv,born:=clock }]) fun es=>E2 (clock+1) fun c=>hsK H r (some (.map es c)) fun H=>k undef H nx
   | none=>z) z
 | _=>z
noncomputable def N72 (kd:TypeDesc) (m key v:X) (_:B5 β) (T:U1 Value) (H:Y0) (nx:Nat) (z:β) (k:Value->Y0->Nat->β):β:=
 E7 T m fun vm=>E7 T key fun vk=>E7 T v fun vv=>match vm with
  | .map (some r)=>J20 H r z (Z74 kd H nx r vk vv z k)
  | _=>z
noncomputable def J61 (d s:X) (size:Nat) (_:B5 β) (T:U1 Value) (H:Y0) (nx:Nat) (z:β) (k:Value->Y0->Nat->β):β:=
 E7 T d fun vd=>E7 T s fun vs=>match vd,B54 vs with
  | .slice base dLen _,some m=>E2 (Nat.min m dLen) fun n=>G8 H size n vs z fun cs=>cond (Z0 cs) (match base with
   | none=>apK (apK (apK k (.int .i64 (.ofNat n))) H) nx
   | some a=>Q18 H a cs z fun H=>apK (apK (apK k (.int .i64 (.ofNat n))) H) nx) z
  | _,_=>z
noncomputable def Z61 (m:X) (_:B5 β) (T:U1 Value) (H:Y0) (nx:Nat) (z:β) (k:Value->Y0->Nat->β):β:=
 E7 T m fun v=>match v with
  | .map none=>k undef H nx
  | .map (some r)=>J20 H r z fun b=>match b with
   | .map _ clock=>hsK H r (some (.map [] clock)) fun H=>k undef H nx
   | _=>z
  | _=>z
noncomputable def M60 (s:X) (zero:List Value) (_:B5 β) (T:U1 Value) (H:Y0) (nx:Nat) (z:β) (k:Value->Y0->Nat->β):β:=
 E7 T s fun v=>match v with
  | .slice none _ _=>k undef H nx
  | .slice (some ⟨b,o,none⟩) n _=>cond (Nat.beq n 0) (k undef H nx) (cond (Z0 (V5 zero n)) (Q18 H ⟨b,o,none⟩ (V5 zero n) z fun H=>k undef H nx) z)
  | _=>z
noncomputable def evE (i:IE):B5 β->U1 Value->Y0->Nat->β->(Value->Y0->Nat->β)->β:=
 @IE.rec (fun _=>B5 β->U1 Value->Y0->Nat->β->(Value->Y0->Nat->β)->β)
  eSt N72 C60 (fun s x size bytes _ T H nx z k=>E7 T s fun vs=>E7 T x fun vx=>X27 H nx size bytes vs vx z k) J61 Z61 M60 i
inductive I where
 | p (i:IP)
 | r (i:IR)
 | a (i:IA)
 | e (i:IE)
def M21 (P:Program):List Field->Option (List (Nat × Nat))
 | []=>some []
 | f :: fs=>match P.info? f.type,M21 P fs with
  | some i,some l=>some ((f.offset,i.size) :: l)
  | _,_=>none
def J18 (P:Program) (t:TypeId):Option (List Value):=
 match P.info? t with
 | some i=>match i.zero with
  | some z=>cond (C11 z&&Z0 z.cells.toList&&Nat.beq z.cells.toList.length i.size) (some z.cells.toList) none
  | none=>none
 | none=>none
def Y15:TypeDesc->Bool
 | .struct _ | .array _ _=>true
 | _=>false
def X15 (P:Program) (t:TypeId):Option (Option Nat):=
 match P.underlying t,P.info? t with
 | some d,some i=>some (cond (Y15 d) (some i.size) none)
 | _,_=>none
def C40 (n size:Nat):List (Nat × Nat):=(List.range n).map fun i=>(i*size,size)
def U95:BinOp->Option Bool
 | .eql=>some false
 | .neq=>some true
 | _=>none
def M55:Option TypeDesc->Option Nat
 | some (.int _)=>some 0
 | some .bool=>some 1
 | some .string=>some 2
 | _=>none
def Y43 (P:Program):List Field->Option (List (Nat × Nat))
 | []=>some []
 | f :: fs=>match M55 (P.underlying f.type),Y43 P fs with
  | some tag,some os=>some ((f.offset,tag) :: os)
  | _,_=>none
def U67 (P:Program) (t:TypeId) (fs:List Field):Option (List (Nat × Nat)):=
 cond (!P.stoodInHeld t && !P.eqGuardType P.depth t && fs.all fun f => f.name != "_") (Y43 P fs) none
def V31 (P:Program) (n:Nat) (o:Oper):Option I:=
 match o.op with
 | .move x | .assign x=>(Q2 n x).map fun x => .p (.mv x)
 | .pick c a b=>match Q2 n c,Q2 n a,Q2 n b with
  | some c,some a,some b=>some (.p (.pick c a b))
  | _,_,_=>none
 | .binOp op t x y _=>match Q2 n x,Q2 n y with
  | some x,some y=>match U95 op with
   | none=>some (.p (.bin op x y))
   | some neg=>match P.underlying t with
    | some (.int _)=>some (.p (.bin op x y))
    | some .string=>some (.p (.bin op x y))
    | some .bool=>some (.p (.vf (.eqb neg) [x,y]))
    | some (.pointer e)=>some (.p (.vf (.eqn neg (.pointer e)) [x,y]))
    | some (.slice e)=>some (.p (.vf (.eqn neg (.slice e)) [x,y]))
    | some (.map a e)=>some (.p (.vf (.eqn neg (.map a e)) [x,y]))
    | some (.func a e c)=>some (.p (.vf (.eqn neg (.func a e c)) [x,y]))
    | some (.struct fs)=>(match U67 P t fs.toList with
     | some offs=>some (.p (.vf (.eqs neg offs) [x,y]))
     | none=>some (.p (.eq neg (P.underlying t) x y o)))
    | _=>some (.p (.eq neg (P.underlying t) x y o))
  | _,_=>none
 | .unOp op _ x=>match Q2 n x with
  | some x=>some (.p (.un op x))
  | none=>none
 | .fieldAddr s x f=>match Q2 n x,P.underlying s with
  | some x,some (.struct fs)=>match nth fs.toList f with
   | some fd=>match P.info? fd.type with
    | some i=>cond (Nat.beq i.size 0) none (some (.p (.fld x fd.offset)))
    | none=>none
   | none=>none
  | _,_=>none
 | .indexAddr t x ix=>match Q2 n x,Q2 n ix,P.underlying t with
  | some x,some ix,some (.slice e)=>match P.info? e with
   | some i=>some (.p (.idx x ix none i.size))
   | none=>none
  | some x,some ix,some (.array len e)=>match P.info? e with
   | some i=>some (.p (.idx x ix (some len) i.size))
   | none=>none
  | _,_,_=>none
 | .nilCheck x=>(Q2 n x).map fun x => .p (.nilc x)
 | .extract x i=>(Q2 n x).map fun x => .p (.ext x i)
 | .field t x f=>match Q2 n x,P.underlying t with
  | some x,some (.struct fs)=>match nth fs.toList f with
   | some fd=>(X15 P fd.type).map fun sh => .p (.part x fd.offset sh)
   | none=>none
  | _,_=>none
 | .index t x ix=>match Q2 n x,Q2 n ix,P.underlying t with
  | some x,some ix,some (.array len e)=>match P.info? e,P.underlying e with
   | some i,some d=>some (.p (.aidx x ix len i.size (Y15 d)))
   | _,_=>none
  | some x,some ix,some .string=>some (.p (.vf .sidx [x,ix]))
  | _,_,_=>none
 | .build t parts=>match P.underlying t,J18 P t,E26 n parts.toList with
  | some (.struct fields),some z,some ps=>(M21 P fields.toList).map fun pl => .p (.build z pl ps)
  | some (.array k e),some z,some ps=>match P.info? e with
   | some i=>some (.p (.build z (C40 k i.size) ps))
   | none=>none
  | _,_,_=>none
 | .slice t x lo hi mx=>match Q2 n x,D14 n lo,D14 n hi,D14 n mx,P.underlying t with
  | some x,some lo,some hi,some mx,some (.slice e)=>match P.info? e with
   | some i=>some (.r (.sl x i.size lo hi mx))
   | none=>none
  | some x,some lo,some hi,some mx,some (.array k e)=>match P.info? e with
   | some i=>some (.p (.slA x k i.size lo hi mx))
   | none=>none
  | some x,some lo,some hi,some none,some .string=>some (.p (.vf (.ssl lo.isSome hi.isSome) (x :: (lo.toList++hi.toList))))
  | _,_,_,_,_=>none
 | .makeFunc fn first captured=>match E12 n first.toList,E12 n captured.toList with
  | some f,some c=>some (.p (.mkf fn f c))
  | _,_=>none
 | .makeInterface t x=>match Q2 n x,P.underlying t with
  | some _,some (.interface _)=>none
  | some x,some _=>some (.p (.mki t x))
  | _,_=>none
 | .load t x=>match Q2 n x,X15 P t with
  | some x,some sh=>some (.r (.ld x sh))
  | _,_=>none
 | .lookup t x ix ok=>match Q2 n x,Q2 n ix,P.underlying t with
  | some x,some ix,some (.map key elem)=>match P.underlying key,P.info? elem with
   | some kd,some ie=>match ie.zero with
    | some z=>cond (C11 z) (some (.r (.lk kd z x ix ok))) none
    | none=>none
   | _,_=>none
  | _,_,_=>none
 | .convert src dst x=>match Q2 n x,P.underlying src,P.underlying dst with
  | some x,some (.int _),some (.int k)=>some (.r (.convI k x))
  | some x,some (.slice e),some .string=>match P.underlying e with
   | some (.int .u8)=>some (.r (.str x))
   | _=>some (.r (.conv x o))
  | some x,some _,some _=>some (.r (.conv x o))
  | _,_,_=>none
 | .alloc e=>(J18 P e).map fun z => .a (.alloc z)
 | .box _ x=>(Q2 n x).map fun x => .a (.box x)
 | .buildSlice t len parts=>match P.underlying t,E26 n parts.toList with
  | some (.slice e),some ps=>match J18 P e,P.info? e with
   | some z,some i=>cond (Nat.ble (len*i.size) 16777216) (some (.a (.bsl len i.size z ps))) none
   | _,_=>none
  | _,_=>none
 | .makeSlice t l c=>match Q2 n l,Q2 n c,P.underlying t with
  | some l,some c,some (.slice e)=>match J18 P e,P.info? e with
   | some z,some i=>cond (Nat.ble i.bytes 100000) (some (.a (.msl l c z))) none
   | _,_=>none
  | _,_,_=>none
 | .makeMap t r=>match D14 n r,P.underlying t with
  | some r,some (.map _ _)=>some (.a (.mmap r))
  | _,_=>none
 | .store t x v=>match Q2 n x,Q2 n v,P.info? t with
  | some x,some v,some i=>some (.e (.st x v i.size))
  | _,_,_=>none
 | .mapUpdate t m k v=>match Q2 n m,Q2 n k,Q2 n v,P.underlying t with
  | some m,some k,some v,some (.map key _)=>(P.underlying key).map fun kd => .e (.upd kd m k v)
  | _,_,_,_=>none
 | .call c=>match c.callee with
  | .value f=>match Q2 n f,E12 n c.args.toList with
   | some f,some xs=>some (.e (.call f xs))
   | _,_=>none
  | .builtin .append=>match c.argTypes.toList,c.args.toList with
   | t :: u :: _,s :: x :: _=>match Q2 n s,Q2 n x,P.underlying t,P.underlying u with
    | some s,some x,some (.slice e),some ud=>match J18 P e,P.info? e with
     | some _,some i=>(match ud with
      | .int _=>none
      | _=>cond (Nat.blt 0 i.size) (some (.e (.app s x i.size i.bytes))) none)
     | _,_=>none
    | _,_,_,_=>none
   | _,_=>none
  | .builtin .copy=>match c.argTypes.toList,c.args.toList with
   | t :: _,s :: x :: _=>match Q2 n s,Q2 n x,P.underlying t with
    | some s,some x,some (.slice e)=>(P.info? e).map fun i => .e (.copy s x i.size)
    | _,_,_=>none
   | _,_=>none
  | .builtin .len=>match c.argTypes.toList,c.args.toList with
   | [t],[x]=>match Q2 n x,P.underlying t with
    | some x,some (.slice _)=>some (.r (.len x 0))
    | some x,some .string=>some (.r (.len x 1))
    | some x,some (.map _ _)=>some (.r (.len x 2))
    | _,_=>none
   | _,_=>none
  | .builtin .min=>(E12 n c.args.toList).map fun xs => .p (.vf (.mm false) xs)
  | .builtin .max=>(E12 n c.args.toList).map fun xs => .p (.vf (.mm true) xs)
  | .builtin .clear=>match c.argTypes.toList,c.args.toList with
   | [t],[x]=>match Q2 n x,P.underlying t with
    | some x,some (.map _ _)=>some (.e (.clrM x))
    | some x,some (.slice e)=>(J18 P e).map fun z => .e (.clrS x z)
    | _,_=>none
   | _,_=>none
  | _=>none
 | .sliceToArrayPointer arr x=>match Q2 n x,P.underlying arr with
  | some x,some (.array k _)=>some (.p (.vf (.s2a k) [x]))
  | _,_=>none
 | .insert t m k v=>match Q2 n m,Q2 n k,Q2 n v,P.underlying t with
  | some m,some k,some v,some (.map key _)=>(P.underlying key).map fun kd => .e (.upd kd m k v)
  | _,_,_,_=>none
 | _=>none
def U28 (P:Program) (n:Nat) (o:Oper):Option I:=
 match V31 P n o with
 | some i=>some i
 | none=>some (.p (.vf .bad []))
theorem W33 {P:Program} {n:Nat} {o:Oper} {i:I} (h:U28 P n o=some i):V31 P n o=some i\/i = .p (.vf .bad []):=by
 unfold U28 at h
 split at h
 .cases h;exact .inl (by assumption)
 .cases h;exact .inr rfl
structure S where
 guard:Option (Nat × Bool)
 dst:Option Nat
 i:I
def E25 (n:Nat) (ops:List Oper):Option (Nat × Bool)->Option (Option (Nat × Bool))
 | none=>some none
 | some (j,want)=>match nth ops j with
  | some o=>match o.dst with
   | some t=>cond (Nat.blt t n) (some (some (t,want))) none
   | none=>none
  | none=>none
def K61 (n:Nat):Option Tmp->Option (Option Nat)
 | none=>some none
 | some t=>cond (Nat.blt t n) (some (some t)) none
def D25 (P:Program) (n:Nat) (ops:List Oper) (o:Oper):Option S:=
 match E25 n ops o.guard,K61 n o.dst,U28 P n o with
 | some g,some d,some i=>some ⟨g,d,i⟩
 | _,_,_=>none
def Y7 (P:Program) (n:Nat) (ops:List Oper):List Oper->Option (List S)
 | []=>some []
 | o :: l=>match D25 P n ops o,Y7 P n ops l with
  | some s,some l=>some (s :: l)
  | _,_=>none
def G4 (acc:List Nat) (es:List Edge) (m:Nat):Nat:=
 match es with
 | []=>m
 | e :: es=>cond (Region.binds .any e)
  (G4 acc es (m ||| 2^e.on ||| (match nth acc e.on with | some x=>x | none=>0)))
  (G4 acc es m)
def B40 {β:Type} (acc:List Nat) (ops:List Oper) (f:List Nat->β):β:=
 match ops with
 | []=>f acc
 | o :: ops=>E2 (G4 acc o.after.toList 0) fun m=>B40 (acc++[m]) ops f
def Z3 (ops:List Oper):List Nat:=B40 [] ops id
def X5 (ms:List Nat) (i j:Nat):Bool:=
 match nth ms i with
 | some m=>Nat.testBit m j
 | none=>false
def D27 (ops:List Oper) (o:Oper):List Tmp:=
 (o.op.operands.toList.filterMap fun x=>match x with | .tmp t=>some t | _=>none) ++
 (match o.guard with
  | some (g,_)=>match nth ops g with
   | some o=>o.dst.toList
   | none=>[]
  | none=>[])
def U22 (ms:List Nat) (ops:List Oper):List Oper->Nat->Bool
 | [],_=>true
 | o :: rest,i=>
  (ops.zipIdx.all fun (oj,j)=>match oj.dst with
   | none=>true
   | some d=>Nat.beq i j || ((!(o.dst==some d))&&(!((D27 ops o).contains d) || X5 ms i j || X5 ms j i))) &&
  (match o.guard with
   | none=>true
   | some (g,_)=>X5 ms i g&&Nat.blt g i) &&
  (match o.dst with
   | none=>true
   | some d => !(D27 ops o).contains d) &&
  o.after.toList.all (fun e => !Region.binds .any e || Nat.blt e.on i) &&
  U22 ms ops rest (i+1)
structure Rd where
 i:Nat
 r:IR
 T:U1 Value
 v:Value
def D5 (ms:List Nat) (es:List Nat) (j:Nat):Bool:=es.any fun e=>X5 ms e j
noncomputable def Y21 {β:Type} (ms:List Nat) (N:Nat) (es:List Nat) (i:Nat) (H:Y0) (f:Y0->β):List (Nat × V4)->β
 | []=>f H
 | (j,b) :: as=>cond (X5 ms i j && !D5 ms es j)
  (hsK H (N+j) (some b) fun H=>Y21 ms N es i H f as)
  (Y21 ms N es i H f as)
mutual
def veq:Nat->Value->Value->Bool
 | 0,_,_=>false
 | n+1,x,y=>match x,y with
  | .bool a,.bool b=>a==b
  | .int j a,.int k b=>eqK j k&&eqI a b
  | .float j a,.float k b=>decide (j=k)&&Nat.beq a b
  | .string a,.string b=>decide (a=b)
  | .pointer a,.pointer b=>decide (a=b)
  | .slice a l c,.slice a' l' c'=>decide (a=a')&&Nat.beq l l'&&Nat.beq c c'
  | .map a,.map b=>decide (a=b)
  | .nilFunc,.nilFunc=>true
  | .nilIface,.nilIface=>true
  | .func f x y,.func f' x' y'=>decide (f=f')&&D40 n x.toList x'.toList&&D40 n y.toList y'.toList
  | .iface t v,.iface t' v'=>Nat.beq t t'&&veq n v v'
  | .agg a,.agg b=>D40 n a.toList b.toList
  | .tuple a,.tuple b=>D40 n a.toList b.toList
  | _,_=>false
def D40:Nat->List Value->List Value->Bool
 | 0,_,_=>false
 | n+1,x,y=>match x,y with
  | [],[]=>true
  | a :: x,b :: y=>veq n a b&&D40 n x y
  | _,_=>false
end
noncomputable def K35 (P:Program) (ms:List Nat) (N:Nat) (as:List (Nat × V4)) (r:Rd):List Nat->List Y0->Y0->List Nat->Bool
 | es,Ms,M,later=>
  (cond (es.any (fun e=>X5 ms e r.i) || later.any (fun e=>X5 ms r.i e)) true
   (Y21 ms N es r.i M (fun h=>evR P r.r r.T h false fun v=>veq 64 v r.v) as)) &&
  (match es,Ms with
   | e :: es',M' :: Ms'=>cond (X5 ms r.i e) true (K35 P ms N as r es' Ms' M' (e :: later))
   | [],[]=>true
   | _,_=>false)
noncomputable def M20 {β:Type} (ms:List Nat) (N:Nat) (es:List Nat) (H:Y0) (f:Y0->β):List (Nat × V4)->β
 | []=>f H
 | (j,b) :: as=>cond (D5 ms es j) (M20 ms N es H f as) (hsK H (N+j) (some b) fun H=>M20 ms N es H f as)
noncomputable def Z9 (d:Nat) (dst:Option Nat) (v:Value) (T:U1 Value) (k:U1 Value->β):β:=
 match dst with
 | none=>k T
 | some t=>tsK d T t v k
noncomputable def V14 (g:Option (Nat × Bool)) (T:U1 Value) (z yes no:β):β:=
 match g with
 | none=>yes
 | some (t,want)=>tgK T t no fun v=>match v with
  | .bool b=>ifK (cond b want (!want)) yes no
  | .chan _=>z
  | _=>no
noncomputable def K7 {β:Type} (P:Program) (d:Nat) (call:B5 β) (ms:List Nat) (N:Nat) (z:β)
  (k:U1 Value->Y0->Nat->List Y0->List Nat->List (Nat × V4)->List Rd->β):
  List S->Nat->U1 Value->Y0->Nat->List Y0->List Nat->List (Nat × V4)->List Rd->β
 | [],_,T,H,nx,Ms,es,as,rs=>k T H nx Ms es as rs
 | ⟨g,dst,op⟩ :: l,i,T,H,nx,Ms,es,as,rs=>V14 g T z
  (match op with
   | .p op=>Q7 P op T z fun v=>Z9 d dst v T fun T=>K7 P d call ms N z k l (i+1) T H nx Ms es as rs
   | .r op=>Y21 ms N es i H (fun h=>evR P op T h z fun v=>Z9 d dst v T fun T'=>K7 P d call ms N z k l (i+1) T' H nx Ms es as (⟨i,op,T,v⟩ :: rs)) as
   | .a op=>evA op T z fun b y=>E2 (N+i) fun q=>W1 (y.val q) fun v=>Z9 d dst v T fun T=>K7 P d call ms N z k l (i+1) T H nx Ms es ((i,b) :: as) rs
   | .e op=>cond (es.all fun e=>X5 ms i e)
    (Y21 ms N es i H (fun h=>evE op call T h nx z fun v H' nx=>Z9 d dst v T fun T=>K7 P d call ms N z k l (i+1) T H' nx (H :: Ms) (i :: es) as rs) as) z)
  (Z9 d dst undef T fun T=>K7 P d call ms N z k l (i+1) T H nx Ms es as rs)
inductive C where
 | skip
 | ops (l:List S)
 | draw (ms:List Nat) (l:List S)
 | seq (a b:C)
 | cond (x:X) (t e:C)
 | block (id:Nat) (c:C)
 | loop (c:C)
 | exit (id:Nat)
 | ret
def Q5 (P:Program) (n:Nat):Code->Option C
 | .skip | .label _=>some .skip
 | .region _ ops draw=>match Y7 P n ops.toList ops.toList with
  | some l=>(match draw with
   | false=>some (.ops l)
   | true=>cond (U22 (Z3 ops.toList) ops.toList ops.toList 0) (some (.draw (Z3 ops.toList) l)) none)
  | none=>none
 | .seq a b=>match Q5 P n a,Q5 P n b with
  | some a,some b=>some (.seq a b)
  | _,_=>none
 | .cond x t e=>match Q2 n x,Q5 P n t,Q5 P n e with
  | some x,some t,some e=>some (.cond x t e)
  | _,_,_=>none
 | .block id c=>(Q5 P n c).map (.block id)
 | .loop c=>(Q5 P n c).map .loop
 | .scope c=>Q5 P n c
 | .exit id=>some (.exit id)
 | .ret=>some .ret
 | _=>none
noncomputable def B15 (i:IP) (P:Program) (d:Nat) (dst:Option Nat) (_:B5 β) (T:U1 Value) (H:Y0) (nx:Nat) (z:β) (k:U1 Value->Y0->Nat->β):β:=
 Q7 P i T z fun v=>Z9 d dst v T fun T=>k T H nx
noncomputable def N74 (i:IR) (P:Program) (d:Nat) (dst:Option Nat) (_:B5 β) (T:U1 Value) (H:Y0) (nx:Nat) (z:β) (k:U1 Value->Y0->Nat->β):β:=
 evR P i T H z fun v=>Z9 d dst v T fun T=>k T H nx
noncomputable def J54 (d:Nat) (dst:Option Nat) (T:U1 Value) (H:Y0) (nx:Nat) (k:U1 Value->Y0->Nat->β) (b:V4) (y:B0):β:=
 hsK H nx (some b) fun H=>E2 (nx+1) fun n=>R17 (y.val nx) fun v=>Z9 d dst v T fun T=>k T H n
noncomputable def U61 (i:IA) (_:Program) (d:Nat) (dst:Option Nat) (_:B5 β) (T:U1 Value) (H:Y0) (nx:Nat) (z:β) (k:U1 Value->Y0->Nat->β):β:=
 evA i T z (J54 d dst T H nx k)
noncomputable def N76 (i:IE) (_:Program) (d:Nat) (dst:Option Nat) (call:B5 β) (T:U1 Value) (H:Y0) (nx:Nat) (z:β) (k:U1 Value->Y0->Nat->β):β:=
 evE i call T H nx z fun v H nx=>Z9 d dst v T fun T=>k T H nx
noncomputable def E47 (i:I):Program->Nat->Option Nat->B5 β->U1 Value->Y0->Nat->β->(U1 Value->Y0->Nat->β)->β:=
 @I.rec (fun _=>Program->Nat->Option Nat->B5 β->U1 Value->Y0->Nat->β->(U1 Value->Y0->Nat->β)->β) B15 N74 U61 N76 i
noncomputable def E28 (P:Program) (d:Nat) (call:B5 β) (s:S) (T:U1 Value) (H:Y0) (nx:Nat) (z:β) (k:U1 Value->Y0->Nat->β):β:=
 @S.rec (fun _=>β) (fun g dst op=>V14 g T z (E47 op P d dst call T H nx z k) (Z9 d dst undef T fun T=>k T H nx)) s
noncomputable def Y14 (P:Program) (d:Nat) (call:B5 β) (z:β) (k:U1 Value->Y0->Nat->β) (l:List S):U1 Value->Y0->Nat->β:=
 @List.rec S (fun _=>U1 Value->Y0->Nat->β) k (fun s _ ih T H nx=>E28 P d call s T H nx z ih) l
abbrev K (β:Type):=U1 Value->Y0->Nat->β
abbrev G20 (β:Type):=List Nat->Nat->List (Nat × V4)->List Rd->List Nat->List Y0->Y0->β->β->β
abbrev U25 (β:Type):=β->(K β->K β)->K β
noncomputable def M63 (P:Program):G20 β:=fun ms N as rs es Ms H y z=>cond (rs.all fun r=>K35 P ms N as r es Ms H []) y z
noncomputable def Z66 (m:Nat):U25 β:=fun z f=>@Nat.rec (fun _=>K β) (fun _ _ _=>z) (fun _ ih=>f ih) m
noncomputable def W44 (P:Program) (d:Nat) (call:B5 β) (chk:G20 β) (z:β) (ms:List Nat) (l:List S) (T:U1 Value) (H:Y0) (nx:Nat) (k:K β):β:=
 E2 (nx+l.length) fun nx'=>
  K7 P d call ms nx z (fun T H n Ms es as rs=>chk ms nx as rs es Ms H (M20 ms nx es H (fun H=>k T H n) as) z) l 0 T H nx' [] [] [] []
noncomputable def J97 (l:List S) (P:Program) (d:Nat) (call:B5 β) (_:G20 β) (_:U25 β) (z:β) (T:U1 Value) (H:Y0) (nx:Nat) (k:K β) (_:Nat->K β) (_:K β):β:=
 Y14 P d call z k l T H nx
noncomputable def W96 (ms:List Nat) (l:List S) (P:Program) (d:Nat) (call:B5 β) (chk:G20 β) (_:U25 β) (z:β) (T:U1 Value) (H:Y0) (nx:Nat) (k:K β) (_:Nat->K β) (_:K β):β:=
 W44 P d call chk z ms l T H nx k
abbrev CK (β:Type):=Program->Nat->B5 β->G20 β->U25 β->β->U1 Value->Y0->Nat->K β->(Nat->K β)->K β->β
noncomputable def N96 (_ _:C) (a b:CK β) (P:Program) (d:Nat) (call:B5 β) (chk:G20 β) (fx:U25 β) (z:β) (T:U1 Value) (H:Y0) (nx:Nat) (k:K β) (x:Nat->K β) (r:K β):β:=
 a P d call chk fx z T H nx (fun T H nx=>b P d call chk fx z T H nx k x r) x r
noncomputable def M95 (c:X) (_ _:C) (t e:CK β) (P:Program) (d:Nat) (call:B5 β) (chk:G20 β) (fx:U25 β) (z:β) (T:U1 Value) (H:Y0) (nx:Nat) (k:K β) (x:Nat->K β) (r:K β):β:=
 E7 T c fun v=>match v with
  | .bool b=>ifK b (t P d call chk fx z T H nx k x r) (e P d call chk fx z T H nx k x r)
  | _=>z
noncomputable def Z94 (id:Nat) (_:C) (c:CK β) (P:Program) (d:Nat) (call:B5 β) (chk:G20 β) (fx:U25 β) (z:β) (T:U1 Value) (H:Y0) (nx:Nat) (k:K β) (x:Nat->K β) (r:K β):β:=
 c P d call chk fx z T H nx k (fun id' T H nx=>cond (Nat.beq id' id) (k T H nx) (x id' T H nx)) r
noncomputable def Y96 (_:C) (c:CK β) (P:Program) (d:Nat) (call:B5 β) (chk:G20 β) (fx:U25 β) (z:β) (T:U1 Value) (H:Y0) (nx:Nat) (_:K β) (x:Nat->K β) (r:K β):β:=
 fx z (fun ih T H nx=>c P d call chk fx z T H nx ih x r) T H nx
noncomputable def Y12 (c:C):CK β:=
 @C.rec (fun _=>CK β)
  (fun _ _ _ _ _ _ T H nx k _ _=>k T H nx)
  J97 W96 N96 M95 Z94 Y96
  (fun id _ _ _ _ _ _ T H nx _ x _=>x id T H nx)
  (fun _ _ _ _ _ _ T H nx _ _ r=>r T H nx) c
def E27 (P:Program) (n:Nat):List ResultVar->Option (List (X × Option (Option Nat)))
 | []=>some []
 | r :: rs=>match (match r with
   | .tmp t=>cond (Nat.blt t n) (some (X.s t,none)) none
   | .cell a t=>cond (Nat.blt a n) ((X15 P t).map fun sh=>(X.s a,some sh)) none),E27 P n rs with
  | some r,some rs=>some (r :: rs)
  | _,_=>none
structure CF where
 n:Nat
 d:Nat
 body:C
 res:List (X × Option (Option Nat))
def cfn (P:Program) (f:FuncId):Option CF:=
 match nth P.funcs.toList f with
 | some fn=>match fn.body with
  | some c=>match Q5 P fn.ntmps c,E27 P fn.ntmps fn.results.toList with
   | some body,some res=>some ⟨fn.ntmps,Nat.log2 fn.ntmps+1,body,res⟩
   | _,_=>none
  | none=>none
 | none=>none
noncomputable def G42 {β:Type} (P:Program) (T:U1 Value) (H:Y0) (z:β) (k:List Value->β):List (X × Option (Option Nat))->β
 | []=>k []
 | (x,sh) :: rs=>match sh with
  | none=>E7 T x fun v=>G42 P T H z (fun vs=>k (v :: vs)) rs
  | some sh=>evR P (.ld x sh) T H z fun v=>G42 P T H z (fun vs=>k (v :: vs)) rs
def tup (vs:List Value):Value:=
 match vs with
 | [v]=>v
 | vs => .tuple ⟨vs⟩
noncomputable def B53 {β:Type} (d:Nat) (l:List Value) (i:Nat) (T:U1 Value) (f:U1 Value->β):β:=
 match l with
 | []=>f T
 | v :: l=>tsK d T i v fun T=>B53 d l (i+1) T f
abbrev Orc:=FuncId->Option (List Value->Y0->Nat->Option (Value × Y0 × Nat))
noncomputable def U30 (P:Program) (res:List (X × Option (Option Nat))) (z:β) (k:Value->Y0->Nat->β) (T:U1 Value) (H:Y0) (nx:Nat):β:=
 G42 P T H z (fun vs=>W1 (tup vs) fun v=>k v H nx) res
noncomputable def E43 (P:Program) (call:B5 β) (chk:G20 β) (fx:U25 β) (args:List Value) (H:Y0) (nx:Nat) (z:β) (k:Value->Y0->Nat->β) (n d:Nat) (body:C) (res:List (X × Option (Option Nat))):β:=
 cond (Nat.ble args.length n)
  (B53 d args 0 .leaf fun T=>Y12 body P d call chk fx z T H nx (U30 P res z k) (fun _ _ _ _=>z) (U30 P res z k)) z
noncomputable def B61 (P:Program) (orc:Orc) (n:Nat):B5 β:=
 @Nat.rec (fun _=>B5 β) (fun _ _ _ _ z _=>z)
  (fun _ ih f args H nx z k=>match orc f with
   | some o=>(match o args H nx with
    | some (v,H,nx)=>k v H nx
    | none=>z)
   | none=>match cfn P f with
    | some ⟨n,d,body,res⟩=>E43 P ih (M63 P) (Z66 1000000) args H nx z k n d body res
    | none=>z) n
def U89:Orc:=fun _=>none
noncomputable def J66 (P:Program) (orc:Orc) (n:Nat) (f:FuncId) (args:List Value):Option Value:=
 B61 P orc n f args .leaf 0 none fun v _ _=>some v
end Go.Clo
