/-
  What the listed package variables of this seat hold: math/bits' table of de Bruijn indices (variable 0).
  A closed executor: an interpreter over the model's code with a heap of its own names. This text: its definitions.
  The closed executor: how its heap of names stands to the model's world;basic lemmas.
  The closed executor: the operations that only compute stand to the model's.
-/
import Derived.Below
import Derived.Calls
import Derived.Orders
import Derived.LoopN
import Derived.Scope
import Derived.KernelRfl
import Derived.Laws.CopyRow
import Derived.ChangeKeysEq
import Derived.IntWalk
set_option maxHeartbeats 8000000
set_option maxRecDepth 100000
set_option linter.all false
noncomputable section
open Array renaming getElem?_eq_none->fK,toList_inj->fB
open BitVec renaming ofInt->cT
open Bool renaming and_eq_true->aG,eq_iff_iff->eX
open Go.Instr renaming findNow->dP
open Go.IntKind renaming bits->dW,signed->eK,wrap->eY
open Go.Op renaming operands->eI
open Go.Region renaming binds->fH
open Go.Result renaming andThen_ok->aM
open Go.Sem renaming run_bind->aS
open Go.Value renaming int->cD
open List renaming all_eq_true->bW,getElem?_eq_none->aT,mem_map->gN,range->aY
open Nat renaming beq->bR,ble->dD,blt->dE,div->fR,le_refl->aD,le_trans->bK,log2->bG,lt_of_lt_of_le->aO,lt_or_ge->aW,mod_two_eq_zero_or_one->dZ,pow_succ->dR,rec->fC
namespace Go.Clo
def deB:List Nat:=[0,1,28,2,29,14,24,3,30,22,20,15,25,17,4,8,31,27,13,23,21,19,16,7,26,12,18,6,11,5,10,9]
def Q42:List (Nat × List Value):=[(0,deB.map fun (n:Nat)=>Value.int .u8 (n:Int))]
section
variable {α β:Type}
inductive K0 (α:Type) where
 | leaf
 | tip (a:α)
 | node (l r:K0 α)
inductive V3 where
 | cells (c:List Value) (sl:Nat)
 | map (es:List MapEntry) (clock:Nat)
 | rom (c:List Value)
def V3.isRom:V3->Bool
 | .rom _=>true
 | _=>false
inductive Y0 where
 | leaf
 | node (v:Option V3) (l r:Y0)
@[reducible] def M6 {α β:Type} (k:α->β) (a:α):β:=k a
def tgK(T:K0 α):Nat->β->(α->β)->β:=
 @K0.rec α (fun _=>Nat->β->(α->β)->β) (fun _ z _=>z) (fun v _ _ k=>k v)
  (fun _ _ l r t z k=>@fC (fun _=>β) (l (fR t 2) z k) (fun _ _=>r (fR t 2) z k) (Nat.mod t 2)) T
def tsK(d:Nat):K0 α->Nat->α->(K0 α->β)->β:=
 @fC (fun _=>K0 α->Nat->α->(K0 α->β)->β) (fun _ _ a k=>k (.tip a))
  (fun _ ih t i a k=>@K0.rec α (fun _=>β)
   (@fC (fun _=>β) (ih .leaf (fR i 2) a fun l=>k (.node l .leaf)) (fun _ _=>ih .leaf (fR i 2) a fun r=>k (.node .leaf r)) (Nat.mod i 2))
   (fun _=>@fC (fun _=>β) (ih .leaf (fR i 2) a fun l=>k (.node l .leaf)) (fun _ _=>ih .leaf (fR i 2) a fun r=>k (.node .leaf r)) (Nat.mod i 2))
   (fun l r _ _=>@fC (fun _=>β) (ih l (fR i 2) a fun l=>k (.node l r)) (fun _ _=>ih r (fR i 2) a fun r=>k (.node l r)) (Nat.mod i 2)) t) d
def hgK(H:Y0):Nat->β->(V3->β)->β:=
 @Y0.rec (fun _=>Nat->β->(V3->β)->β) (fun _ z _=>z)
  (fun v _ _ l r i z k=>@fC (fun _=>β) (@Option.rec V3 (fun _=>β) z k v)
   (fun j _=>@fC (fun _=>β) (l (fR j 2) z k) (fun _ _=>r (fR j 2) z k) (Nat.mod j 2)) i) H
def hsF(E:Nat):Y0->Nat->Option V3->(Y0->β)->β:=
 @fC (fun _=>Y0->Nat->Option V3->(Y0->β)->β) (fun H _ _ k=>k H)
  (fun _ ih H i b k=>@Y0.rec (fun _=>β)
   (@fC (fun _=>β) (M6 k (.node b .leaf .leaf))
    (fun j _=>@fC (fun _=>β) (ih .leaf (fR j 2) b fun l=>M6 k (.node none l .leaf)) (fun _ _=>ih .leaf (fR j 2) b fun r=>M6 k (.node none .leaf r)) (Nat.mod j 2)) i)
   (fun v l r _ _=>@fC (fun _=>β) (M6 k (.node b l r))
    (fun j _=>@fC (fun _=>β) (ih l (fR j 2) b fun l=>M6 k (.node v l r)) (fun _ _=>ih r (fR j 2) b fun r=>M6 k (.node v l r)) (Nat.mod j 2)) i) H) E
def E6(H:Y0)(i:Nat)(b:Option V3)(k:Y0->β):β:=hsF (bG (Nat.add i 1)+1) H i b k
def C30(l:List α):Nat->β->(α->β)->β:=
 @List.rec α (fun _=>Nat->β->(α->β)->β) (fun _ z _=>z)
  (fun a _ ih n z k=>@fC (fun _=>β) (k a) (fun m _=>ih m z k) n) l
def ifK(b:Bool)(x y:β):β:=@Bool.rec (fun _=>β) y x b
def M2(n:Nat)(f:Nat->β):β:=
 match n with
 | 0=>f 0
 | Nat.succ m=>f (Nat.succ m)
def Q16(n:Int)(f:Int->β):β:=
 match n with
 | .ofNat m=>M2 m fun m=>f (.ofNat m)
 | .negSucc m=>M2 m fun m=>f (.negSucc m)
def V13(b:Bool)(f:Bool->β):β:=
 match b with
 | true=>f true
 | false=>f false
def E35(a:Option Addr)(f:Option Addr->β):β:=
 match a with
 | none=>f none
 | some a=>match a with
  | ⟨b,o,s⟩=>M2 b fun b=>M2 o fun o=>match s with
   | none=>f (some ⟨b,o,none⟩)
   | some s=>f (some ⟨b,o,some s⟩)
def X13(v:Value)(f:Value->β):β:=
 match v with
 | .bool b=>V13 b fun b=>f (.bool b)
 | .int k n=>Q16 n fun n=>f (.int k n)
 | .pointer a=>E35 a fun a=>f (.pointer a)
 | .slice a l c=>E35 a fun a=>M2 l fun l=>M2 c fun c=>f (.slice a l c)
 | .map r=>match r with
  | none=>f (.map none)
  | some r=>M2 r fun r=>f (.map (some r))
 | v=>f v
def M22{β:Type}(l:List Value)(f:List Value->β):β:=
 match l with
 | []=>f []
 | v :: l=>X13 v fun v=>M22 l fun l=>f (v :: l)
def M0(v:Value)(f:Value->β):β:=
 match v with
 | .agg cs=>M22 cs.toList fun l=>f (.agg ⟨l⟩)
 | .tuple cs=>M22 cs.toList fun l=>f (.tuple ⟨l⟩)
 | v=>X13 v f
def spine{α β:Type}(l:List α)(f:List α->β):β:=
 match l with
 | []=>f []
 | v :: l=>spine l fun l=>f (v :: l)
def nth{α:Type}:List α->Nat->Option α
 | [],_=>none
 | a :: l,k=>match k with
  | 0=>some a
  | k+1=>nth l k
def R26{α:Type}:List α->Nat->α->List α
 | [],_,_=>[]
 | a :: l,k,b=>match k with
  | 0=>b :: l
  | k+1=>a :: R26 l k b
def M4:Value->Bool
 | .bool _ | .int _ _ | .float _ _ | .complex _ _ _ | .string _ | .nilFunc | .nilIface=>true
 | .pointer a=>a.isNone
 | .slice a _ _=>a.isNone
 | .map r=>r.isNone
 | _=>false
def X7:Value->Bool
 | .agg cs=>cs.toList.all M4
 | .tuple cs=>cs.toList.all M4
 | v=>M4 v
def E30{α:Type}(P:Program):Sem α->Option α
 | .pure a=>some a
 | .program k=>E30 P (k P)
 | .mark _ k=>E30 P k
 | _=>none
inductive X where
 | s (t:Nat)
 | c (v:Value)
def W13(n:Nat):Operand->Option X
 | .tmp t=>cond (dE t n) (some (.s t)) none
 | .const v=>cond (X7 v) (some (.c v)) none
 | .global _=>none
 | .func f=>some (.c (.func (.func f) #[] #[]))
def U7(n:Nat):List Operand->Option (List X)
 | []=>some []
 | x :: l=>match W13 n x,U7 n l with
  | some x,some l=>some (x :: l)
  | _,_=>none
def B71(n:Nat):Option Operand->Option (Option X)
 | none=>some none
 | some x=>match W13 n x with
  | some x=>some (some x)
  | none=>none
def R16(n:Nat):List (Nat × Operand)->Option (List (Nat × X))
 | []=>some []
 | (i,x) :: l=>match W13 n x,R16 n l with
  | some x,some l=>some ((i,x) :: l)
  | _,_=>none
def W4(T:K0 Value)(x:X)(k:Value->β):β:=
 @X.rec (fun _=>β) (fun t=>tgK T t (k undef) k) (fun v=>k v) x
def U17(T:K0 Value)(l:List X):(List Value->β)->β:=
 @List.rec X (fun _=>(List Value->β)->β) (fun k=>k []) (fun x _ ih k=>W4 T x fun v=>ih fun vs=>k (v :: vs)) l
def R24(T:K0 Value)(x:Option X)(k:Option Value->β):β:=
 match x with
 | none=>k none
 | some x=>W4 T x fun v=>k (some v)
def E34{β:Type}(T:K0 Value)(l:List (Nat × X))(k:List (Nat × Value)->β):β:=
 match l with
 | []=>k []
 | (i,x) :: l=>W4 T x fun v=>E34 T l fun vs=>k ((i,v) :: vs)
inductive VF where
 | eqb (neg:Bool)
 | eqn (neg:Bool) (t:TypeDesc)
 | eqs (neg:Bool) (offs:List (Nat × Nat))
 | sidx
 | ssl (lo hi:Bool)
 | mm (mx:Bool)
 | s2a (n:Nat)
 | bad
inductive IP where
 | mv (x:X)
 | pick (c a b:X)
 | bin (op:BinOp) (x y:X)
 | un (op:UnOp) (x:X)
 | eq (neg:Bool) (t:Option TypeDesc) (x y:X) (o:Oper)
 | scal (xs:List X) (o:Oper)
 | fld (x:X) (off:Nat)
 | idx (x ix:X) (len:Option Nat) (size:Nat)
 | nilc (x:X)
 | ext (x:X) (i:Nat)
 | part (x:X) (off:Nat) (size:Option Nat)
 | aidx (x ix:X) (len size:Nat) (agg:Bool)
 | build (z:List Value) (pl:List (Nat × Nat)) (parts:List (Nat × X))
 | slA (x:X) (n size:Nat) (lo hi mx:Option X)
 | mkf (fn:Fn) (first cap:List X)
 | mki (t:TypeId) (x:X)
 | vf (f:VF) (xs:List X)
def G27:Value->Bool
 | .pointer a=>a.isNone
 | .slice a _ _=>a.isNone
 | .map r=>r.isNone
 | .nilFunc=>true
 | _=>false
def C8(t:Option TypeDesc)(x y:Value):Option Bool:=
 match t,x,y with
 | some (.pointer _),.pointer a,.pointer b=>cond (a.isNone || b.isNone) (some (a.isNone&&b.isNone)) none
 | some (.slice _),.slice a _ _,.slice b _ _=>cond (a.isNone || b.isNone) (some (a.isNone&&b.isNone)) none
 | some (.map _ _),.map a,.map b=>cond (a.isNone || b.isNone) (some (a.isNone&&b.isNone)) none
 | some (.func _ _ _),.nilFunc,.func _ _ _=>some false
 | some (.func _ _ _),.func _ _ _,.nilFunc=>some false
 | some (.func _ _ _),.nilFunc,.nilFunc=>some true
 | _,_,_=>none
def D42(T:K0 Value):Operand->Value
 | .tmp t=>tgK T t undef id
 | .const v=>v
 | .global _=>undef
 | .func f => .func (.func f) #[] #[]
def K20(P:Program)(T:K0 Value)(xs:List X)(o:Oper)(z:β)(k:Value->β):β:=
 U17 T xs fun vs=>cond (vs.all X7)
  (match E30 P (execOp (D42 T) o) with
   | some (.value v)=>M0 v fun v=>cond (X7 v) (k v) z
   | _=>z) z
def Q14(k:IntKind)(n:Int):Bool:=
 match n with
 | .ofNat m=>(match k with
  | .i64=>dE m 9223372036854775808
  | .u32=>dE m 4294967296
  | .u64=>dE m 18446744073709551616
  | .u8=>dE m 256
  | _=>false)
 | .negSucc m=>(match k with
  | .i64=>dE m 9223372036854775808
  | _=>false)
def N52(a b:Int):Int:=
 match a,b with
 | .ofNat a,.ofNat b => .ofNat (Nat.add a b)
 | a,b=>a+b
def X54(a b:Int):Int:=
 match a,b with
 | .ofNat a,.ofNat b=>cond (dD b a) (.ofNat (Nat.sub a b)) (.negSucc (Nat.sub (Nat.sub b a) 1))
 | a,b=>a-b
def ltI(a b:Int):Bool:=
 match a,b with
 | .ofNat a,.ofNat b=>dE a b
 | .negSucc _,.ofNat _=>true
 | .ofNat _,.negSucc _=>false
 | .negSucc a,.negSucc b=>dE b a
def leI(a b:Int):Bool:=
 match a,b with
 | .ofNat a,.ofNat b=>dD a b
 | .negSucc _,.ofNat _=>true
 | .ofNat _,.negSucc _=>false
 | .negSucc a,.negSucc b=>dD b a
def eqI(a b:Int):Bool:=
 match a,b with
 | .ofNat a,.ofNat b=>bR a b
 | .negSucc a,.negSucc b=>bR a b
 | _,_=>false
def eqK:IntKind->IntKind->Bool
 | .i8,.i8 | .i16,.i16 | .i32,.i32 | .i64,.i64 | .u8,.u8 | .u16,.u16 | .u32,.u32 | .u64,.u64=>true
 | _,_=>false
def G7(op:BinOp)(k:IntKind)(a b:Int):Option Value:=
 match op with
 | .add=>some (.int k (k.wrap (a+b)))
 | .sub=>some (.int k (k.wrap (a-b)))
 | .mul=>some (.int k (k.wrap (a*b)))
 | .quo=>if b=0 then none else some (.int k (k.wrap (a.tdiv b)))
 | .rem=>if b=0 then none else some (.int k (a.tmod b))
 | .and=>some (.int k (k.wrap (cT k.bits a &&& cT k.bits b).toNat))
 | .or=>some (.int k (k.wrap (cT k.bits a ||| cT k.bits b).toNat))
 | .xor=>some (.int k (k.wrap (cT k.bits a ^^^ cT k.bits b).toNat))
 | .andNot=>some (.int k (k.wrap (cT k.bits a &&& ~~~(cT k.bits b)).toNat))
 | .eql=>some (.bool (a==b))
 | .neq=>some (.bool (a != b))
 | .lss=>some (.bool (decide (a<b)))
 | .leq=>some (.bool (decide (a<=b)))
 | .gtr=>some (.bool (decide (a > b)))
 | .geq=>some (.bool (decide (a ≥ b)))
 | _=>none
def K53(op:BinOp)(a b:ByteArray):Option Value:=
 match op with
 | .add=>if ((a.size+b.size:Nat):Int) > IntKind.i64.max then none else some (.string (a++b))
 | .eql=>some (.bool (a.toList==b.toList))
 | .neq=>some (.bool !(a.toList==b.toList))
 | .lss=>some (.bool (Op.bytesLess a.toList b.toList))
 | .leq=>some (.bool (Op.bytesLess a.toList b.toList || a.toList==b.toList))
 | .gtr=>some (.bool !(Op.bytesLess a.toList b.toList || a.toList==b.toList))
 | .geq=>some (.bool !(Op.bytesLess a.toList b.toList))
 | _=>none
def C18(op:BinOp)(k:IntKind)(a b:Int):Option Value:=
 if b<0 then none else match op with
  | .shl=>some (.int k (k.wrap (a*2^min b.toNat k.bits)))
  | .shr=>some (.int k (a.fdiv (2^min b.toNat k.bits)))
  | _=>none
def N4:BinOp->Bool
 | .shl | .shr=>true
 | _=>false
def R9(op:BinOp)(x y:Value):Option Value:=
 match x,y with
 | .int k a,.int k' b=>cond (N4 op) (C18 op k a b) (cond (eqK k k') (G7 op k a b) none)
 | .string a,.string b=>K53 op a b
 | _,_=>none
def unV(op:UnOp)(x:Value):Option Value:=
 match op,x with
 | .neg,.int k n=>some (.int k (k.wrap (0-n)))
 | .xor,.int k n=>some (.int k (k.wrap (cT k.bits (if k.signed then -1 else k.max) ^^^ cT k.bits n).toNat))
 | .not,.bool b=>some (.bool !b)
 | _,_=>none
def X22(r:Option Value)(z:β)(f:Value->β):β:=
 match r with
 | some v=>X13 v f
 | none=>z
def C55(op:BinOp)(k:IntKind)(a b:Int)(z:β)(f:Value->β):β:=
 match op with
 | .add=>Q16 (N52 a b) fun r=>cond (Q14 k r) (f (.int k r)) (X22 (G7 op k a b) z f)
 | .sub=>Q16 (X54 a b) fun r=>cond (Q14 k r) (f (.int k r)) (X22 (G7 op k a b) z f)
 | .lss=>V13 (ltI a b) fun r=>f (.bool r)
 | .leq=>V13 (leI a b) fun r=>f (.bool r)
 | .gtr=>V13 (ltI b a) fun r=>f (.bool r)
 | .geq=>V13 (leI b a) fun r=>f (.bool r)
 | .eql=>V13 (eqI a b) fun r=>f (.bool r)
 | .neq=>V13 (!(eqI a b)) fun r=>f (.bool r)
 | op=>X22 (G7 op k a b) z f
def J42(op:BinOp)(vx vy:Value)(z:β)(f:Value->β):β:=
 match vx,vy with
 | .int k a,.int k' b=>cond (N4 op) (X22 (C18 op k a b) z f) (cond (eqK k k') (C55 op k a b z f) z)
 | .string a,.string b=>X22 (K53 op a b) z f
 | _,_=>z
def V52(op:BinOp)(x y:X)(T:K0 Value)(z:β)(f:Value->β):β:=
 W4 T x fun vx=>W4 T y fun vy=>J42 op vx vy z f
def unK(op:UnOp)(x:X)(T:K0 Value)(z:β)(f:Value->β):β:=
 W4 T x fun v=>X22 (unV op v) z f
def M55(P:Program)(T:K0 Value)(neg:Bool)(t:Option TypeDesc)(x y:X)(o:Oper)(z:β)(f:Value->β):β:=
 W4 T x fun vx=>W4 T y fun vy=>
  match vx,vy with
  | .int k a,.int k' b=>cond (eqK k k') (V13 (cond neg (!(eqI a b)) (eqI a b)) fun r=>f (.bool r)) z
  | vx,vy=>cond (G27 vx || G27 vy)
   (match C8 t vx vy with
    | some b=>V13 (cond neg (!b) b) fun r=>f (.bool r)
    | none=>z) (K20 P T [x,y] o z f)
def B22:Value->Bool
 | .chan _=>false
 | _=>true
def V16(E:Nat->Option (Nat × Nat))(cells:List Value):List (Nat × Value)->Option (List Value)
 | []=>some cells
 | (i,v) :: rest=>
  match E i with
  | none=>none
  | some (off,size)=>
   cond (bR v.cells.toList.length size&&dD (off+size) cells.length&&B22 v)
    (V16 E (cells.take off++v.cells.toList++cells.drop (off+size)) rest) none
def Y13(x:Option Value)(top:Nat):Option Nat:=
 match x with
 | none=>some top
 | some v=>match v with
  | .int _ n=>match n with
   | .ofNat m=>cond (dD m top) (some m) none
   | _=>none
  | _=>none
def hiA(hi mx:Option Value)(len m:Nat):Option Nat:=
 match hi with
 | none=>(match mx with
  | none=>some len
  | some _=>none)
 | some v=>Y13 (some v) m
def loA(lo:Option Value)(h:Nat):Option Nat:=
 match lo with
 | none=>some 0
 | some v=>Y13 (some v) h
def V34(E:Nat)(x y:Value):Option Bool:=
 match E,x,y with
 | 0,.int k a,.int k' b=>cond (eqK k k') (some (a==b)) none
 | 1,.bool a,.bool b=>some (a==b)
 | 2,.string a,.string b=>some (a.toList==b.toList)
 | _,_,_=>none
def G18(a b:List Value):List (Nat × Nat)->Option Bool
 | []=>some true
 | (o,tag) :: os=>match nth a o,nth b o with
  | some x,some y=>(match V34 tag x y,G18 a b os with
   | some r,some r'=>some (r&&r')
   | _,_=>none)
  | _,_=>none
def G31(s:ByteArray)(lo hi:Option Value):Option Value:=
 match (match hi with | none=>some s.size | some v=>Y13 (some v) s.size) with
 | none=>none
 | some h=>match (match lo with | none=>some 0 | some v=>Y13 (some v) h) with
  | none=>none
  | some l=>some (.string (s.extract l h))
def mmV(mx:Bool):Value->List Value->Option Value
 | .int k x,[]=>some (.int k x)
 | .int k x,.int _ y :: r=>mmV mx (.int k (cond mx (if y > x then y else x) (if y<x then y else x))) r
 | _,_=>none
def J52(s:ByteArray)(n:Int):Option Value:=((if 0<=n then s[n.toNat]? else none):Option UInt8).map fun b => .int .u8 b.toNat
def VF.ev:VF->List Value->Option Value
 | .eqb neg,[.bool a,.bool b]=>some (.bool (cond neg (!(a==b)) (a==b)))
 | .eqn neg t,[x,y]=>(C8 (some t) x y).map fun b => .bool (cond neg (!b) b)
 | .eqs neg offs,[.agg a,.agg b]=>(G18 a.toList b.toList offs).map fun r => .bool (cond neg (!r) r)
 | .sidx,[.string s,.int _ n]=>J52 s n
 | .ssl false false,[.string s]=>G31 s none none
 | .ssl true false,[.string s,l]=>G31 s (some l) none
 | .ssl false true,[.string s,h]=>G31 s none (some h)
 | .ssl true true,[.string s,l,h]=>G31 s (some l) (some h)
 | .mm mx,x :: r=>mmV mx x r
 | .s2a n,[.slice (some ⟨b,o,none⟩) len _]=>cond (dD n len) (some (.pointer (some ⟨b,o,none⟩))) none
 | _,_=>none
def vfK(f:VF)(xs:List X)(T:K0 Value)(z:β)(k:Value->β):β:=
 U17 T xs fun vs=>X22 (f.ev vs) z k
def B26(a:Option Addr)(len cap size:Nat)(lo hi mx:Option Value)(E:Bool):Option Value:=
 match Y13 mx cap with
 | none=>none
 | some m=>
  match hiA hi mx len m with
  | none=>none
  | some h=>
   match loA lo h with
   | none=>none
   | some l=>
    match a with
    | none=>some (.slice none (h-l) (m-l))
    | some a=>cond ((E&&mx.isNone&&bR m l && !(bR l 0)) || !(dD l m)) none
     (some (.slice (some (cond (bR m l) a { block:=a.block,off:=a.off+l*size,spot:=a.spot })) (h-l) (m-l)))
def V42(c a b:X)(T:K0 Value)(z:β)(k:Value->β):β:=
 W4 T c fun v=>match v with
  | .bool t=>ifK t (W4 T a k) (W4 T b k)
  | _=>z
def U19(n:Nat)(a:Addr)(k:Value->β):β:=
 M2 n fun n=>match a with
  | ⟨b,_,s⟩=>k (.pointer (some ⟨b,n,s⟩))
def X53(x:X)(off:Nat)(T:K0 Value)(z:β)(k:Value->β):β:=
 W4 T x fun v=>match v with
  | .pointer (some a)=>U19 (a.off+off) a k
  | _=>z
def N41(len:Option Nat)(size:Nat)(i:Nat)(z:β)(k:Value->β)(v:Value):β:=
 match len,v with
 | none,.slice (some a) n _=>cond (dE i n) (U19 (a.off+i*size) a k) z
 | some n,.pointer (some a)=>cond (dE i n) (U19 (a.off+i*size) a k) z
 | _,_=>z
def R30(x ix:X)(len:Option Nat)(size:Nat)(T:K0 Value)(z:β)(k:Value->β):β:=
 W4 T ix fun vi=>match vi with
  | .int _ (.ofNat i)=>W4 T x fun v=>N41 len size i z k v
  | _=>z
def U42(x:X)(T:K0 Value)(z:β)(k:Value->β):β:=
 W4 T x fun v=>match v with
  | .pointer (some a)=>k (.pointer (some a))
  | _=>z
def E54(x:X)(i:Nat)(T:K0 Value)(z:β)(k:Value->β):β:=
 W4 T x fun v=>match v with
  | .tuple vs=>C30 vs.toList i z k
  | _=>z
def E21(l:List Value)(off:Nat)(size:Option Nat)(z:β)(k:Value->β):β:=
 match size with
 | some n=>spine (l.drop off |>.take n) fun l=>k (.agg ⟨l⟩)
 | none=>C30 l off z k
def C41(x:X)(off:Nat)(size:Option Nat)(T:K0 Value)(z:β)(k:Value->β):β:=
 W4 T x fun v=>match v with
  | .agg cs=>E21 cs.toList off size z k
  | _=>z
def D41(x ix:X)(len size:Nat)(agg:Bool)(T:K0 Value)(z:β)(k:Value->β):β:=
 W4 T ix fun vi=>match vi with
  | .int _ (.ofNat i)=>W4 T x fun v=>match v with
   | .agg cs=>cond (dE i len) (E21 cs.toList (i*size) (cond agg (some size) none) z k) z
   | _=>z
  | _=>z
def W35(zero:List Value)(pl:List (Nat × Nat))(parts:List (Nat × X))(T:K0 Value)(z:β)(k:Value->β):β:=
 E34 T parts fun vs=>match V16 (nth pl) zero vs with
  | some cs=>spine cs fun cs=>k (.agg ⟨cs⟩)
  | none=>z
def U52(x:X)(n size:Nat)(lo hi mx:Option X)(T:K0 Value)(z:β)(k:Value->β):β:=
 W4 T x fun v=>R24 T lo fun lo=>R24 T hi fun hi=>R24 T mx fun mx=>match v with
  | .pointer (some a)=>(match B26 (some a) n n size lo hi mx false with
   | some r=>X13 r k
   | none=>z)
  | _=>z
def X4(P:Program)(i:IP):K0 Value->β->(Value->β)->β:=
 @IP.rec (fun _=>K0 Value->β->(Value->β)->β)
  (fun x T _ k=>W4 T x k)
  V42
  V52 unK
  (fun neg t x y o T z k=>M55 P T neg t x y o z k)
  (fun xs o T z k=>K20 P T xs o z k)
  X53 R30 U42 E54 C41 D41 W35 U52
  (fun fn first cap T _ k=>U17 T first fun f=>U17 T cap fun c=>k (.func fn ⟨f⟩ ⟨c⟩))
  (fun t x T _ k=>W4 T x fun v=>k (.iface t v)) vfK i
inductive IR where
 | ld (x:X) (size:Option Nat)
 | lk (kd:TypeDesc) (zero:Value) (x ix:X) (ok:Bool)
 | len (x:X) (kd:Nat)
 | convI (kd:IntKind) (x:X)
 | conv (x:X) (o:Oper)
 | sl (x:X) (size:Nat) (lo hi mx:Option X)
 | str (x:X)
def Q9:TypeDesc->Value->Bool
 | .int _,.int _ _=>true
 | .string,.string _=>true
 | .bool,.bool _=>true
 | _,_=>false
def G5{α:Type}:Nat->List α->Option (List α)
 | 0,_=>some []
 | n+1,l=>match l with
  | []=>none
  | a :: l=>match G5 n l with
   | some r=>some (a :: r)
   | none=>none
def D12(H:Y0)(i:Nat)(z:β)(k:V3->β):β:=
 hgK H i z k
def B19(H:Y0)(a:Addr)(n:Nat)(z:β)(k:List Value->β):β:=
 match a with
 | ⟨b,o,none⟩=>D12 H b z fun b=>match b with
  | .cells c _=>(match G5 n (c.drop o) with
   | some l=>spine l k
   | none=>z)
  | .rom c=>(match G5 n (c.drop o) with
   | some l=>spine l k
   | none=>z)
  | _=>z
 | _=>z
def ldC(o:Nat)(size:Option Nat)(z:β)(k:Value->β)(c:List Value):β:=
 match size with
  | none=>C30 c o z k
  | some n=>(match G5 n (c.drop o) with
   | some l=>spine l fun l=>k (.agg ⟨l⟩)
   | none=>z)
def ldB(o:Nat)(size:Option Nat)(z:β)(k:Value->β)(b:V3):β:=
 match b with
 | .cells c _=>ldC o size z k c
 | .rom c=>ldC o size z k c
 | _=>z
def rLd(x:X)(size:Option Nat)(T:K0 Value)(H:Y0)(z:β)(k:Value->β):β:=
 W4 T x fun v=>match v with
  | .pointer (some ⟨b,o,none⟩)=>D12 H b z (ldB o size z k)
  | _=>z
def rLk(kd:TypeDesc)(zero:Value)(x ix:X)(ok:Bool)(T:K0 Value)(H:Y0)(z:β)(k:Value->β):β:=
 W4 T x fun v=>W4 T ix fun vi=>cond (Q9 kd vi)
  ((fun(es:List MapEntry->β)=>match v with
   | .map none=>es []
   | .map (some r)=>D12 H r z fun b=>match b with
    | .map l _=>es l
    | _=>z
   | _=>z) fun l=>match dP kd vi l 0 with
    | some (some (_,v))=>cond ok (M6 k (.tuple ⟨[v,.bool true]⟩)) (M6 k v)
    | some none=>cond ok (M6 k (.tuple ⟨[zero,.bool false]⟩)) (M6 k zero)
    | none=>z) z
def U53(x:X)(kd:Nat)(T:K0 Value)(H:Y0)(z:β)(k:Value->β):β:=
 W4 T x fun v=>match kd,v with
  | 0,.slice _ n _=>M6 k (.int .i64 (.ofNat n))
  | 1,.string s=>M2 s.size fun n=>M6 k (.int .i64 (.ofNat n))
  | 2,.map none=>M6 k (.int .i64 (.ofNat 0))
  | 2,.map (some r)=>D12 H r z fun b=>match b with
   | .map l _=>M2 l.length fun n=>M6 k (.int .i64 (.ofNat n))
   | _=>z
  | _,_=>z
def X34(kd:IntKind)(x:X)(T:K0 Value)(_:Y0)(z:β)(k:Value->β):β:=
 W4 T x fun v=>match v with
  | .int _ n=>cond (Q14 kd n) (M6 k (.int kd n)) (Q16 (kd.wrap n) fun n=>M6 k (.int kd n))
  | _=>z
def J70(P:Program)(x:X)(o:Oper)(T:K0 Value)(z:β)(k:Value->β):β:=K20 P T [x] o z k
def N8(b:V3)(o cap size:Nat):Option Bool:=
 match b with
 | .cells c sl=>cond (bR sl 0) (some false) (cond (bR sl size) (some (bR (o+cap*size) c.length)) none)
 | .rom _=>some false
 | _=>none
def slB(a:Addr)(len cap size:Nat)(lo hi mx:Option Value)(z:β)(k:Value->β)(b:V3):β:=
 match N8 b a.off cap size with
 | some l=>(match B26 (some a) len cap size lo hi mx l with
  | some r=>X13 r k
  | none=>z)
 | none=>z
def rSl(x:X)(size:Nat)(lo hi mx:Option X)(T:K0 Value)(H:Y0)(z:β)(k:Value->β):β:=
 W4 T x fun v=>R24 T lo fun lo=>R24 T hi fun hi=>R24 T mx fun mx=>match v with
  | .slice none len cap=>(match B26 none len cap size lo hi mx false with
   | some r=>X13 r k
   | none=>z)
  | .slice (some ⟨b,o,none⟩) len cap=>D12 H b z (slB ⟨b,o,none⟩ len cap size lo hi mx z k)
  | _=>z
def R22:List Value->Option (List UInt8)
 | []=>some []
 | .int .u8 (.ofNat n) :: r=>cond (dE n 256) (match R22 r with
  | some l=>some (UInt8.ofNat n :: l)
  | none=>none) none
 | _=>none
def Q53(x:X)(T:K0 Value)(H:Y0)(z:β)(k:Value->β):β:=
 W4 T x fun v=>match v with
  | .slice none _ _=>M6 k (.string ⟨#[]⟩)
  | .slice (some a) len _=>B19 H a len z fun cs=>match R22 cs with
   | some bs=>M6 k (.string ⟨⟨bs⟩⟩)
   | none=>z
  | _=>z
def M9(P:Program)(i:IR):K0 Value->Y0->β->(Value->β)->β:=
 @IR.rec (fun _=>K0 Value->Y0->β->(Value->β)->β) rLd rLk U53 X34 (fun x o T _ z k=>J70 P x o T z k) rSl Q53 i
def Z0:List Value->Bool
 | []=>true
 | .agg _ :: _ | .tuple _ :: _ | .chan _ :: _=>false
 | _ :: l=>Z0 l
inductive Q0 where
 | ptr
 | slice (len cap:Nat)
 | map
def Q0.val(q:Nat):Q0->Value
 | .ptr => .pointer (some { block:=q,off:=0 })
 | .slice l c => .slice (some { block:=q,off:=0 }) l c
 | .map => .map (some q)
def Q19(z:List Value):Nat->List Value
 | 0=>[]
 | n+1=>z++Q19 z n
inductive IA where
 | alloc (z:List Value)
 | box (x:X)
 | bsl (len size:Nat) (z:List Value) (parts:List (Nat × X))
 | msl (l c:X) (z:List Value)
 | mmap (x:Option X)
def evA(i:IA)(T:K0 Value)(z:β)(k:V3->Q0->β):β:=
 match i with
 | .alloc zero=>spine zero fun l=>k (.cells l 0) .ptr
 | .box x=>W4 T x fun v=>cond (Z0 v.cells.toList) (spine v.cells.toList fun l=>k (.cells l 0) .ptr) z
 | .bsl len size zero parts=>E34 T parts fun vs=>
  match V16 (fun k=>some (k*size,size)) (Q19 zero len) vs with
  | some cs=>cond (Z0 cs) (spine cs fun cs=>k (.cells cs 0) (.slice len len)) z
  | none=>z
 | .msl l c zero=>W4 T l fun vl=>W4 T c fun vc=>match vl,vc with
  | .int .i64 (.ofNat l),.int .i64 (.ofNat c)=>cond (dD l c&&dD c 1000000) (spine (Q19 zero c) fun cs=>k (.cells cs 0) (.slice l c)) z
  | _,_=>z
 | .mmap x=>R24 T x fun x=>match x with
  | none=>k (.map [] 0) .map
  | some (.int _ _)=>k (.map [] 0) .map
  | _=>z
inductive IE where
 | st (x v:X) (size:Nat)
 | upd (kd:TypeDesc) (m k v:X)
 | call (f:X) (args:List X)
 | app (s x:X) (size bytes:Nat)
 | copy (d s:X) (size:Nat)
 | clrM (m:X)
 | clrS (s:X) (zero:List Value)
abbrev Z3(β:Type):=FuncId->List Value->Y0->Nat->β->(Value->Y0->Nat->β)->β
def U12(H:Y0)(a:Addr)(vs:List Value)(z:β)(k:Y0->β):β:=
 match a with
 | ⟨b,o,none⟩=>D12 H b z fun blk=>match blk with
  | .cells c sl=>cond (dD (o+vs.length) c.length)
   (spine (c.take o++vs++c.drop (o+vs.length)) fun c=>E6 H b (some (.cells c sl)) k) z
  | _=>z
 | _=>z
def Z5(H:Y0)(size n:Nat)(x:Value)(z:β)(k:List Value->β):β:=
 match x with
 | .slice (some a) _ _=>B19 H a (n*size) z k
 | .slice none _ _=>k []
 | .string s=>M22 ((s.extract 0 n).data.toList.map fun b => .int .u8 b.toNat) k
 | _=>z
def Y45:Value->Option Nat
 | .slice _ n _=>some n
 | .string s=>some s.size
 | _=>none
def C42(H:Y0)(nx:Nat)(size J O E n:Nat)(base:Option Addr)(new:List Value)(z:β)(k:Value->Y0->Nat->β):β:=
 match base with
 | none=>cond (bR n 0) (k (.slice none J E) H nx) z
 | some ⟨b,o,none⟩=>M2 (o+O*size) fun o'=>U12 H ⟨b,o',none⟩ new z fun H'=>k (.slice (some ⟨b,o,none⟩) J E) H' nx
 | _=>z
def K11(H:Y0)(nx size E:Nat)(cs:List Value)(k:Value->Y0->Nat->β):β:=
 M2 (nx+1) fun J=>M2 size fun size=>E6 H nx (some (.cells cs size)) fun H'=>k (.slice (some ⟨nx,0,none⟩) E E) H' J
def D22(H:Y0)(nx:Nat)(size E J:Nat)(base:Option Addr)(cs:List Value)(z:β)(k:Value->Y0->Nat->β):β:=
 match base with
 | none=>K11 H nx size E cs k
 | some ⟨b,o,none⟩=>D12 H b z fun blk=>match N8 blk o J size with
  | some false=>K11 H nx size E cs k
  | some true=>E6 H b none fun H=>K11 H nx size E cs k
  | none=>z
 | _=>z
def Z22(H:Y0)(nx:Nat)(size bytes:Nat)(s x:Value)(z:β)(k:Value->Y0->Nat->β):β:=
 match s,Y45 x with
 | .slice base sLen sCap,some n=>M2 (sLen+n) fun E=>
  cond (dD ((2*E+1000)*bytes) 281474976710656&&dD E 1000000000)
   (Z5 H size n x z fun new=>cond (Z0 new)
   (cond (dD E sCap) (C42 H nx size E sLen sCap n base new z k)
    (Z5 H size sLen s z fun J=>spine (J++new) fun cs=>cond (bR cs.length (E*size)) (D22 H nx size E sCap base cs z k) z)) z) z
 | _,_=>z
def E41(f:X)(args:List X)(call:Z3 β)(T:K0 Value)(H:Y0)(nx:Nat)(z:β)(k:Value->Y0->Nat->β):β:=
 W4 T f fun vf=>match vf with
  | .func (.func g) ⟨first⟩ ⟨cap⟩=>U17 T args fun vs=>spine (first++vs++cap) fun vs=>call g vs H nx z k
  | _=>z
def eSt(x v:X)(size:Nat)(_:Z3 β)(T:K0 Value)(H:Y0)(nx:Nat)(z:β)(k:Value->Y0->Nat->β):β:=
 W4 T x fun vx=>W4 T v fun vv=>match vx with
  | .pointer (some a)=>cond (bR vv.cells.toList.length size&&Z0 vv.cells.toList)
   (U12 H a vv.cells.toList z fun H=>k undef H nx) z
  | _=>z
def G52(kd:TypeDesc)(H:Y0)(nx:Nat)(r:Nat)(vk vv:Value)(z:β)(k:Value->Y0->Nat->β)(b:V3):β:=
 match b with
 | .map es clock=>cond (Q9 kd vk)
  (match dP kd vk es 0 with
   | some (some (i,_))=>(match nth es i with
    | some e=>spine (R26 es i { key:=vk,val:=vv,born:=e.born }) fun es=>E6 H r (some (.map es clock)) fun H=>k undef H nx
    | none=>z)
   | some none=>spine (es++[{ key:=vk,val:=vv,born:=clock }]) fun es=>M2 (clock+1) fun c=>E6 H r (some (.map es c)) fun H=>k undef H nx
   | none=>z) z
 | _=>z
def U54(kd:TypeDesc)(m key v:X)(_:Z3 β)(T:K0 Value)(H:Y0)(nx:Nat)(z:β)(k:Value->Y0->Nat->β):β:=
 W4 T m fun vm=>W4 T key fun vk=>W4 T v fun vv=>match vm with
  | .map (some r)=>D12 H r z (G52 kd H nx r vk vv z k)
  | _=>z
def B41(d s:X)(size:Nat)(_:Z3 β)(T:K0 Value)(H:Y0)(nx:Nat)(z:β)(k:Value->Y0->Nat->β):β:=
 W4 T d fun vd=>W4 T s fun vs=>match vd,Y45 vs with
  | .slice base dLen _,some m=>M2 (Nat.min m dLen) fun n=>Z5 H size n vs z fun cs=>cond (Z0 cs) (match base with
   | none=>M6 (M6 (M6 k (.int .i64 (.ofNat n))) H) nx
   | some a=>U12 H a cs z fun H=>M6 (M6 (M6 k (.int .i64 (.ofNat n))) H) nx) z
  | _,_=>z
def Y42(m:X)(_:Z3 β)(T:K0 Value)(H:Y0)(nx:Nat)(z:β)(k:Value->Y0->Nat->β):β:=
 W4 T m fun v=>match v with
  | .map none=>k undef H nx
  | .map (some r)=>D12 H r z fun b=>match b with
   | .map _ clock=>E6 H r (some (.map [] clock)) fun H=>k undef H nx
   | _=>z
  | _=>z
def W42(s:X)(zero:List Value)(_:Z3 β)(T:K0 Value)(H:Y0)(nx:Nat)(z:β)(k:Value->Y0->Nat->β):β:=
 W4 T s fun v=>match v with
  | .slice none _ _=>k undef H nx
  | .slice (some ⟨b,o,none⟩) n _=>cond (bR n 0) (k undef H nx) (cond (Z0 (Q19 zero n)) (U12 H ⟨b,o,none⟩ (Q19 zero n) z fun H=>k undef H nx) z)
  | _=>z
def evE(i:IE):Z3 β->K0 Value->Y0->Nat->β->(Value->Y0->Nat->β)->β:=
 @IE.rec (fun _=>Z3 β->K0 Value->Y0->Nat->β->(Value->Y0->Nat->β)->β)
  eSt U54 E41 (fun s x size bytes _ T H nx z k=>W4 T s fun vs=>W4 T x fun vx=>Z22 H nx size bytes vs vx z k) B41 Y42 W42 i
inductive I where
 | p (i:IP)
 | r (i:IR)
 | a (i:IA)
 | e (i:IE)
def R13(P:Program):List Field->Option (List (Nat × Nat))
 | []=>some []
 | f :: fs=>match P.info? f.type,R13 P fs with
  | some i,some l=>some ((f.offset,i.size) :: l)
  | _,_=>none
def M10(P:Program)(t:TypeId):Option (List Value):=
 match P.info? t with
 | some i=>match i.zero with
  | some z=>cond (X7 z&&Z0 z.cells.toList&&bR z.cells.toList.length i.size) (some z.cells.toList) none
  | none=>none
 | none=>none
def G8:TypeDesc->Bool
 | .struct _ | .array _ _=>true
 | _=>false
def E8(P:Program)(t:TypeId):Option (Option Nat):=
 match P.underlying t,P.info? t with
 | some d,some i=>some (cond (G8 d) (some i.size) none)
 | _,_=>none
def Y27(n size:Nat):List (Nat × Nat):=(aY n).map fun i=>(i*size,size)
def N69:BinOp->Option Bool
 | .eql=>some false
 | .neq=>some true
 | _=>none
def W36:Option TypeDesc->Option Nat
 | some (.int _)=>some 0
 | some .bool=>some 1
 | some .string=>some 2
 | _=>none
def D27(P:Program):List Field->Option (List (Nat × Nat))
 | []=>some []
 | f :: fs=>match W36 (P.underlying f.type),D27 P fs with
  | some tag,some os=>some ((f.offset,tag) :: os)
  | _,_=>none
def V43 (P:Program) (t:TypeId) (fs:List Field):Option (List (Nat × Nat)):=
 cond (!P.stoodInHeld t && !P.eqGuardType P.depth t && fs.all fun f => f.name != "_") (D27 P fs) none
def G19(P:Program)(n:Nat)(o:Oper):Option I:=
 match o.op with
 | .move x | .assign x=>(W13 n x).map fun x => .p (.mv x)
 | .pick c a b=>match W13 n c,W13 n a,W13 n b with
  | some c,some a,some b=>some (.p (.pick c a b))
  | _,_,_=>none
 | .binOp op t x y _=>match W13 n x,W13 n y with
  | some x,some y=>match N69 op with
   | none=>some (.p (.bin op x y))
   | some neg=>match P.underlying t with
    | some (.int _)=>some (.p (.bin op x y))
    | some .string=>some (.p (.bin op x y))
    | some .bool=>some (.p (.vf (.eqb neg) [x,y]))
    | some (.pointer e)=>some (.p (.vf (.eqn neg (.pointer e)) [x,y]))
    | some (.slice e)=>some (.p (.vf (.eqn neg (.slice e)) [x,y]))
    | some (.map a e)=>some (.p (.vf (.eqn neg (.map a e)) [x,y]))
    | some (.func a e c)=>some (.p (.vf (.eqn neg (.func a e c)) [x,y]))
    | some (.struct fs)=>(match V43 P t fs.toList with
     | some offs=>some (.p (.vf (.eqs neg offs) [x,y]))
     | none=>some (.p (.eq neg (P.underlying t) x y o)))
    | _=>some (.p (.eq neg (P.underlying t) x y o))
  | _,_=>none
 | .unOp op _ x=>match W13 n x with
  | some x=>some (.p (.un op x))
  | none=>none
 | .fieldAddr s x f=>match W13 n x,P.underlying s with
  | some x,some (.struct fs)=>match nth fs.toList f with
   | some fd=>match P.info? fd.type with
    | some i=>cond (bR i.size 0) none (some (.p (.fld x fd.offset)))
    | none=>none
   | none=>none
  | _,_=>none
 | .indexAddr t x ix=>match W13 n x,W13 n ix,P.underlying t with
  | some x,some ix,some (.slice e)=>match P.info? e with
   | some i=>some (.p (.idx x ix none i.size))
   | none=>none
  | some x,some ix,some (.array len e)=>match P.info? e with
   | some i=>some (.p (.idx x ix (some len) i.size))
   | none=>none
  | _,_,_=>none
 | .nilCheck x=>(W13 n x).map fun x => .p (.nilc x)
 | .extract x i=>(W13 n x).map fun x => .p (.ext x i)
 | .field t x f=>match W13 n x,P.underlying t with
  | some x,some (.struct fs)=>match nth fs.toList f with
   | some fd=>(E8 P fd.type).map fun sh => .p (.part x fd.offset sh)
   | none=>none
  | _,_=>none
 | .index t x ix=>match W13 n x,W13 n ix,P.underlying t with
  | some x,some ix,some (.array len e)=>match P.info? e,P.underlying e with
   | some i,some d=>some (.p (.aidx x ix len i.size (G8 d)))
   | _,_=>none
  | some x,some ix,some .string=>some (.p (.vf .sidx [x,ix]))
  | _,_,_=>none
 | .build t parts=>match P.underlying t,M10 P t,R16 n parts.toList with
  | some (.struct fields),some z,some ps=>(R13 P fields.toList).map fun pl => .p (.build z pl ps)
  | some (.array k e),some z,some ps=>match P.info? e with
   | some i=>some (.p (.build z (Y27 k i.size) ps))
   | none=>none
  | _,_,_=>none
 | .slice t x lo hi mx=>match W13 n x,B71 n lo,B71 n hi,B71 n mx,P.underlying t with
  | some x,some lo,some hi,some mx,some (.slice e)=>match P.info? e with
   | some i=>some (.r (.sl x i.size lo hi mx))
   | none=>none
  | some x,some lo,some hi,some mx,some (.array k e)=>match P.info? e with
   | some i=>some (.p (.slA x k i.size lo hi mx))
   | none=>none
  | some x,some lo,some hi,some none,some .string=>some (.p (.vf (.ssl lo.isSome hi.isSome) (x :: (lo.toList++hi.toList))))
  | _,_,_,_,_=>none
 | .makeFunc fn first E=>match U7 n first.toList,U7 n E.toList with
  | some f,some c=>some (.p (.mkf fn f c))
  | _,_=>none
 | .makeInterface t x=>match W13 n x,P.underlying t with
  | some _,some (.interface _)=>none
  | some x,some _=>some (.p (.mki t x))
  | _,_=>none
 | .load t x=>match W13 n x,E8 P t with
  | some x,some sh=>some (.r (.ld x sh))
  | _,_=>none
 | .lookup t x ix ok=>match W13 n x,W13 n ix,P.underlying t with
  | some x,some ix,some (.map key elem)=>match P.underlying key,P.info? elem with
   | some kd,some ie=>match ie.zero with
    | some z=>cond (X7 z) (some (.r (.lk kd z x ix ok))) none
    | none=>none
   | _,_=>none
  | _,_,_=>none
 | .convert src dst x=>match W13 n x,P.underlying src,P.underlying dst with
  | some x,some (.int _),some (.int k)=>some (.r (.convI k x))
  | some x,some (.slice e),some .string=>match P.underlying e with
   | some (.int .u8)=>some (.r (.str x))
   | _=>some (.r (.conv x o))
  | some x,some _,some _=>some (.r (.conv x o))
  | _,_,_=>none
 | .alloc e=>(M10 P e).map fun z => .a (.alloc z)
 | .box _ x=>(W13 n x).map fun x => .a (.box x)
 | .buildSlice t len parts=>match P.underlying t,R16 n parts.toList with
  | some (.slice e),some ps=>match M10 P e,P.info? e with
   | some z,some i=>cond (dD (len*i.size) 16777216) (some (.a (.bsl len i.size z ps))) none
   | _,_=>none
  | _,_=>none
 | .makeSlice t l c=>match W13 n l,W13 n c,P.underlying t with
  | some l,some c,some (.slice e)=>match M10 P e,P.info? e with
   | some z,some i=>cond (dD i.bytes 100000) (some (.a (.msl l c z))) none
   | _,_=>none
  | _,_,_=>none
 | .makeMap t r=>match B71 n r,P.underlying t with
  | some r,some (.map _ _)=>some (.a (.mmap r))
  | _,_=>none
 | .store t x v=>match W13 n x,W13 n v,P.info? t with
  | some x,some v,some i=>some (.e (.st x v i.size))
  | _,_,_=>none
 | .mapUpdate t m k v=>match W13 n m,W13 n k,W13 n v,P.underlying t with
  | some m,some k,some v,some (.map key _)=>(P.underlying key).map fun kd => .e (.upd kd m k v)
  | _,_,_,_=>none
 | .call c=>match c.callee with
  | .value f=>match W13 n f,U7 n c.args.toList with
   | some f,some xs=>some (.e (.call f xs))
   | _,_=>none
  | .builtin .append=>match c.argTypes.toList,c.args.toList with
   | t :: u :: _,s :: x :: _=>match W13 n s,W13 n x,P.underlying t,P.underlying u with
    | some s,some x,some (.slice e),some ud=>match M10 P e,P.info? e with
     | some _,some i=>(match ud with
      | .int _=>none
      | _=>cond (dE 0 i.size) (some (.e (.app s x i.size i.bytes))) none)
     | _,_=>none
    | _,_,_,_=>none
   | _,_=>none
  | .builtin .copy=>match c.argTypes.toList,c.args.toList with
   | t :: _,s :: x :: _=>match W13 n s,W13 n x,P.underlying t with
    | some s,some x,some (.slice e)=>(P.info? e).map fun i => .e (.copy s x i.size)
    | _,_,_=>none
   | _,_=>none
  | .builtin .len=>match c.argTypes.toList,c.args.toList with
   | [t],[x]=>match W13 n x,P.underlying t with
    | some x,some (.slice _)=>some (.r (.len x 0))
    | some x,some .string=>some (.r (.len x 1))
    | some x,some (.map _ _)=>some (.r (.len x 2))
    | _,_=>none
   | _,_=>none
  | .builtin .min=>(U7 n c.args.toList).map fun xs => .p (.vf (.mm false) xs)
  | .builtin .max=>(U7 n c.args.toList).map fun xs => .p (.vf (.mm true) xs)
  | .builtin .clear=>match c.argTypes.toList,c.args.toList with
   | [t],[x]=>match W13 n x,P.underlying t with
    | some x,some (.map _ _)=>some (.e (.clrM x))
    | some x,some (.slice e)=>(M10 P e).map fun z => .e (.clrS x z)
    | _,_=>none
   | _,_=>none
  | _=>none
 | .sliceToArrayPointer J x=>match W13 n x,P.underlying J with
  | some x,some (.array k _)=>some (.p (.vf (.s2a k) [x]))
  | _,_=>none
 | .insert t m k v=>match W13 n m,W13 n k,W13 n v,P.underlying t with
  | some m,some k,some v,some (.map key _)=>(P.underlying key).map fun kd => .e (.upd kd m k v)
  | _,_,_,_=>none
 | _=>none
def W18(P:Program)(n:Nat)(o:Oper):Option I:=
 match G19 P n o with
 | some i=>some i
 | none=>some (.p (.vf .bad []))
theorem E20{P:Program}{n:Nat}{o:Oper}{i:I}(h:W18 P n o=some i):G19 P n o=some i\/i = .p (.vf .bad []):=by
 unfold W18 at h
 split at h
 .cases h;exact .inl (by assumption)
 .cases h;exact .inr rfl
structure S where
 guard:Option (Nat × Bool)
 dst:Option Nat
 i:I
def W16(n:Nat)(ops:List Oper):Option (Nat × Bool)->Option (Option (Nat × Bool))
 | none=>some none
 | some (j,want)=>match nth ops j with
  | some o=>match o.dst with
   | some t=>cond (dE t n) (some (some (t,want))) none
   | none=>none
  | none=>none
def E42(n:Nat):Option Tmp->Option (Option Nat)
 | none=>some none
 | some t=>cond (dE t n) (some (some t)) none
def K16(P:Program)(n:Nat)(ops:List Oper)(o:Oper):Option S:=
 match W16 n ops o.guard,E42 n o.dst,W18 P n o with
 | some g,some d,some i=>some ⟨g,d,i⟩
 | _,_,_=>none
def R3(P:Program)(n:Nat)(ops:List Oper):List Oper->Option (List S)
 | []=>some []
 | o :: l=>match K16 P n ops o,R3 P n ops l with
  | some s,some l=>some (s :: l)
  | _,_=>none
def Q1(acc:List Nat)(es:List Edge)(m:Nat):Nat:=
 match es with
 | []=>m
 | e :: es=>cond (fH .any e)
  (Q1 acc es (m ||| 2^e.on ||| (match nth acc e.on with | some x=>x | none=>0)))
  (Q1 acc es m)
def D26{β:Type}(acc:List Nat)(ops:List Oper)(f:List Nat->β):β:=
 match ops with
 | []=>f acc
 | o :: ops=>M2 (Q1 acc o.after.toList 0) fun m=>D26 (acc++[m]) ops f
def U1(ops:List Oper):List Nat:=D26 [] ops id
def D2(ms:List Nat)(i j:Nat):Bool:=
 match nth ms i with
 | some m=>Nat.testBit m j
 | none=>false
def J17(ops:List Oper)(o:Oper):List Tmp:=
 (o.op.operands.toList.filterMap fun x=>match x with | .tmp t=>some t | _=>none) ++
 (match o.guard with
  | some (g,_)=>match nth ops g with
   | some o=>o.dst.toList
   | none=>[]
  | none=>[])
def E13(ms:List Nat)(ops:List Oper):List Oper->Nat->Bool
 | [],_=>true
 | o :: rest,i=>
  (ops.zipIdx.all fun(oj,j)=>match oj.dst with
   | none=>true
   | some d=>bR i j || ((!(o.dst==some d))&&(!((J17 ops o).contains d) || D2 ms i j || D2 ms j i))) &&
  (match o.guard with
   | none=>true
   | some (g,_)=>D2 ms i g&&dE g i) &&
  (match o.dst with
   | none=>true
   | some d => !(J17 ops o).contains d) &&
  o.after.toList.all (fun e => !fH .any e || dE e.on i) &&
  E13 ms ops rest (i+1)
structure Rd where
 i:Nat
 r:IR
 T:K0 Value
 v:Value
def Y3(ms:List Nat)(es:List Nat)(j:Nat):Bool:=es.any fun e=>D2 ms e j
def U13{β:Type}(ms:List Nat)(N:Nat)(es:List Nat)(i:Nat)(H:Y0)(f:Y0->β):List (Nat × V3)->β
 | []=>f H
 | (j,b) :: as=>cond (D2 ms i j && !Y3 ms es j)
  (E6 H (N+j) (some b) fun H=>U13 ms N es i H f as)
  (U13 ms N es i H f as)
mutual
def veq:Nat->Value->Value->Bool
 | 0,_,_=>false
 | n+1,x,y=>match x,y with
  | .bool a,.bool b=>a==b
  | .int j a,.int k b=>eqK j k&&eqI a b
  | .float j a,.float k b=>decide (j=k)&&bR a b
  | .string a,.string b=>decide (a=b)
  | .pointer a,.pointer b=>decide (a=b)
  | .slice a l c,.slice a' l' c'=>decide (a=a')&&bR l l'&&bR c c'
  | .map a,.map b=>decide (a=b)
  | .nilFunc,.nilFunc=>true
  | .nilIface,.nilIface=>true
  | .func f x y,.func f' x' y'=>decide (f=f')&&D25 n x.toList x'.toList&&D25 n y.toList y'.toList
  | .iface t v,.iface t' v'=>bR t t'&&veq n v v'
  | .agg a,.agg b=>D25 n a.toList b.toList
  | .tuple a,.tuple b=>D25 n a.toList b.toList
  | _,_=>false
def D25:Nat->List Value->List Value->Bool
 | 0,_,_=>false
 | n+1,x,y=>match x,y with
  | [],[]=>true
  | a :: x,b :: y=>veq n a b&&D25 n x y
  | _,_=>false
end
def E22(P:Program)(ms:List Nat)(N:Nat)(as:List (Nat × V3))(r:Rd):List Nat->List Y0->Y0->List Nat->Bool
 | es,Ms,M,later=>
  (cond (es.any (fun e=>D2 ms e r.i) || later.any (fun e=>D2 ms r.i e)) true
   (U13 ms N es r.i M (fun h=>M9 P r.r r.T h false fun v=>veq 64 v r.v) as)) &&
  (match es,Ms with
   | e :: es',M' :: Ms'=>cond (D2 ms r.i e) true (E22 P ms N as r es' Ms' M' (e :: later))
   | [],[]=>true
   | _,_=>false)
def Z13{β:Type}(ms:List Nat)(N:Nat)(es:List Nat)(H:Y0)(f:Y0->β):List (Nat × V3)->β
 | []=>f H
 | (j,b) :: as=>cond (Y3 ms es j) (Z13 ms N es H f as) (E6 H (N+j) (some b) fun H=>Z13 ms N es H f as)
def E4(d:Nat)(dst:Option Nat)(v:Value)(T:K0 Value)(k:K0 Value->β):β:=
 match dst with
 | none=>k T
 | some t=>tsK d T t v k
def V8(g:Option (Nat × Bool))(T:K0 Value)(z E no:β):β:=
 match g with
 | none=>E
 | some (t,want)=>tgK T t no fun v=>match v with
  | .bool b=>ifK (cond b want (!want)) E no
  | .chan _=>z
  | _=>no
def Z4{β:Type}(P:Program)(d:Nat)(call:Z3 β)(ms:List Nat)(N:Nat)(z:β)
  (k:K0 Value->Y0->Nat->List Y0->List Nat->List (Nat × V3)->List Rd->β):
  List S->Nat->K0 Value->Y0->Nat->List Y0->List Nat->List (Nat × V3)->List Rd->β
 | [],_,T,H,nx,Ms,es,as,rs=>k T H nx Ms es as rs
 | ⟨g,dst,op⟩ :: l,i,T,H,nx,Ms,es,as,rs=>V8 g T z
  (match op with
   | .p op=>X4 P op T z fun v=>E4 d dst v T fun T=>Z4 P d call ms N z k l (i+1) T H nx Ms es as rs
   | .r op=>U13 ms N es i H (fun h=>M9 P op T h z fun v=>E4 d dst v T fun T'=>Z4 P d call ms N z k l (i+1) T' H nx Ms es as (⟨i,op,T,v⟩ :: rs)) as
   | .a op=>evA op T z fun b y=>M2 (N+i) fun q=>M0 (y.val q) fun v=>E4 d dst v T fun T=>Z4 P d call ms N z k l (i+1) T H nx Ms es ((i,b) :: as) rs
   | .e op=>cond (es.all fun e=>D2 ms i e)
    (U13 ms N es i H (fun h=>evE op call T h nx z fun v H' nx=>E4 d dst v T fun T=>Z4 P d call ms N z k l (i+1) T H' nx (H :: Ms) (i :: es) as rs) as) z)
  (E4 d dst undef T fun T=>Z4 P d call ms N z k l (i+1) T H nx Ms es as rs)
inductive C where
 | skip
 | ops (l:List S)
 | draw (ms:List Nat) (l:List S)
 | seq (a b:C)
 | cond (x:X) (t e:C)
 | block (id:Nat) (c:C)
 | loop (c:C)
 | exit (id:Nat)
 | ret
def R18(P:Program)(n:Nat):Code->Option C
 | .skip | .label _=>some .skip
 | .region _ ops draw=>match R3 P n ops.toList ops.toList with
  | some l=>(match draw with
   | false=>some (.ops l)
   | true=>cond (E13 (U1 ops.toList) ops.toList ops.toList 0) (some (.draw (U1 ops.toList) l)) none)
  | none=>none
 | .seq a b=>match R18 P n a,R18 P n b with
  | some a,some b=>some (.seq a b)
  | _,_=>none
 | .cond x t e=>match W13 n x,R18 P n t,R18 P n e with
  | some x,some t,some e=>some (.cond x t e)
  | _,_,_=>none
 | .block id c=>(R18 P n c).map (.block id)
 | .loop c=>(R18 P n c).map .loop
 | .scope c=>R18 P n c
 | .exit id=>some (.exit id)
 | .ret=>some .ret
 | _=>none
def C54(i:IP)(P:Program)(d:Nat)(dst:Option Nat)(_:Z3 β)(T:K0 Value)(H:Y0)(nx:Nat)(z:β)(k:K0 Value->Y0->Nat->β):β:=
 X4 P i T z fun v=>E4 d dst v T fun T=>k T H nx
def K56(i:IR)(P:Program)(d:Nat)(dst:Option Nat)(_:Z3 β)(T:K0 Value)(H:Y0)(nx:Nat)(z:β)(k:K0 Value->Y0->Nat->β):β:=
 M9 P i T H z fun v=>E4 d dst v T fun T=>k T H nx
def J36(d:Nat)(dst:Option Nat)(T:K0 Value)(H:Y0)(nx:Nat)(k:K0 Value->Y0->Nat->β)(b:V3)(y:Q0):β:=
 E6 H nx (some b) fun H=>M2 (nx+1) fun n=>X13 (y.val nx) fun v=>E4 d dst v T fun T=>k T H n
def Z42(i:IA)(_:Program)(d:Nat)(dst:Option Nat)(_:Z3 β)(T:K0 Value)(H:Y0)(nx:Nat)(z:β)(k:K0 Value->Y0->Nat->β):β:=
 evA i T z (J36 d dst T H nx k)
def N53(i:IE)(_:Program)(d:Nat)(dst:Option Nat)(call:Z3 β)(T:K0 Value)(H:Y0)(nx:Nat)(z:β)(k:K0 Value->Y0->Nat->β):β:=
 evE i call T H nx z fun v H nx=>E4 d dst v T fun T=>k T H nx
def V30(i:I):Program->Nat->Option Nat->Z3 β->K0 Value->Y0->Nat->β->(K0 Value->Y0->Nat->β)->β:=
 @I.rec (fun _=>Program->Nat->Option Nat->Z3 β->K0 Value->Y0->Nat->β->(K0 Value->Y0->Nat->β)->β) C54 K56 Z42 N53 i
def U18(P:Program)(d:Nat)(call:Z3 β)(s:S)(T:K0 Value)(H:Y0)(nx:Nat)(z:β)(k:K0 Value->Y0->Nat->β):β:=
 @S.rec (fun _=>β) (fun g dst op=>V8 g T z (V30 op P d dst call T H nx z k) (E4 d dst undef T fun T=>k T H nx)) s
def C9(P:Program)(d:Nat)(call:Z3 β)(z:β)(k:K0 Value->Y0->Nat->β)(l:List S):K0 Value->Y0->Nat->β:=
 @List.rec S (fun _=>K0 Value->Y0->Nat->β) k (fun s _ ih T H nx=>U18 P d call s T H nx z ih) l
abbrev K(β:Type):=K0 Value->Y0->Nat->β
abbrev E12(β:Type):=List Nat->Nat->List (Nat × V3)->List Rd->List Nat->List Y0->Y0->β->β->β
abbrev E15(β:Type):=β->(K β->K β)->K β
def D43(P:Program):E12 β:=fun ms N as rs es Ms H y z=>cond (rs.all fun r=>E22 P ms N as r es Ms H []) y z
def N45(m:Nat):E15 β:=fun z f=>@fC (fun _=>K β) (fun _ _ _=>z) (fun _ ih=>f ih) m
def Z28(P:Program)(d:Nat)(call:Z3 β)(E:E12 β)(z:β)(ms:List Nat)(l:List S)(T:K0 Value)(H:Y0)(nx:Nat)(k:K β):β:=
 M2 (nx+l.length) fun nx'=>
  Z4 P d call ms nx z (fun T H n Ms es as rs=>E ms nx as rs es Ms H (Z13 ms nx es H (fun H=>k T H n) as) z) l 0 T H nx' [] [] [] []
def X71(l:List S)(P:Program)(d:Nat)(call:Z3 β)(_:E12 β)(_:E15 β)(z:β)(T:K0 Value)(H:Y0)(nx:Nat)(k:K β)(_:Nat->K β)(_:K β):β:=
 C9 P d call z k l T H nx
def V70(ms:List Nat)(l:List S)(P:Program)(d:Nat)(call:Z3 β)(E:E12 β)(_:E15 β)(z:β)(T:K0 Value)(H:Y0)(nx:Nat)(k:K β)(_:Nat->K β)(_:K β):β:=
 Z28 P d call E z ms l T H nx k
abbrev CK(β:Type):=Program->Nat->Z3 β->E12 β->E15 β->β->K0 Value->Y0->Nat->K β->(Nat->K β)->K β->β
def Y71(_ _:C)(a b:CK β)(P:Program)(d:Nat)(call:Z3 β)(E:E12 β)(fx:E15 β)(z:β)(T:K0 Value)(H:Y0)(nx:Nat)(k:K β)(x:Nat->K β)(r:K β):β:=
 a P d call E fx z T H nx (fun T H nx=>b P d call E fx z T H nx k x r) x r
def U70(c:X)(_ _:C)(t e:CK β)(P:Program)(d:Nat)(call:Z3 β)(E:E12 β)(fx:E15 β)(z:β)(T:K0 Value)(H:Y0)(nx:Nat)(k:K β)(x:Nat->K β)(r:K β):β:=
 W4 T c fun v=>match v with
  | .bool b=>ifK b (t P d call E fx z T H nx k x r) (e P d call E fx z T H nx k x r)
  | _=>z
def Z69(id:Nat)(_:C)(c:CK β)(P:Program)(d:Nat)(call:Z3 β)(J:E12 β)(fx:E15 β)(z:β)(T:K0 Value)(H:Y0)(nx:Nat)(k:K β)(x:Nat->K β)(r:K β):β:=
 c P d call J fx z T H nx k (fun E T H nx=>cond (bR E id) (k T H nx) (x E T H nx)) r
def D70(_:C)(c:CK β)(P:Program)(d:Nat)(call:Z3 β)(E:E12 β)(fx:E15 β)(z:β)(T:K0 Value)(H:Y0)(nx:Nat)(_:K β)(x:Nat->K β)(r:K β):β:=
 fx z (fun ih T H nx=>c P d call E fx z T H nx ih x r) T H nx
def N6(c:C):CK β:=
 @C.rec (fun _=>CK β)
  (fun _ _ _ _ _ _ T H nx k _ _=>k T H nx)
  X71 V70 Y71 U70 Z69 D70
  (fun id _ _ _ _ _ _ T H nx _ x _=>x id T H nx)
  (fun _ _ _ _ _ _ T H nx _ _ r=>r T H nx) c
def M17(P:Program)(n:Nat):List ResultVar->Option (List (X × Option (Option Nat)))
 | []=>some []
 | r :: rs=>match (match r with
   | .tmp t=>cond (dE t n) (some (X.s t,none)) none
   | .cell a t=>cond (dE a n) ((E8 P t).map fun sh=>(X.s a,some sh)) none),M17 P n rs with
  | some r,some rs=>some (r :: rs)
  | _,_=>none
structure CF where
 n:Nat
 d:Nat
 body:C
 res:List (X × Option (Option Nat))
def cfn(P:Program)(f:FuncId):Option CF:=
 match nth P.funcs.toList f with
 | some fn=>match fn.body with
  | some c=>match R18 P fn.ntmps c,M17 P fn.ntmps fn.results.toList with
   | some body,some res=>some ⟨fn.ntmps,bG fn.ntmps+1,body,res⟩
   | _,_=>none
  | none=>none
 | none=>none
def W24{β:Type}(P:Program)(T:K0 Value)(H:Y0)(z:β)(k:List Value->β):List (X × Option (Option Nat))->β
 | []=>k []
 | (x,sh) :: rs=>match sh with
  | none=>W4 T x fun v=>W24 P T H z (fun vs=>k (v :: vs)) rs
  | some sh=>M9 P (.ld x sh) T H z fun v=>W24 P T H z (fun vs=>k (v :: vs)) rs
def tup(vs:List Value):Value:=
 match vs with
 | [v]=>v
 | vs => .tuple ⟨vs⟩
def J27{β:Type}(d:Nat)(l:List Value)(i:Nat)(T:K0 Value)(f:K0 Value->β):β:=
 match l with
 | []=>f T
 | v :: l=>tsK d T i v fun T=>J27 d l (i+1) T f
abbrev Orc:=FuncId->Option (List Value->Y0->Nat->Option (Value × Y0 × Nat))
def G14(P:Program)(res:List (X × Option (Option Nat)))(z:β)(k:Value->Y0->Nat->β)(T:K0 Value)(H:Y0)(nx:Nat):β:=
 W24 P T H z (fun vs=>M0 (tup vs) fun v=>k v H nx) res
def W28(P:Program)(call:Z3 β)(E:E12 β)(fx:E15 β)(args:List Value)(H:Y0)(nx:Nat)(z:β)(k:Value->Y0->Nat->β)(n d:Nat)(body:C)(res:List (X × Option (Option Nat))):β:=
 cond (dD args.length n)
  (J27 d args 0 .leaf fun T=>N6 body P d call E fx z T H nx (G14 P res z k) (fun _ _ _ _=>z) (G14 P res z k)) z
def K42(P:Program)(E:Orc)(n:Nat):Z3 β:=
 @fC (fun _=>Z3 β) (fun _ _ _ _ z _=>z)
  (fun _ ih f args H nx z k=>match E f with
   | some o=>(match o args H nx with
    | some (v,H,nx)=>k v H nx
    | none=>z)
   | none=>match cfn P f with
    | some ⟨n,d,body,res⟩=>W28 P ih (D43 P) (N45 1000000) args H nx z k n d body res
    | none=>z) n
def U46(P:Program)(E:Orc)(n:Nat)(f:FuncId)(args:List Value):Option Value:=
 K42 P E n f args .leaf 0 none fun v _ _=>some v
end
section
variable {H:Y0} {b:V3} {l l':List Value} {nx:Nat} {v v' z:Value} {w w':World} {α β:Type}
def tg(T:K0 α)(t:Nat):Option α:=tgK T t none some
def ts(d:Nat)(T:K0 α)(i:Nat)(a:α):K0 α:=tsK d T i a id
def WF{α:Type}:Nat->K0 α->Prop
 | _,.leaf=>True
 | 0,.tip _=>True
 | d+1,.node l r=>WF d l/\WF d r
 | _,_=>False
theorem Y32(l r:K0 α)(t:Nat)(z:β)(k:α->β):
  tgK (.node l r) t z k=if t%2=0 then tgK l (t/2) z k else tgK r (t/2) z k:=by
 show @fC (fun _=>β) (tgK l (fR t 2) z k) (fun _ _=>tgK r (fR t 2) z k) (Nat.mod t 2)=_;show @fC (fun _=>β) (tgK l (t/2) z k) (fun _ _=>tgK r (t/2) z k) (t%2)=_;rcases dZ t with h | h<;>rw[h]<;>rfl
theorem J11(T:K0 α):∀(t:Nat) (z:β) (k:α->β),tgK T t z k=(tg T t).elim z k:=by
 induction T with
 | leaf=>intros;rfl
 | tip a=>intros;rfl
 | node l r E J=>
  intro t z k;unfold tg;rw[Y32,Y32]
  split
  .exact E _ _ _
  .exact J _ _ _
theorem G36(l r:K0 α)(t:Nat):tg (.node l r) t=if t%2=0 then tg l (t/2) else tg r (t/2):=Y32 l r t none some
@[simp] theorem K71 {α:Type} (t:Nat):tg (.leaf:K0 α) t=none:=rfl
@[simp] theorem J71 {α:Type} (a:α) (t:Nat):tg (.tip a) t=some a:=rfl
theorem X31(d:Nat)(T:K0 α)(i:Nat)(a:α)(k:K0 α->β):
  tsK (d+1) T i a k=match T with
   | .node l r=>if i%2=0 then tsK d l (i/2) a fun l=>k (.node l r) else tsK d r (i/2) a fun r=>k (.node l r)
   | _=>if i%2=0 then tsK d .leaf (i/2) a fun l=>k (.node l .leaf) else tsK d .leaf (i/2) a fun r=>k (.node .leaf r):=by
 cases T with
 | leaf=>
  show @fC (fun _=>β) (tsK d .leaf (i/2) a fun l=>k (.node l .leaf)) (fun _ _=>tsK d .leaf (i/2) a fun r=>k (.node .leaf r)) (i%2)=_;rcases dZ i with h | h<;>rw[h]<;>rfl
 | tip b=>
  show @fC (fun _=>β) (tsK d .leaf (i/2) a fun l=>k (.node l .leaf)) (fun _ _=>tsK d .leaf (i/2) a fun r=>k (.node .leaf r)) (i%2)=_;rcases dZ i with h | h<;>rw[h]<;>rfl
 | node l r=>
  show @fC (fun _=>β) (tsK d l (i/2) a fun l=>k (.node l r)) (fun _ _=>tsK d r (i/2) a fun r=>k (.node l r)) (i%2)=_;rcases dZ i with h | h<;>rw[h]<;>rfl
theorem Z15(d:Nat):∀ {β:Type} (T:K0 α) (i:Nat) (a:α) (k:K0 α->β),tsK d T i a k=k (ts d T i a):=by
 induction d with
 | zero=>intros;rfl
 | succ d ih=>
  intro β T i a k;unfold ts;rw[X31,X31]
  cases T<;>(dsimp only;split<;>rw[ih,ih]<;>rfl)
theorem R36(d:Nat)(T:K0 α)(i:Nat)(a:α):
  ts (d+1) T i a=match T with
   | .node l r=>if i%2=0 then .node (ts d l (i/2) a) r else .node l (ts d r (i/2) a)
   | _=>if i%2=0 then .node (ts d .leaf (i/2) a) .leaf else .node .leaf (ts d .leaf (i/2) a):=by
 unfold ts;rw[X31]
 cases T<;>(dsimp only;split<;>rw[Z15]<;>rfl)
theorem U16(d:Nat):∀(T:K0 α) (i:Nat) (a:α),WF d T->WF d (ts d T i a):=by
 induction d with
 | zero=>intros;trivial
 | succ d ih=>
  intro T i a h;rw[R36]
  cases T with
  | leaf=>dsimp only;split<;>simp[WF,ih _ _ _ (show WF d (.leaf:K0 α) by cases d<;>trivial)]<;>(cases d<;>trivial)
  | tip b=>exact h.elim
  | node l r=>dsimp only;split<;>simp only[WF]<;>simp[WF] at h<;>simp[h,ih]
theorem K21 (d : Nat) : ∀ (T : K0 α) (i j : Nat) (a : α), WF d T -> i < 2 ^ d -> j < 2 ^ d ->
    tg (ts d T i a) j = if j = i then some a else tg T j := by
  induction d with
  | zero =>
    intro T i j a _ hi hj
    have : j = i := by simp at hi hj; omega
    simp [this]; rfl
  | succ d ih =>
    intro T i j a h hi hj
    have hi2 : i / 2 < 2 ^ d := by rw [Nat.pow_succ] at hi; omega
    have hj2 : j / 2 < 2 ^ d := by rw [Nat.pow_succ] at hj; omega
    have wl : WF d (.leaf : K0 α) := by cases d <;> trivial
    rw [R36]
    cases T with
    | leaf =>
      dsimp only
      by_cases hp : i % 2 = 0 <;> by_cases hq : j % 2 = 0 <;> simp only [hp, hq, if_true, if_false, G36]
      · rw [ih _ _ _ _ wl hi2 hj2]
        by_cases e : j = i
        · simp [e]
        · have : j / 2 ≠ i / 2 := by omega
          simp [e, this]
      · have e : j ≠ i := by omega
        simp [e]
      · have e : j ≠ i := by omega
        simp [e]
      · rw [ih _ _ _ _ wl hi2 hj2]
        by_cases e : j = i
        · simp [e]
        · have : j / 2 ≠ i / 2 := by omega
          simp [e, this]
    | tip b => exact h.elim
    | node l r =>
      obtain ⟨hl, hr⟩ := h
      dsimp only
      by_cases hp : i % 2 = 0 <;> by_cases hq : j % 2 = 0 <;> simp only [hp, hq, if_true, if_false, G36]
      · rw [ih _ _ _ _ hl hi2 hj2]
        by_cases e : j = i
        · simp [e]
        · have : j / 2 ≠ i / 2 := by omega
          simp [e, this]
      · have e : j ≠ i := by omega
        simp [e]
      · have e : j ≠ i := by omega
        simp [e]
      · rw [ih _ _ _ _ hr hi2 hj2]
        by_cases e : j = i
        · simp [e]
        · have : j / 2 ≠ i / 2 := by omega
          simp [e, this]
theorem G1{β:Type}(n:Nat)(f:Nat->β):M2 n f=f n:=by cases n<;>rfl
theorem J21(n:Int)(f:Int->β):Q16 n f=f n:=by cases n<;>simp[Q16,G1]
theorem B21(b:Bool)(f:Bool->β):V13 b f=f b:=by cases b<;>rfl
theorem J60(a:Option Addr)(f:Option Addr->β):E35 a f=f a:=by
 cases a with
 | none=>rfl
 | some a=>obtain⟨b,o,s⟩:=a;cases s<;>simp[E35,G1]
theorem E7(v:Value)(f:Value->β):X13 v f=f v:=by
 cases v<;>simp[X13,B21,J21,J60,G1]
 case map r=>cases r<;>simp[]
theorem C20(l:List Value):∀(f:List Value->β),M22 l f=f l:=by
 induction l with
 | nil=>intro f;rfl
 | cons v l ih=>intro f;simp[M22,E7,ih]
theorem Y5{β:Type}(v:Value)(f:Value->β):M0 v f=f v:=by
 cases v<;>simp[M0,E7,C20]
theorem V14(l:List α):∀(f:List α->β),spine l f=f l:=by
 induction l with
 | nil=>intro f;rfl
 | cons v l ih=>intro f;simp[spine,ih]
theorem Q8{α:Type}:∀(l:List α) (n:Nat),nth l n=l[n]?
 | [],n=>by cases n<;>rfl
 | a :: l,0=>rfl
 | a :: l,n+1=>by simp[nth,Q8 l n]
theorem Z12(l:List α):∀(n:Nat) (z:β) (k:α->β),C30 l n z k=(l[n]?).elim z k:=by
 induction l with
 | nil=>intro n z k;cases n<;>rfl
 | cons a l ih=>
  intro n z k
  cases n with
  | zero=>rfl
  | succ n=>show C30 l n z k=_;rw[ih];simp
theorem E14(b:Bool)(x y:β):ifK b x y=if b then x else y:=by cases b<;>rfl
structure J7 where
 blk:Nat
 base:Nat
 sz:Nat
 esz:Nat
 rsz:Nat
abbrev FM:=Nat->Option J7
def FM.le(F F':FM):Prop:=∀ i t,F i=some t->F' i=some t
abbrev C34:Value := .chan none
inductive VR (F:FM):Value->Value->Prop
 | any (v:Value):VR F C34 v
 | bool (b:Bool):VR F (.bool b) (.bool b)
 | int (k:IntKind) (n:Int):VR F (.int k n) (.int k n)
 | float (k:FloatKind) (n:Nat):VR F (.float k n) (.float k n)
 | complex (k:FloatKind) (n m:Nat):VR F (.complex k n m) (.complex k n m)
 | string (s:ByteArray):VR F (.string s) (.string s)
 | ptrN:VR F (.pointer none) (.pointer none)
 | ptr {b o:Nat} {t:J7} (h:F b=some t):VR F (.pointer (some ⟨b,o,none⟩)) (.pointer (some ⟨t.blk,t.base+o,none⟩))
 | sliceN (n c:Nat):VR F (.slice none n c) (.slice none n c)
 | slice {b o n c c':Nat} {t:J7} (h:F b=some t) (hc:c'=c\/(0<t.esz/\c<=c'/\o+c*t.esz=t.sz/\t.base+o+c'*t.esz<=t.rsz/\c'<=9223372036854775807)):
   VR F (.slice (some ⟨b,o,none⟩) n c) (.slice (some ⟨t.blk,t.base+o,none⟩) n c')
 | sliceW (s:Nat) (a:Addr):VR F (.slice (some ⟨0,0,some s⟩) 0 0) (.slice (some a) 0 0)
 | mapN:VR F (.map none) (.map none)
 | map {r:Nat} {t:J7} (h:F r=some t):VR F (.map (some r)) (.map (some t.blk))
 | func (fn:Fn) {x x' y y':Array Value} (h1:x.size=x'.size) (h2:∀(i:Nat) (v v':Value),x[i]? = some v->x'[i]? = some v'->VR F v v')
   (h3:y.size=y'.size) (h4:∀(i:Nat) (v v':Value),y[i]? = some v->y'[i]? = some v'->VR F v v'):VR F (.func fn x y) (.func fn x' y')
 | nilFunc:VR F .nilFunc .nilFunc
 | iface (t:TypeId) {v v':Value} (h:VR F v v'):VR F (.iface t v) (.iface t v')
 | nilIface:VR F .nilIface .nilIface
 | agg {x x':Array Value} (h1:x.size=x'.size) (h2:∀(i:Nat) (v v':Value),x[i]? = some v->x'[i]? = some v'->VR F v v'):VR F (.agg x) (.agg x')
 | tuple {x x':Array Value} (h1:x.size=x'.size) (h2:∀(i:Nat) (v v':Value),x[i]? = some v->x'[i]? = some v'->VR F v v'):VR F (.tuple x) (.tuple x')
theorem VR.mono{F F':FM}(hF:F.le F')(h:VR F v v'):VR F' v v':=by
 induction h with
 | any v=>exact .any v
 | bool b=>exact .bool b
 | int k n=>exact .int k n
 | float k n=>exact .float k n
 | complex k n m=>exact .complex k n m
 | string s=>exact .string s
 | ptrN=>exact .ptrN
 | ptr h=>exact .ptr (hF _ _ h)
 | sliceN n c=>exact .sliceN n c
 | slice h hc=>exact .slice (hF _ _ h) hc
 | sliceW s a=>exact .sliceW s a
 | mapN=>exact .mapN
 | map h=>exact .map (hF _ _ h)
 | func fn h1 _ h3 _ i2 i4=>exact .func fn h1 i2 h3 i4
 | nilFunc=>exact .nilFunc
 | iface t _ ih=>exact .iface t ih
 | nilIface=>exact .nilIface
 | agg h1 _ ih=>exact .agg h1 ih
 | tuple h1 _ ih=>exact .tuple h1 ih
inductive VL (F:FM):List Value->List Value->Prop
 | nil:VL F [] []
 | cons {v v':Value} {l l':List Value} (h:VR F v v') (t:VL F l l'):VL F (v :: l) (v' :: l')
theorem VL.length{F:FM}{l l':List Value}(h:VL F l l'):l.length=l'.length:=by
 induction h with
 | nil=>rfl
 | cons _ _ ih=>simp[ih]
theorem VL.get{F:FM}(h:VL F l l'):∀(i:Nat) (v v':Value),l[i]? = some v->l'[i]? = some v'->VR F v v':=by
 induction h with
 | nil=>intro i v v' h;simp at h
 | cons h _ ih=>
  intro i v v' h1 h2
  cases i with
  | zero=>simp at h1 h2;subst h1;subst h2;exact h
  | succ i=>exact ih i v v' (by simpa using h1) (by simpa using h2)
theorem VL.of{F:FM}:∀ {l l':List Value},l.length=l'.length->(∀(i:Nat) (v v':Value),l[i]? = some v->l'[i]? = some v'->VR F v v')->VL F l l'
 | [],[],_,_ => .nil
 | [],_ :: _,h,_=>by simp at h
 | _ :: _,[],h,_=>by simp at h
 | a :: l,a' :: l',h,g => .cons (g 0 a a' (by simp) (by simp)) (VL.of (by simpa using h) fun i v v' h1 h2=>g (i+1) v v' (by simpa using h1) (by simpa using h2))
theorem VL.some{F:FM}{l l':List Value}(h:VL F l l'){i:Nat}{v:Value}(hv:l[i]? = some v):∃ v',l'[i]? = some v'/\VR F v v':=by
 have hl:=h.length;have hi:i<l.length:=by
  rcases aW i l.length with g | g
  .exact g
  .simp[aT g] at hv
 exact⟨l'[i],by simp[<- hl,hi],h.get i v _ hv (by simp[<- hl,hi])⟩
theorem VL.append{F:FM}{m m':List Value}(h:VL F l l')(g:VL F m m'):VL F (l++m) (l'++m'):=by
 induction h with
 | nil=>exact g
 | cons h _ ih=>exact .cons h ih
theorem VL.take{F:FM}{l l':List Value}(h:VL F l l'):∀ n,VL F (l.take n) (l'.take n):=by
 induction h with
 | nil=>intro n;simp;exact .nil
 | cons h _ ih=>intro n;cases n with
  | zero=>exact .nil
  | succ n=>exact .cons h (ih n)
theorem VL.drop{F:FM}{l l':List Value}(h:VL F l l'):∀ n,VL F (l.drop n) (l'.drop n):=by
 induction h with
 | nil=>intro n;simp;exact .nil
 | cons h t ih=>intro n;cases n with
  | zero=>exact .cons h t
  | succ n=>exact ih n
theorem VL.mono{F F':FM}(hF:F.le F'){l l':List Value}(h:VL F l l'):VL F' l l':=by
 induction h with
 | nil=>exact .nil
 | cons h _ ih=>exact .cons (h.mono hF) ih
theorem VR.agg'{F:FM}(h:VL F l l'):VR F (.agg ⟨l⟩) (.agg ⟨l'⟩):=
 .agg (by simpa using h.length) (fun i v v' h1 h2=>h.get i v v' (by simpa using h1) (by simpa using h2))
theorem VR.tuple'{F:FM}(h:VL F l l'):VR F (.tuple ⟨l⟩) (.tuple ⟨l'⟩):=
 .tuple (by simpa using h.length) (fun i v v' h1 h2=>h.get i v v' (by simpa using h1) (by simpa using h2))
theorem VL.ofArr{F:FM}{x x':Array Value}(h1:x.size=x'.size)(h2:∀(i:Nat)(v v':Value),x[i]? = .some v->x'[i]? = .some v'->VR F v v'):VL F x.toList x'.toList:=
 VL.of (by simpa using h1) (fun i v v' a b=>h2 i v v' (by simpa using a) (by simpa using b))
theorem VR.cells{F:FM}{v v':Value}(h:VR F v v')(E:B22 v=true):VL F v.cells.toList v'.cells.toList:=by
 cases h with
 | any v=>cases E
 | agg h1 h2=>exact VL.ofArr h1 h2
 | bool b=>exact .cons (.bool b) .nil
 | int k n=>exact .cons (.int k n) .nil
 | float k n=>exact .cons (.float k n) .nil
 | complex k n m=>exact .cons (.complex k n m) .nil
 | string s=>exact .cons (.string s) .nil
 | ptrN=>exact .cons .ptrN .nil
 | ptr h=>exact .cons (.ptr h) .nil
 | sliceN n c=>exact .cons (.sliceN n c) .nil
 | slice h hc=>exact .cons (.slice h hc) .nil
 | sliceW s a=>exact .cons (.sliceW s a) .nil
 | mapN=>exact .cons .mapN .nil
 | map h=>exact .cons (.map h) .nil
 | func fn h1 h2 h3 h4=>exact .cons (.func fn h1 h2 h3 h4) .nil
 | nilFunc=>exact .cons .nilFunc .nil
 | iface t h=>exact .cons (.iface t h) .nil
 | nilIface=>exact .cons .nilIface .nil
 | tuple h1 h2=>exact .cons (.tuple h1 h2) .nil
theorem Z36(F:FM)(v:Value)(h:M4 v=true):VR F v v:=by
 cases v with
 | bool b=>exact .bool b
 | int k n=>exact .int k n
 | float k n=>exact .float k n
 | complex k n m=>exact .complex k n m
 | string s=>exact .string s
 | pointer a=>cases a with
  | none=>exact .ptrN
  | some a=>simp[M4] at h
 | slice a n c=>cases a with
  | none=>exact .sliceN n c
  | some a=>simp[M4] at h
 | map r=>cases r with
  | none=>exact .mapN
  | some r=>simp[M4] at h
 | nilFunc=>exact .nilFunc
 | nilIface=>exact .nilIface
 | _=>simp[M4] at h
theorem J10(F:FM):∀(l:List Value),l.all M4=true->VL F l l
 | [],_ => .nil
 | v :: l,h=>by
  simp only[List.all_cons,aG] at h;exact .cons (Z36 F v h.1) (J10 F l h.2)
theorem C6(F:FM)(v:Value)(h:X7 v=true):VR F v v:=by
 cases v with
 | agg cs=>exact VR.agg' (J10 F cs.toList h)
 | tuple cs=>exact VR.tuple' (J10 F cs.toList h)
 | _=>exact Z36 F _ h
theorem C11{F:FM}(hv:VR F v v')(h:M4 v=true):v'=v:=by
 cases hv<;>simp[M4] at h<;>rfl
theorem J19{F:FM}(hv:VL F l l')(h:l.all M4=true):l'=l:=by
 induction hv with
 | nil=>rfl
 | cons hv _ ih=>
  simp only[List.all_cons,aG] at h;rw[C11 hv h.1,ih h.2]
theorem R51{F:FM}(hv:VR F v v')(h:X7 v=true):v'=v:=by
 have E:=hv
 cases hv with
 | agg h1 h2=>
  have:=J19 (VL.ofArr h1 h2) h;simp only[Value.agg.injEq];exact fB.1 this
 | tuple h1 h2=>
  have:=J19 (VL.ofArr h1 h2) h;simp only[Value.tuple.injEq];exact fB.1 this
 | _=>exact C11 E h
theorem D47(h:X7 z=true):B22 z=true:=by
 cases z<;>first | rfl | (simp[X7,M4] at h;done)
theorem G28(h:Z0 z.cells.toList=true):B22 z=true:=by
 cases z<;>first | rfl | (simp[Value.cells,Z0] at h;done)
theorem X12(h:X7 z=true)(F:FM):VL F z.cells.toList z.cells.toList:=(C6 F z h).cells (D47 h)
def J0(H:Y0)(i:Nat):Option V3:=hgK H i none some
def hs(H:Y0)(i:Nat)(b:Option V3):Y0:=E6 H i b id
theorem V26(v:Option V3)(l r:Y0)(z:β)(k:V3->β):hgK (.node v l r) 0 z k=v.elim z k:=by cases v<;>rfl
theorem Q30(v:Option V3)(l r:Y0)(j:Nat)(z:β)(k:V3->β):hgK (.node v l r) (j+1) z k=if j%2=0 then hgK l (j/2) z k else hgK r (j/2) z k:=by
 show @fC (fun _=>β) (hgK l (j/2) z k) (fun _ _=>hgK r (j/2) z k) (j%2)=_;rcases dZ j with h | h<;>rw[h]<;>rfl
theorem W70(H:Y0):∀(i:Nat) (z:β) (k:V3->β),hgK H i z k=(J0 H i).elim z k:=by
 induction H with
 | leaf=>intros;rfl
 | node v l r E J=>
  intro i z k;unfold J0
  cases i with
  | zero=>rw[V26,V26];cases v<;>rfl
  | succ j=>
   rw[Q30,Q30]
   split
   .exact E _ _ _
   .exact J _ _ _
theorem Y4(H:Y0)(i:Nat)(z:β)(k:V3->β):D12 H i z k=(J0 H i).elim z k:=W70 H i z k
theorem C40(i:Nat):J0 .leaf i=none:=rfl
theorem C17(v:Option V3)(l r:Y0):J0 (.node v l r) 0=v:=by unfold J0;rw[V26];cases v<;>rfl
theorem Y21(v:Option V3)(l r:Y0)(j:Nat):J0 (.node v l r) (j+1)=if j%2=0 then J0 l (j/2) else J0 r (j/2):=by
 unfold J0;rw[Q30]
def Y0.val:Y0->Option V3
 | .leaf=>none
 | .node v _ _=>v
def Y0.left:Y0->Y0
 | .leaf => .leaf
 | .node _ l _=>l
def Y0.right:Y0->Y0
 | .leaf => .leaf
 | .node _ _ r=>r
theorem B39(H:Y0):J0 H 0=H.val:=by
 cases H with
 | leaf=>rfl
 | node v l r=>exact C17 v l r
theorem V27(H:Y0)(j:Nat):J0 H (j+1)=if j%2=0 then J0 H.left (j/2) else J0 H.right (j/2):=by
 cases H with
 | leaf=>simp only[C40,Y0.left,Y0.right,ite_self]
 | node v l r=>exact Y21 v l r j
theorem C31(f:Nat)(H:Y0)(b:Option V3)(k:Y0->β):hsF (f+1) H 0 b k=k (.node b H.left H.right):=by
 cases H<;>rfl
theorem D31(f:Nat)(H:Y0)(j:Nat)(b:Option V3)(k:Y0->β):
  hsF (f+1) H (j+1) b k=if j%2=0 then hsF f H.left (j/2) b fun l=>k (.node H.val l H.right) else hsF f H.right (j/2) b fun r=>k (.node H.val H.left r):=by
 cases H with
 | leaf=>
  show @fC (fun _=>β) (hsF f .leaf (j/2) b fun l=>k (.node none l .leaf)) (fun _ _=>hsF f .leaf (j/2) b fun r=>k (.node none .leaf r)) (j%2)=_;rcases dZ j with h | h<;>rw[h]<;>rfl
 | node v l r=>
  show @fC (fun _=>β) (hsF f l (j/2) b fun l=>k (.node v l r)) (fun _ _=>hsF f r (j/2) b fun r=>k (.node v l r)) (j%2)=_;rcases dZ j with h | h<;>rw[h]<;>rfl
theorem J47(f:Nat):∀ {β:Type} (H:Y0) (i:Nat) (b:Option V3) (k:Y0->β),hsF f H i b k=k (hsF f H i b id):=by
 induction f with
 | zero=>intros;rfl
 | succ f ih=>
  intro β H i b k
  cases i with
  | zero=>rw[C31,C31];rfl
  | succ j=>
   rw[D31,D31]
   split
   .rw[ih,ih (k:=fun l=>id (Y0.node H.val l H.right))];rfl
   .rw[ih,ih (k:=fun r=>id (Y0.node H.val H.left r))];rfl
theorem G4{β:Type}(H:Y0)(i:Nat)(b:Option V3)(k:Y0->β):E6 H i b k=k (hs H i b):=J47 _ H i b k
theorem E59{j f:Nat}(h:bG (j+1+1)+1<=f+1):bG (j/2+1)+1<=f:=by
 have e:bG (j+2)=bG ((j+2)/2)+1:=by
  rw[Nat.log2_def,if_pos (by omega)]
 have e2:(j+2)/2=j/2+1:=by omega
 rw[e2] at e;have:bG (j+1+1)=bG (j+2):=rfl;omega
theorem X64(f:Nat):∀(H:Y0) (i j:Nat) (b:Option V3),bG (i+1)+1<=f->J0 (hsF f H i b id) j=if j=i then b else J0 H j:=by
 induction f with
 | zero=>intro H i j b h;omega
 | succ f ih=>
  intro H i j b h
  cases i with
  | zero=>
   rw[C31]
   cases j with
   | zero=>rw[if_pos rfl];exact C17 _ _ _
   | succ j=>rw[if_neg (by omega)];show J0 (.node b H.left H.right) (j+1)=_;rw[Y21,V27]
  | succ i=>
   have hf:=E59 h;rw[D31]
   split
   .rename_i hp
    rw[J47];show J0 (.node H.val (hsF f H.left (i/2) b id) H.right) j=_
    cases j with
    | zero=>rw[if_neg (by omega),C17,B39]
    | succ j=>
     rw[Y21,V27]
     by_cases hq:j%2=0
     .rw[if_pos hq,if_pos hq,ih _ _ _ _ hf]
      by_cases e:j=i
      .subst e;simp
      .rw[if_neg (by omega),if_neg (by omega)]
     .rw[if_neg hq,if_neg hq,if_neg (by omega)]
   .rename_i hp
    rw[J47];show J0 (.node H.val H.left (hsF f H.right (i/2) b id)) j=_
    cases j with
    | zero=>rw[if_neg (by omega),C17,B39]
    | succ j=>
     rw[Y21,V27]
     by_cases hq:j%2=0
     .rw[if_pos hq,if_pos hq,if_neg (by omega)]
     .rw[if_neg hq,if_neg hq,ih _ _ _ _ hf]
      by_cases e:j=i
      .subst e;simp
      .rw[if_neg (by omega),if_neg (by omega)]
theorem N7(H:Y0)(i j:Nat)(b:Option V3):J0 (hs H i b) j=if j=i then b else J0 H j:=X64 _ H i j b (aD _)
inductive EL (F:FM):List MapEntry->List MapEntry->Prop
 | nil:EL F [] []
 | cons {k v v':Value} {b:Nat} {l l':List MapEntry} (hk:M4 k=true) (h:VR F v v') (t:EL F l l'):EL F (⟨k,v,b⟩ :: l) (⟨k,v',b⟩ :: l')
def BR(F:FM)(t:J7)(b:V3)(w:World):Prop:=
 match b with
 | .cells c sl=>∃ c' e,w.heap[t.blk]? = some (.cells c' e (0,0))/\c'.size=t.rsz/\t.sz=c.length/\t.esz=sl/\t.base+c.length<=t.rsz/\VL F c ((c'.toList.drop t.base).take c.length)
 | .map es clock=>t.base=0/\∃ es',w.heap[t.blk]? = some (.map es' clock)/\EL F es es'.toList
 | .rom c=>∃ c' e m,w.heap[t.blk]? = some (.cells c' e m)/\c'.size=t.rsz/\t.sz=c.length/\t.esz=0/\t.base+c.length<=t.rsz/\VL F c ((c'.toList.drop t.base).take c.length)
def Own(F:FM)(H:Y0)(nx:Nat)(b:Nat):Prop:=∃ i k t,i<nx/\J0 H i=some k/\k.isRom=false/\F i=some t/\t.blk=b
def GlW(w:World):Prop:=∀ x ∈ Q42,x.1<w.heap.size/\∀(i:Nat) (v:Value),x.2[i]? = some v->w.cell? ⟨x.1,i,none⟩=some v
def Gl(F:FM)(H:Y0)(nx:Nat)(w:World):Prop:=GlW w/\∀ x ∈ Q42,¬ Own F H nx x.1
theorem GlW.step(h:GlW w)(hw:∀ x ∈ Q42,w'.heap[x.1]? = w.heap[x.1]?):GlW w':=fun x hx=>by
 obtain⟨h1,h2⟩:=h x hx;have e:=hw x hx;refine⟨?_,fun i v hv => ?_⟩
 .rcases aW x.1 w'.heap.size with g | g
  .exact g
  .rw[fK g,Array.getElem?_eq_getElem h1] at e;cases e
 .have:=h2 i v hv
  unfold World.cell? at this ⊢;rw[e];exact this
theorem Gl.step{F:FM}{H:Y0}{nx:Nat}{w:World}{F':FM}{H':Y0}{nx':Nat}{w':World}(h:Gl F H nx w)(E:∀ b,b<w.heap.size->¬ Own F H nx b->w'.heap[b]? = w.heap[b]?)
  (J:∀ b,Own F' H' nx' b->Own F H nx b\/w.heap.size<=b):Gl F' H' nx' w':=
 ⟨h.1.step fun x hx=>E _ (h.1 x hx).1 (h.2 x hx),fun x hx ho=>(J _ ho).elim (h.2 x hx) (fun h'=>by have:=(h.1 x hx).1;omega)⟩
structure HR (F:FM) (H:Y0) (nx:Nat) (w:World):Prop where
 blk:∀ i b,i<nx->J0 H i=some b->∃ t,F i=some t/\BR F t b w
 inj:∀ i j bi bj ti tj,i<nx->j<nx->J0 H i=some bi->J0 H j=some bj->F i=some ti->F j=some tj->ti.blk=tj.blk->i=j\/(bi.isRom=true/\bj.isRom=true)
 fresh:∀ i,nx<=i->F i=none
 top:∀ i,nx<=i->J0 H i=none
 gl:Gl F H nx w
def Y53(F:FM)(H:Y0)(nx:Nat)(b:Nat):Prop:=∃ i k t,i<nx/\J0 H i=some k/\F i=some t/\t.blk=b
structure N2 (F:FM) (H:Y0) (nx:Nat) (w:World) (F':FM) (H':Y0) (nx':Nat) (w':World):Prop where
 le:nx<=nx'
 ext:∀ i,i<nx->F' i=F i
 os:w'.os=w.os
 tape:w'.tape=w.tape
 output:w'.output=w.output
 size:w.heap.size<=w'.heap.size
 frame:∀ b,b<w.heap.size->¬ Own F H nx b->w'.heap[b]? = w.heap[b]?
 own:∀ b,Own F' H' nx' b->Own F H nx b\/w.heap.size<=b
 keep:∀ i,i<nx->J0 H i=none->J0 H' i=none
 rom:∀ i b,J0 H' i=some b->b.isRom=true->i<nx/\J0 H i=some b
 hr:HR F' H' nx' w'
theorem BR.lt{F:FM}{t:J7}(h:BR F t b w):t.blk<w.heap.size:=by
 cases b with
 | cells c sl=>
  obtain⟨c',e,h,_⟩:=h;rcases aW t.blk w.heap.size with g | g
  .exact g
  .simp[fK g] at h
 | map es k=>
  obtain⟨_,es',h,_⟩:=h;rcases aW t.blk w.heap.size with g | g
  .exact g
  .simp[fK g] at h
 | rom c=>
  obtain⟨c',e,m,h,_⟩:=h;rcases aW t.blk w.heap.size with g | g
  .exact g
  .simp[fK g] at h
theorem EL.mono{F F':FM}(hF:F.le F'){l l':List MapEntry}(h:EL F l l'):EL F' l l':=by
 induction h with
 | nil=>exact .nil
 | cons hk h _ ih=>exact .cons hk (h.mono hF) ih
theorem BR.mono{F F':FM}(hF:F.le F'){t:J7}{b:V3}{w w':World}(h:BR F t b w)(hw:w'.heap[t.blk]? = w.heap[t.blk]?):BR F' t b w':=by
 cases b with
 | cells c sl=>
  obtain⟨c',e,h1,h2,h3,h4,h5,h6⟩:=h;exact⟨c',e,hw.trans h1,h2,h3,h4,h5,h6.mono hF⟩
 | map es k=>
  obtain⟨h0,es',h1,h2⟩:=h;exact⟨h0,es',hw.trans h1,h2.mono hF⟩
 | rom c=>
  obtain⟨c',e,m,h1,h2,h3,h4,h5,h6⟩:=h;exact⟨c',e,m,hw.trans h1,h2,h3,h4,h5,h6.mono hF⟩
theorem HR.low{F:FM}(h:HR F H nx w){i:Nat}(hg:J0 H i=some b):i<nx:=by
 rcases aW i nx with g | g
 .exact g
 .rw[h.top i g] at hg;cases hg
theorem N2.refl{F:FM}(h:HR F H nx w):N2 F H nx w F H nx w:=
 ⟨aD _,fun _ _=>rfl,rfl,rfl,rfl,aD _,fun _ _ _=>rfl,fun _ h => .inl h,fun _ _ h=>h,fun _ _ hg _=>⟨h.low hg,hg⟩,h⟩
theorem N2.fle{F:FM}{F':FM}{H':Y0}{nx':Nat}(h:N2 F H nx w F' H' nx' w')(hr:HR F H nx w):F.le F':=by
 intro i t hi;rcases aW i nx with g | g
 .rw[h.ext i g];exact hi
 .rw[hr.fresh i g] at hi;cases hi
theorem N2.trans{F:FM}{H:Y0}{nx:Nat}{w:World}{F1:FM}{H1:Y0}{E:Nat}{w1:World}{F2:FM}{H2:Y0}{nx2:Nat}{w2:World}
  (h:N2 F H nx w F1 H1 E w1)(g:N2 F1 H1 E w1 F2 H2 nx2 w2):N2 F H nx w F2 H2 nx2 w2 where
 le:=bK h.le g.le
 ext i hi:=(g.ext i (aO hi h.le)).trans (h.ext i hi)
 os:=g.os.trans h.os
 tape:=g.tape.trans h.tape
 output:=g.output.trans h.output
 size:=bK h.size g.size
 frame b hb hn:=(g.frame b (aO hb h.size) (fun ho=>(h.own b ho).elim hn (fun hx=>by omega))).trans (h.frame b hb hn)
 own b ho:=by
  rcases g.own b ho with h1 | h1
  .exact h.own b h1
  .exact .inr (bK h.size h1)
 keep i hi hn:=g.keep i (aO hi h.le) (h.keep i hi hn)
 rom i b hg hb:=let ⟨_,h1⟩:=g.rom i b hg hb;h.rom i b h1 hb
 hr:=g.hr
theorem HR.drew{F:FM}{nx:Nat}(h:HR F H nx w)(n:Nat):HR F H nx { w with drawn:=n }:=
 ⟨fun i b hi hb=>let ⟨t,ht,hr⟩:=h.blk i b hi hb;⟨t,ht,hr.mono (fun _ _ h=>h) rfl⟩,h.inj,h.fresh,h.top,h.gl.step (fun _ _ _=>rfl) (fun _ h => .inl h)⟩
theorem N2.drew{F:FM}{H:Y0}{nx:Nat}{w:World}(h:HR F H nx w)(n:Nat):N2 F H nx w F H nx { w with drawn:=n }:=
 ⟨aD _,fun _ _=>rfl,rfl,rfl,rfl,aD _,fun _ _ _=>rfl,fun _ h => .inl h,fun _ _ h=>h,fun _ _ hg _=>⟨h.low hg,hg⟩,h.drew n⟩
theorem HR.reserve{F:FM}(h:HR F H nx w){nx2:Nat}(h1:nx<=nx2):HR F H nx2 w:=by
 have low:∀ i b,i<nx2->J0 H i=some b->i<nx:=by
  intro i b hi hg;rcases aW i nx with g | g
  .exact g
  .rw[h.top i g] at hg;cases hg
 exact⟨fun i b hi hg=>h.blk i b (low i b hi hg) hg,fun i j bi bj ti tj hi hj gi gj=>h.inj i j bi bj ti tj (low i bi hi gi) (low j bj hj gj) gi gj,fun i hi=>h.fresh i (by omega),fun i hi=>h.top i (by omega),h.gl.step (fun _ _ _=>rfl) (fun b ⟨i,k,t,hi,hg,E,hF,e⟩ => .inl ⟨i,k,t,low i k hi hg,hg,E,hF,e⟩)⟩
end
section
variable {F:FM} {P:Program} {T:K0 Value} {X1 y:X} {a:Act} {d n:Nat} {i:TypeInfo} {k:IntKind} {op:BinOp} {t:TypeId} {v:Value} {x:Operand} {β:Type}
def ev(T:K0 Value)(x:X):Value:=W4 T x id
theorem G2(T:K0 Value)(x:X)(k:Value->β):W4 T x k=k (ev T x):=by
 cases x with
 | s t=>
  show tgK T t (k undef) k=k (tgK T t (id undef) id);rw[J11,J11];cases tg T t<;>rfl
 | c v=>rfl
theorem C22(T:K0 Value)(l:List X):∀(k:List Value->β),U17 T l k=k (l.map (ev T)):=by
 induction l with
 | nil=>intro k;rfl
 | cons x l ih=>
  intro k;show W4 T x (fun v=>U17 T l fun vs=>k (v :: vs))=_;rw[G2,ih];rfl
theorem C15(T:K0 Value)(x:Option X)(k:Option Value->β):R24 T x k=k (x.map (ev T)):=by
 cases x<;>simp[R24,G2]
theorem J45(T:K0 Value)(l:List (Nat × X)):∀(k:List (Nat × Value)->β),E34 T l k=k (l.map fun p=>(p.1,ev T p.2)):=by
 induction l with
 | nil=>intro k;rfl
 | cons x l ih=>intro k;obtain⟨i,x⟩:=x;simp[E34,G2,ih]
structure TR (d:Nat) (F:FM) (T:K0 Value) (n:Nat) (tmps:Array Value):Prop where
 wf:WF d T
 size:tmps.size=n
 le:n<=2^d
 get:∀ t,t<n->VR F ((tg T t).getD undef) (tmps.getD t undef)
theorem TR.mono{d:Nat}{F F':FM}(hF:F.le F'){T:K0 Value}{n:Nat}{tmps:Array Value}(h:TR d F T n tmps):TR d F' T n tmps:=
 ⟨h.wf,h.size,h.le,fun t ht=>(h.get t ht).mono hF⟩
theorem E53(T:K0 Value)(t:Nat):ev T (.s t)=(tg T t).getD undef:=by
 show tgK T t undef id=_;rw[J11];cases tg T t<;>rfl
theorem TR.evX(ht:TR d F T n a.tmps)(h:W13 n x=some y):VR F (ev T y) (a.eval x):=by
 cases x with
 | tmp t=>
  simp only[W13] at h
  cases hb:dE t n with
  | false=>simp[hb] at h
  | true=>
   simp[hb] at h;subst h;rw[E53];exact ht.get t (by simpa using hb)
 | const v=>
  simp only[W13] at h
  cases hb:X7 v with
  | false=>simp[hb] at h
  | true=>simp[hb] at h;subst h;exact C6 F v hb
 | global g=>simp[W13] at h
 | func f=>
  simp[W13] at h;subst h;exact .func _ rfl (by simp) rfl (by simp)
def OR(n:Nat)(o:Oper)(F:FM)(T:K0 Value)(a:Act):Prop:=∀ x ∈ o.op.operands,∀ y,W13 n x=some y->VR F (ev T y) (a.eval x)
theorem TR.or(ht:TR d F T n a.tmps)(o:Oper):OR n o F T a:=fun _ _ _ h=>ht.evX h
theorem evX{o:Oper}(ht:OR n o F T a)(h:W13 n x=some y)(hm:x ∈ o.op.operands:=by rw[(‹o.op=_› : o.op=_)];simp[Op.operands]):VR F (ev T y) (a.eval x):=ht x hm y h
theorem M61(h:W13 n x=some y):D42 T x=ev T y:=by
 cases x with
 | tmp t=>
  simp only[W13] at h
  cases hb:dE t n with
  | false=>simp[hb] at h
  | true=>simp[hb] at h;subst h;rfl
 | const v=>
  simp only[W13] at h
  cases hb:X7 v with
  | false=>simp[hb] at h
  | true=>simp[hb] at h;subst h;rfl
 | global g=>simp[W13] at h
 | func f=>simp[W13] at h;subst h;rfl
theorem D54{α:Type}{s:Sem α}{r:α}(h:E30 P s=some r)(w:World):s.run P w = .ok r w:=by
 induction s with
 | pure a=>simp[E30] at h;subst h;rfl
 | program k ih=>exact ih P h
 | mark m k ih=>exact ih h
 | _=>simp[E30] at h
def PV(P:Program)(d n:Nat)(o:Oper)(T:K0 Value)(v:Value):Prop:=
 ∀(F:FM) (a:Act) (w:World),OR n o F T a->∃ v',(execOp a.eval o).run P w = .ok (.value v') w/\VR F v v'
theorem Z30{o:Oper}{T:K0 Value}{xs:List X}(J:∀ cs b,o.op ≠ .select cs b)
  (O:∀ x ∈ o.op.operands,∃ y ∈ xs,W13 n x=some y)(z:β)(k:Value->β):
  K20 P T xs o z k=z\/∃ v,K20 P T xs o z k=k v/\PV P d n o T v:=by
 unfold K20;rw[C22]
 cases E:(xs.map (ev T)).all X7 with
 | false=>exact .inl rfl
 | true=>
  cases hp:E30 P (execOp (D42 T) o) with
  | none=>exact .inl rfl
  | some r=>
   cases r with
   | value v=>
    dsimp only[cond_true];rw[Y5]
    cases hf:X7 v with
    | false=>exact .inl rfl
    | true=>
     refine .inr ⟨v,rfl,?_⟩;intro F a w ht;have he:execOp a.eval o=execOp (D42 T) o:=execOp_congr o J (fun x hx=>by
      obtain⟨y,hy,hc⟩:=O x hx;rw[M61 hc];refine R51 (evX ht hc hx) ?_;rw[bW] at E;exact E _ (gN.2 ⟨y,hy,rfl⟩))
     rw[he];exact⟨v,D54 hp w,C6 F v hf⟩
   | _=>exact .inl rfl
theorem J33{a b:IntKind}(h:eqK a b=true):a=b:=by cases a<;>cases b<;>first | rfl | simp[eqK] at h
theorem Q67(a b:Int):N52 a b=a+b:=by cases a<;>cases b<;>simp[N52]<;>rfl
theorem J66(a b:Int):X54 a b=a-b:=by
 cases a<;>cases b<;>simp only[X54]
 rename_i a b
 cases h:dD b a with
 | true=>
  have:=Nat.le_of_ble_eq_true h;simp only[cond_true];show((Nat.sub a b:Nat):Int)=(a:Int)-(b:Int)
  have e:Nat.sub a b=a-b:=rfl;rw[e];omega
 | false=>
  have:¬ b<=a:=fun hh=>by rw[Nat.ble_eq_true_of_le hh] at h;cases h
  simp only[cond_false,Int.negSucc_eq];have e:Nat.sub (Nat.sub b a) 1=b-a-1:=rfl;rw[e];show _=(a:Int)-(b:Int)
  omega
theorem D60(a b:Int):ltI a b=decide (a<b):=by
 cases a<;>cases b<;>simp only[ltI]
 .rename_i a b
  rw[eX];simp[Nat.blt_eq]
 .simp;omega
 .simp;omega
 .rename_i a b
  rw[eX];simp[Nat.blt_eq];omega
theorem Y57(a b:Int):leI a b=decide (a<=b):=by
 cases a<;>cases b<;>simp only[leI]
 .rename_i a b
  rw[eX];simp
 .simp;omega
 .simp;omega
 .rename_i a b
  rw[eX];simp;omega
theorem Q26(a b:Int):eqI a b=(a==b):=by
 cases a<;>cases b<;>simp only[eqI]
 .rename_i a b
  rw[eX];simp;omega
 .symm;simp
 .symm;simp
 .rename_i a b
  rw[eX];simp
theorem Z21{r:Int}(h:Q14 k r=true):k.wrap r=r:=by
 cases r with
 | ofNat m=>
  cases k<;>simp[Q14,Nat.blt_eq] at h<;>simp[eY,dW,eK]<;>omega
 | negSucc m=>
  cases k<;>simp[Q14,Nat.blt_eq] at h
  exact IntWalk.i64_in _ (by omega)
theorem VR.int_inv{n:Int}(h:VR F (.int k n) v):v = .int k n:=by cases h;rfl
theorem VR.bool_inv{b:Bool}(h:VR F (.bool b) v):v = .bool b:=by cases h;rfl
theorem K8(h:P.info? t=some i)(w:World):(typeInfo t).run P w = .ok i w:=by
 simp[typeInfo,program,Sem.run,h]
theorem E3(h:P.info? t=some i)(w:World):(sizeOf t).run P w = .ok i.size w:=by
 simp[sizeOf,K8 h]
section
variable {β:Type} {P:Program} {d n:Nat} {o:Oper} {T:K0 Value}
theorem C43(ho:o.op = .move x\/o.op = .assign x)(h:W13 n x=some y)(z:β)(k:Value->β):
  X4 P (.mv y) T z k=z\/∃ v,X4 P (.mv y) T z k=k v/\PV P d n o T v:=by
 refine .inr ⟨ev T y,G2 T y k,fun F a w ht=>⟨a.eval x,?_,evX ht h (by rcases ho with ho | ho<;>simp[ho,eI])⟩⟩;rcases ho with ho | ho<;>simp[execOp,ho]
theorem U55{c a b:Operand}{yc ya yb:X}(ho:o.op = .pick c a b)(hc:W13 n c=some yc)(ha:W13 n a=some ya)(hb:W13 n b=some yb)(z:β)(k:Value->β):
  X4 P (.pick yc ya yb) T z k=z\/∃ v,X4 P (.pick yc ya yb) T z k=k v/\PV P d n o T v:=by
 show V42 yc ya yb T z k=z\/∃ v,V42 yc ya yb T z k=k v/\_;unfold V42;rw[G2]
 cases hv:ev T yc with
 | bool t=>
  dsimp only;rw[E14,G2,G2];refine .inr ⟨if t then ev T ya else ev T yb,by cases t<;>rfl,fun F E w ht => ?_⟩;have h1:=evX ht hc;rw[hv] at h1;have h1:=h1.bool_inv;refine⟨if t then E.eval a else E.eval b,?_,?_⟩
  .simp[execOp,ho,h1,asBool]
  .cases t
   .exact evX ht hb
   .exact evX ht ha
 | _=>exact .inl rfl
theorem J8(r:Option Value)(z:β)(f:Value->β):X22 r z f=r.elim z f:=by
 cases r with
 | none=>rfl
 | some v=>exact E7 v f
theorem D61(op:BinOp)(k:IntKind)(a b:Int)(z:β)(f:Value->β):C55 op k a b z f=(G7 op k a b).elim z f:=by
 unfold C55
 split<;>(try rw[J21])<;>(try rw[B21])
 .cases hf:Q14 k (N52 a b) with
  | false=>simp only[cond_false];exact J8 _ z f
  | true=>have:=Z21 hf;rw[Q67] at this ⊢;simp[G7,this]
 .cases hf:Q14 k (X54 a b) with
  | false=>simp only[cond_false];exact J8 _ z f
  | true=>have:=Z21 hf;rw[J66] at this ⊢;simp[G7,this]
 .simp[G7,D60]
 .simp[G7,Y57]
 .simp[G7,D60]
 .simp[G7,Y57]
 .simp[G7,Q26]
 .simp[G7,Q26,bne]
 .exact J8 _ z f
theorem V47(op:BinOp)(x y:Value)(z:β)(f:Value->β):J42 op x y z f=(R9 op x y).elim z f:=by
 unfold J42 R9
 split
 .cases N4 op with
  | true=>exact J8 _ z f
  | false=>
   simp only[cond_false];rename_i k a k' b
   cases eqK k k' with
   | false=>rfl
   | true=>exact D61 op _ _ _ z f
 .exact J8 _ z f
 .rfl
theorem E58{x y:Value}(h:R9 op x y=some v):M4 x=true/\M4 y=true/\X7 v=true:=by
 unfold R9 at h
 split at h
 .refine⟨rfl,rfl,?_⟩
  cases hs:N4 op with
  | true=>
   rw[hs] at h;simp only[cond_true] at h;unfold C18 at h
   split at h
   .cases h
   .split at h<;>cases h<;>rfl
  | false=>
   rw[hs] at h;simp only[cond_false] at h;rename_i k a k' b
   cases hk:eqK k k' with
   | false=>rw[hk] at h;cases h
   | true=>
    rw[hk] at h;simp only[cond_true] at h;unfold G7 at h
    split at h<;>first | (cases h;rfl) | (split at h<;>first | (cases h;done) | (cases h;rfl)) | cases h
 .refine⟨rfl,rfl,?_⟩
  unfold K53 at h
  split at h<;>first | (cases h;rfl) | (split at h<;>first | (cases h;done) | (cases h;rfl)) | cases h
 .cases h
theorem G64 {op : BinOp} {x y : Value} (h : R9 op x y = some v) (t : TypeId) (xo yo : Operand) (w : World) :
    (do eqGuard op t xo yo x y; binOp op t x y : Sem Value).run P w = .ok v w := by
  unfold R9 at h
  split at h
  · rename_i k a k' b
    have hg : ∀ w, (eqGuard op t xo yo (.int k a) (.int k' b)).run P w = .ok () w := by
      intro w; cases op <;> simp [eqGuard]
    simp only [Sem.run_bind, hg, Result.andThen_ok]
    cases hs : N4 op with
    | true =>
      rw [hs] at h; simp only [cond_true] at h
      unfold C18 at h
      split at h
      · cases h
      · rename_i hb
        cases op <;> simp [N4] at hs <;> cases h <;> simp [binOp, Op.shift, hb]
    | false =>
      rw [hs] at h; simp only [cond_false] at h
      cases hk : eqK k k' with
      | false => rw [hk] at h; cases h
      | true =>
        rw [hk] at h; simp only [cond_true] at h
        have hk := J33 hk
        subst hk
        cases op <;> simp [N4] at hs <;> simp only [G7] at h <;> first
          | (cases h; simp [binOp, Op.intArith]; done)
          | (cases h; simp [binOp, Op.intBits]; done)
          | (cases h; simp [binOp, Op.intCmp]; done)
          | (split at h
             · cases h
             · rename_i hz; cases h; simp [binOp, Op.intDiv, hz])
          | cases h
  · rename_i a b
    have hg : ∀ w, (eqGuard op t xo yo (.string a) (.string b)).run P w = .ok () w := by
      intro w; cases op <;> simp [eqGuard]
    simp only [Sem.run_bind, hg, Result.andThen_ok]
    cases op <;> simp only [K53] at h <;> first
      | (cases h; simp [binOp, Op.stringOp]; done)
      | (split at h
         · cases h
         · rename_i hz; cases h; simp only [binOp, Op.stringOp, if_neg hz]; rfl)
      | cases h
  · cases h
theorem J26{yt:TypeId}{y:Operand}{Y1:X}(ho:o.op = .binOp op t x y yt)(hx:W13 n x=some X1)(hy:W13 n y=some Y1)(z:β)(k:Value->β):
  X4 P (.bin op X1 Y1) T z k=z\/∃ v,X4 P (.bin op X1 Y1) T z k=k v/\PV P d n o T v:=by
 show V52 op X1 Y1 T z k=z\/∃ v,V52 op X1 Y1 T z k=k v/\_;unfold V52;rw[G2,G2,V47]
 cases hv:R9 op (ev T X1) (ev T Y1) with
 | none=>exact .inl rfl
 | some v=>
  refine .inr ⟨v,rfl,fun F E w ht => ?_⟩;obtain⟨f1,f2,f3⟩:=E58 hv;have h1:=C11 (evX ht hx) f1;have h2:=C11 (evX ht hy) f2;refine⟨v,?_,C6 F v f3⟩;have hr:=G64 (P:=P) hv t x y w;simp only[execOp,ho,h1,h2,aS] at hr ⊢;rw[hr];rfl
theorem W64{op:UnOp}{x:Value}(h:unV op x=some v):M4 x=true/\X7 v=true:=by
 unfold unV at h
 split at h<;>first | (cases h;exact⟨rfl,rfl⟩) | cases h
theorem C63{op:UnOp}(ho:o.op = .unOp op t x)(hx:W13 n x=some X1)(z:β)(k:Value->β):
  X4 P (.un op X1) T z k=z\/∃ v,X4 P (.un op X1) T z k=k v/\PV P d n o T v:=by
 show unK op X1 T z k=z\/∃ v,unK op X1 T z k=k v/\_;unfold unK;rw[G2,J8]
 cases hv:unV op (ev T X1) with
 | none=>exact .inl rfl
 | some v=>
  refine .inr ⟨v,rfl,fun F E w ht => ?_⟩;obtain⟨f1,f3⟩:=W64 hv;have h1:=C11 (evX ht hx) f1;refine⟨v,?_,C6 F v f3⟩;unfold unV at hv
  split at hv
  .rename_i e;cases hv;simp[execOp,ho,h1,e,Op.unary,Op.intArith]
  .rename_i e;cases hv;simp[execOp,ho,h1,e,Op.unary,Op.intBits]
  .rename_i e;cases hv;simp[execOp,ho,h1,e,Op.unary]
  .cases hv
end
end
end Go.Clo
