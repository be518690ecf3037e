/-
  Words that find their own proofs.
  What the listed package variables of this seat hold: strconv's powers of ten (variable 0).
  A closed executor: an interpreter over the model's code with a heap of its own names. This text: its definitions.
  The closed executor: how its heap of names stands to the model's world;basic lemmas.
  The closed executor: the operations that only compute stand to the model's.
  The closed executor: the rest of the operations that only compute.
  The closed executor: the operations that only compute,all of them.
  The closed executor: slicing;the operations that only compute,joined;the operations that read.
  The closed executor: the operations that read.
  The closed executor: the operations that read,joined;the operations that make a block.
  The closed executor: the operations that make a block.
  The closed executor: steps of the heap.
  The closed executor: the operations with an effect.
  The closed executor: append and copy;the operations with an effect,joined.
  The closed executor: append,copy,and all operations with an effect.
  The closed executor: all operations with an effect.
  The closed executor: operations with an effect,joined;a region in its order.
  The closed executor: one operation;a region in its order.
  The closed executor: the order that a region's edges leave open.
  The closed executor: heaps with blocks beside.
  The closed executor: a region's run in the order of the text,as a record.
  The closed executor: a region's operations in whatever order: the state.
  The closed executor: a region's operations in whatever order: one operation.
-/
import Derived.Below
import Derived.Lib.ItoaNum
import Derived.Calls
import Derived.Orders
import Derived.LoopN
import Derived.Scope
import Derived.KernelRfl
import Derived.Laws.CopyRow
import Derived.ChangeKeysEq
import Derived.IntWalk
import Derived.Laws.StructEq
import Derived.Laws.BytesArg
set_option maxHeartbeats 8000000
set_option maxRecDepth 100000
set_option linter.all false
noncomputable section
open Array renaming getElem?_eq_none->fK,getElem?_map->fT,getElem?_toList->cL,mem_def->fQ,range->gG,toList_inj->fB
open BitVec renaming ofInt->cT
open Bool renaming and_eq_true->aG,eq_iff_iff->eX,false_eq_true->dQ,not_eq_true'->cJ,or_eq_true->cO
open Go.Builtin renaming append_->gE,clear_->fX,firstCells->eC,lenOf->gH,len_->gI,zeroCells->fV
open Go.Call renaming operands->fL
open Go.Instr renaming findNow->dP,sliceBounds->fP
open Go.IntKind renaming bits->dW,signed->eK,wrap->eY
open Go.Op renaming equalIn->fW,operands->eI
open Go.Region renaming binds->fH,wanted->fE
open Go.Result renaming andThen_ok->aM
open Go.Sem renaming run_bind->aS,run_pure->bD
open Go.Value renaming int->cD
open Go.World renaming cell?->cB
open Int renaming toNat_natCast->gR
open List renaming all_eq_true->iE,append_nil->gV,cons_append->dL,drop_zero->bW,ext_getElem?->dH,foldl_cons->dF,getElem?_drop->dB,getElem?_eq_none->aT,getElem?_map->cP,getElem?_set->cQ,getElem?_take->aX,length_append->bH,length_cons->cV,length_take->cK,map_cons->aC,mem_append->dN,mem_append_left->dX,mem_cons->aU,mem_cons_of_mem->eJ,mem_filter->dA,mem_map->gN,mem_range->cW,nil_append->eR,range->aY,take_of_length_le->gJ
open List.cons renaming injEq->fM
open Nat renaming add_assoc->eH,add_mul->dM,add_zero->eM,beq->bR,ble->dD,blt->dE,div->fR,eq_of_beq_eq_true->dI,eq_zero_or_pos->cI,le_refl->aD,le_trans->bK,log2->iG,lt_of_lt_of_le->aO,lt_or_ge->aW,mod_eq_of_lt->bV,mod_lt->eZ,mod_two_eq_zero_or_one->dZ,mul_comm->cG,mul_le_mul->eL,mul_le_mul_right->dS,pow_succ->dR,rec->fC,strongRecOn->gB,testBit_or->aV,testBit_two_pow->aR
open Ne renaming symm->eT
open Option renaming elim_some->aN,isSome_none->gO,map_eq_some_iff->bU
open Option.some renaming inj->fA,injEq->aZ
namespace Go
theorem O0{p:Prop}(h:p:=by omega):p:=h
theorem O1{p:Prop}(h:p:=by assumption):p:=h
theorem O2{p:Prop}(h:p:=by simp):p:=h
theorem O3{p:Prop}(h:p:=by first | omega | assumption):p:=h
theorem O5{p:Prop}(h:p:=by simp;omega):p:=h
end Go
namespace Go.Clo
def Q42:List (Nat × List Value):=[(0,Lib.pow10Tab.map fun z=>cD .u64 z)]
section
variable {α β:Type}
inductive K0 (α:Type) where
 | leaf
 | tip (a:α)
 | node (l r:K0 α)
inductive V3 where
 | cells (c:List Value) (sl:Nat)
 | map (es:List MapEntry) (clock:Nat)
 | rom (c:List Value)
abbrev O6:Value := .slice none 0 0
abbrev O7(c:List Value):Option V3:=some (.cells c 0)
abbrev O8(n:Int):Value := .int .i64 n
abbrev O9(n:Int):Value := .int .u32 n
def V3.isRom:V3->Bool
 | .rom _=>true
 | _=>false
inductive Y0 where
 | leaf
 | node (v:Option V3) (l r:Y0)
@[reducible] def M6 {α β:Type} (k:α->β) (a:α):β:=k a
def N9(T:K0 α):Nat->β->(α->β)->β:=
 @K0.rec α (fun _=>Nat->β->(α->β)->β) (fun _ z _=>z) (fun v _ _ k=>k v)
  (fun _ _ l r t z k=>@fC (fun _=>β) (l (fR t 2) z k) (fun _ _=>r (fR t 2) z k) (Nat.mod t 2)) T
def E9(d:Nat):K0 α->Nat->α->(K0 α->β)->β:=
 @fC (fun _=>K0 α->Nat->α->(K0 α->β)->β) (fun _ _ a k=>k (.tip a))
  (fun _ ih t i a k=>@K0.rec α (fun _=>β)
   (@fC (fun _=>β) (ih .leaf (fR i 2) a fun l=>k (.node l .leaf)) (fun _ _=>ih .leaf (fR i 2) a fun r=>k (.node .leaf r)) (Nat.mod i 2))
   (fun _=>@fC (fun _=>β) (ih .leaf (fR i 2) a fun l=>k (.node l .leaf)) (fun _ _=>ih .leaf (fR i 2) a fun r=>k (.node .leaf r)) (Nat.mod i 2))
   (fun l r _ _=>@fC (fun _=>β) (ih l (fR i 2) a fun l=>k (.node l r)) (fun _ _=>ih r (fR i 2) a fun r=>k (.node l r)) (Nat.mod i 2)) t) d
def hgK(H:Y0):Nat->β->(V3->β)->β:=
 @Y0.rec (fun _=>Nat->β->(V3->β)->β) (fun _ z _=>z)
  (fun v _ _ l r i z k=>@fC (fun _=>β) (@Option.rec V3 (fun _=>β) z k v)
   (fun j _=>@fC (fun _=>β) (l (fR j 2) z k) (fun _ _=>r (fR j 2) z k) (Nat.mod j 2)) i) H
def hsF(B:Nat):Y0->Nat->Option V3->(Y0->β)->β:=
 @fC (fun _=>Y0->Nat->Option V3->(Y0->β)->β) (fun H _ _ k=>k H)
  (fun _ ih H i b k=>@Y0.rec (fun _=>β)
   (@fC (fun _=>β) (M6 k (.node b .leaf .leaf))
    (fun j _=>@fC (fun _=>β) (ih .leaf (fR j 2) b fun l=>M6 k (.node none l .leaf)) (fun _ _=>ih .leaf (fR j 2) b fun r=>M6 k (.node none .leaf r)) (Nat.mod j 2)) i)
   (fun v l r _ _=>@fC (fun _=>β) (M6 k (.node b l r))
    (fun j _=>@fC (fun _=>β) (ih l (fR j 2) b fun l=>M6 k (.node v l r)) (fun _ _=>ih r (fR j 2) b fun r=>M6 k (.node v l r)) (Nat.mod j 2)) i) H) B
def E6(H:Y0)(i:Nat)(b:Option V3)(k:Y0->β):β:=hsF (iG (Nat.add i 1)+1) H i b k
def C30(l:List α):Nat->β->(α->β)->β:=
 @List.rec α (fun _=>Nat->β->(α->β)->β) (fun _ z _=>z)
  (fun a _ ih n z k=>@fC (fun _=>β) (k a) (fun m _=>ih m z k) n) l
def ifK(b:Bool)(x y:β):β:=@Bool.rec (fun _=>β) y x b
def M2(n:Nat)(f:Nat->β):β:=
 match n with
 | 0=>f 0
 | Nat.succ m=>f (Nat.succ m)
def Q16(n:Int)(f:Int->β):β:=
 match n with
 | .ofNat m=>M2 m fun m=>f (.ofNat m)
 | .negSucc m=>M2 m fun m=>f (.negSucc m)
def V13(b:Bool)(f:Bool->β):β:=
 match b with
 | true=>f true
 | false=>f false
def E35(a:Option Addr)(f:Option Addr->β):β:=
 match a with
 | none=>f none
 | some a=>match a with
  | ⟨b,o,s⟩=>M2 b fun b=>M2 o fun o=>match s with
   | none=>f (some ⟨b,o,none⟩)
   | some s=>f (some ⟨b,o,some s⟩)
def X13(v:Value)(f:Value->β):β:=
 match v with
 | .bool b=>V13 b fun b=>f (.bool b)
 | .int k n=>Q16 n fun n=>f (.int k n)
 | .pointer a=>E35 a fun a=>f (.pointer a)
 | .slice a l c=>E35 a fun a=>M2 l fun l=>M2 c fun c=>f (.slice a l c)
 | .map r=>match r with
  | none=>f (.map none)
  | some r=>M2 r fun r=>f (.map (some r))
 | v=>f v
def M22{β:Type}(l:List Value)(f:List Value->β):β:=
 match l with
 | []=>f []
 | v :: l=>X13 v fun v=>M22 l fun l=>f (v :: l)
def M0(v:Value)(f:Value->β):β:=
 match v with
 | .agg cs=>M22 cs.toList fun l=>f (.agg ⟨l⟩)
 | .tuple cs=>M22 cs.toList fun l=>f (.tuple ⟨l⟩)
 | v=>X13 v f
def spine{α β:Type}(l:List α)(f:List α->β):β:=
 match l with
 | []=>f []
 | v :: l=>spine l fun l=>f (v :: l)
def R8{α:Type}:List α->Nat->Option α
 | [],_=>none
 | a :: l,k=>match k with
  | 0=>some a
  | k+1=>R8 l k
def R26{α:Type}:List α->Nat->α->List α
 | [],_,_=>[]
 | a :: l,k,b=>match k with
  | 0=>b :: l
  | k+1=>a :: R26 l k b
def M4:Value->Bool
 | .bool _ | .int _ _ | .float _ _ | .complex _ _ _ | .string _ | .nilFunc | .nilIface=>true
 | .pointer a=>a.isNone
 | .slice a _ _=>a.isNone
 | .map r=>r.isNone
 | _=>false
def X7:Value->Bool
 | .agg cs=>cs.toList.all M4
 | .tuple cs=>cs.toList.all M4
 | v=>M4 v
def E30{α:Type}(P:Program):Sem α->Option α
 | .pure a=>some a
 | .program k=>E30 P (k P)
 | .mark _ k=>E30 P k
 | _=>none
inductive X where
 | s (t:Nat)
 | c (v:Value)
def W13(n:Nat):Operand->Option X
 | .tmp t=>cond (dE t n) (some (.s t)) none
 | .const v=>cond (X7 v) (some (.c v)) none
 | .global _=>none
 | .func f=>some (.c (.func (.func f) #[] #[]))
def U7(n:Nat):List Operand->Option (List X)
 | []=>some []
 | x :: l=>match W13 n x,U7 n l with
  | some x,some l=>some (x :: l)
  | _,_=>none
def B71(n:Nat):Option Operand->Option (Option X)
 | none=>some none
 | some x=>match W13 n x with
  | some x=>some (some x)
  | none=>none
def R16(n:Nat):List (Nat × Operand)->Option (List (Nat × X))
 | []=>some []
 | (i,x) :: l=>match W13 n x,R16 n l with
  | some x,some l=>some ((i,x) :: l)
  | _,_=>none
def W4(T:K0 Value)(x:X)(k:Value->β):β:=
 @X.rec (fun _=>β) (fun t=>N9 T t (k undef) k) (fun v=>k v) x
def U17(T:K0 Value)(l:List X):(List Value->β)->β:=
 @List.rec X (fun _=>(List Value->β)->β) (fun k=>k []) (fun x _ ih k=>W4 T x fun v=>ih fun vs=>k (v :: vs)) l
def R24(T:K0 Value)(x:Option X)(k:Option Value->β):β:=
 match x with
 | none=>k none
 | some x=>W4 T x fun v=>k (some v)
def E34{β:Type}(T:K0 Value)(l:List (Nat × X))(k:List (Nat × Value)->β):β:=
 match l with
 | []=>k []
 | (i,x) :: l=>W4 T x fun v=>E34 T l fun vs=>k ((i,v) :: vs)
inductive VF where
 | eqb (neg:Bool)
 | eqn (neg:Bool) (t:TypeDesc)
 | eqs (neg:Bool) (offs:List (Nat × Nat))
 | sidx
 | ssl (lo hi:Bool)
 | mm (mx:Bool)
 | s2a (n:Nat)
 | bad
inductive IP where
 | mv (x:X)
 | pick (c a b:X)
 | bin (op:BinOp) (x y:X)
 | un (op:UnOp) (x:X)
 | eq (neg:Bool) (t:Option TypeDesc) (x y:X) (o:Oper)
 | scal (xs:List X) (o:Oper)
 | fld (x:X) (off:Nat)
 | idx (x ix:X) (len:Option Nat) (size:Nat)
 | nilc (x:X)
 | ext (x:X) (i:Nat)
 | part (x:X) (off:Nat) (size:Option Nat)
 | aidx (x ix:X) (len size:Nat) (agg:Bool)
 | build (z:List Value) (pl:List (Nat × Nat)) (parts:List (Nat × X))
 | slA (x:X) (n size:Nat) (lo hi mx:Option X)
 | mkf (fn:Fn) (first cap:List X)
 | mki (t:TypeId) (x:X)
 | vf (f:VF) (xs:List X)
def G27:Value->Bool
 | .pointer a=>a.isNone
 | .slice a _ _=>a.isNone
 | .map r=>r.isNone
 | .nilFunc=>true
 | _=>false
def C8(t:Option TypeDesc)(x y:Value):Option Bool:=
 match t,x,y with
 | some (.pointer _),.pointer a,.pointer b=>cond (a.isNone || b.isNone) (some (a.isNone&&b.isNone)) none
 | some (.slice _),.slice a _ _,.slice b _ _=>cond (a.isNone || b.isNone) (some (a.isNone&&b.isNone)) none
 | some (.map _ _),.map a,.map b=>cond (a.isNone || b.isNone) (some (a.isNone&&b.isNone)) none
 | some (.func _ _ _),.nilFunc,.func _ _ _=>some false
 | some (.func _ _ _),.func _ _ _,.nilFunc=>some false
 | some (.func _ _ _),.nilFunc,.nilFunc=>some true
 | _,_,_=>none
def D42(T:K0 Value):Operand->Value
 | .tmp t=>N9 T t undef id
 | .const v=>v
 | .global _=>undef
 | .func f => .func (.func f) #[] #[]
def K20(P:Program)(T:K0 Value)(xs:List X)(o:Oper)(z:β)(k:Value->β):β:=
 U17 T xs fun vs=>cond (vs.all X7)
  (match E30 P (execOp (D42 T) o) with
   | some (.value v)=>M0 v fun v=>cond (X7 v) (k v) z
   | _=>z) z
def Q14(k:IntKind)(n:Int):Bool:=
 match n with
 | .ofNat m=>(match k with
  | .i64=>dE m 9223372036854775808
  | .u32=>dE m 4294967296
  | .u64=>dE m 18446744073709551616
  | .u8=>dE m 256
  | _=>false)
 | .negSucc m=>(match k with
  | .i64=>dE m 9223372036854775808
  | _=>false)
def N52(a b:Int):Int:=
 match a,b with
 | .ofNat a,.ofNat b => .ofNat (Nat.add a b)
 | a,b=>a+b
def X54(a b:Int):Int:=
 match a,b with
 | .ofNat a,.ofNat b=>cond (dD b a) (.ofNat (Nat.sub a b)) (.negSucc (Nat.sub (Nat.sub b a) 1))
 | a,b=>a-b
def ltI(a b:Int):Bool:=
 match a,b with
 | .ofNat a,.ofNat b=>dE a b
 | .negSucc _,.ofNat _=>true
 | .ofNat _,.negSucc _=>false
 | .negSucc a,.negSucc b=>dE b a
def leI(a b:Int):Bool:=
 match a,b with
 | .ofNat a,.ofNat b=>dD a b
 | .negSucc _,.ofNat _=>true
 | .ofNat _,.negSucc _=>false
 | .negSucc a,.negSucc b=>dD b a
def eqI(a b:Int):Bool:=
 match a,b with
 | .ofNat a,.ofNat b=>bR a b
 | .negSucc a,.negSucc b=>bR a b
 | _,_=>false
def eqK:IntKind->IntKind->Bool
 | .i8,.i8 | .i16,.i16 | .i32,.i32 | .i64,.i64 | .u8,.u8 | .u16,.u16 | .u32,.u32 | .u64,.u64=>true
 | _,_=>false
def G7(op:BinOp)(k:IntKind)(a b:Int):Option Value:=
 match op with
 | .add=>some (.int k (k.wrap (a+b)))
 | .sub=>some (.int k (k.wrap (a-b)))
 | .mul=>some (.int k (k.wrap (a*b)))
 | .quo=>if b=0 then none else some (.int k (k.wrap (a.tdiv b)))
 | .rem=>if b=0 then none else some (.int k (a.tmod b))
 | .and=>some (.int k (k.wrap (cT k.bits a &&& cT k.bits b).toNat))
 | .or=>some (.int k (k.wrap (cT k.bits a ||| cT k.bits b).toNat))
 | .xor=>some (.int k (k.wrap (cT k.bits a ^^^ cT k.bits b).toNat))
 | .andNot=>some (.int k (k.wrap (cT k.bits a &&& ~~~(cT k.bits b)).toNat))
 | .eql=>some (.bool (a==b))
 | .neq=>some (.bool (a != b))
 | .lss=>some (.bool (decide (a<b)))
 | .leq=>some (.bool (decide (a<=b)))
 | .gtr=>some (.bool (decide (a > b)))
 | .geq=>some (.bool (decide (a ≥ b)))
 | _=>none
def K53(op:BinOp)(a b:ByteArray):Option Value:=
 match op with
 | .add=>if ((a.size+b.size:Nat):Int) > IntKind.i64.max then none else some (.string (a++b))
 | .eql=>some (.bool (a.toList==b.toList))
 | .neq=>some (.bool !(a.toList==b.toList))
 | .lss=>some (.bool (Op.bytesLess a.toList b.toList))
 | .leq=>some (.bool (Op.bytesLess a.toList b.toList || a.toList==b.toList))
 | .gtr=>some (.bool !(Op.bytesLess a.toList b.toList || a.toList==b.toList))
 | .geq=>some (.bool !(Op.bytesLess a.toList b.toList))
 | _=>none
def C18(op:BinOp)(k:IntKind)(a b:Int):Option Value:=
 if b<0 then none else match op with
  | .shl=>some (.int k (k.wrap (a*2^min b.toNat k.bits)))
  | .shr=>some (.int k (a.fdiv (2^min b.toNat k.bits)))
  | _=>none
def N4:BinOp->Bool
 | .shl | .shr=>true
 | _=>false
def R9(op:BinOp)(x y:Value):Option Value:=
 match x,y with
 | .int k a,.int k' b=>cond (N4 op) (C18 op k a b) (cond (eqK k k') (G7 op k a b) none)
 | .string a,.string b=>K53 op a b
 | _,_=>none
def unV(op:UnOp)(x:Value):Option Value:=
 match op,x with
 | .neg,.int k n=>some (.int k (k.wrap (0-n)))
 | .xor,.int k n=>some (.int k (k.wrap (cT k.bits (if k.signed then -1 else k.max) ^^^ cT k.bits n).toNat))
 | .not,.bool b=>some (.bool !b)
 | _,_=>none
def X22(r:Option Value)(z:β)(f:Value->β):β:=
 match r with
 | some v=>X13 v f
 | none=>z
def C55(op:BinOp)(k:IntKind)(a b:Int)(z:β)(f:Value->β):β:=
 match op with
 | .add=>Q16 (N52 a b) fun r=>cond (Q14 k r) (f (.int k r)) (X22 (G7 op k a b) z f)
 | .sub=>Q16 (X54 a b) fun r=>cond (Q14 k r) (f (.int k r)) (X22 (G7 op k a b) z f)
 | .lss=>V13 (ltI a b) fun r=>f (.bool r)
 | .leq=>V13 (leI a b) fun r=>f (.bool r)
 | .gtr=>V13 (ltI b a) fun r=>f (.bool r)
 | .geq=>V13 (leI b a) fun r=>f (.bool r)
 | .eql=>V13 (eqI a b) fun r=>f (.bool r)
 | .neq=>V13 (!(eqI a b)) fun r=>f (.bool r)
 | op=>X22 (G7 op k a b) z f
def J42(op:BinOp)(vx vy:Value)(z:β)(f:Value->β):β:=
 match vx,vy with
 | .int k a,.int k' b=>cond (N4 op) (X22 (C18 op k a b) z f) (cond (eqK k k') (C55 op k a b z f) z)
 | .string a,.string b=>X22 (K53 op a b) z f
 | _,_=>z
def V52(op:BinOp)(x y:X)(T:K0 Value)(z:β)(f:Value->β):β:=
 W4 T x fun vx=>W4 T y fun vy=>J42 op vx vy z f
def unK(op:UnOp)(x:X)(T:K0 Value)(z:β)(f:Value->β):β:=
 W4 T x fun v=>X22 (unV op v) z f
def M55(P:Program)(T:K0 Value)(neg:Bool)(t:Option TypeDesc)(x y:X)(o:Oper)(z:β)(f:Value->β):β:=
 W4 T x fun vx=>W4 T y fun vy=>
  match vx,vy with
  | .int k a,.int k' b=>cond (eqK k k') (V13 (cond neg (!(eqI a b)) (eqI a b)) fun r=>f (.bool r)) z
  | vx,vy=>cond (G27 vx || G27 vy)
   (match C8 t vx vy with
    | some b=>V13 (cond neg (!b) b) fun r=>f (.bool r)
    | none=>z) (K20 P T [x,y] o z f)
def B22:Value->Bool
 | .chan _=>false
 | _=>true
def V16(B:Nat->Option (Nat × Nat))(cells:List Value):List (Nat × Value)->Option (List Value)
 | []=>some cells
 | (i,v) :: rest=>
  match B i with
  | none=>none
  | some (off,size)=>
   cond (bR v.cells.toList.length size&&dD (off+size) cells.length&&B22 v)
    (V16 B (cells.take off++v.cells.toList++cells.drop (off+size)) rest) none
def Y13(x:Option Value)(top:Nat):Option Nat:=
 match x with
 | none=>some top
 | some v=>match v with
  | .int _ n=>match n with
   | .ofNat m=>cond (dD m top) (some m) none
   | _=>none
  | _=>none
def hiA(hi mx:Option Value)(len m:Nat):Option Nat:=
 match hi with
 | none=>(match mx with
  | none=>some len
  | some _=>none)
 | some v=>Y13 (some v) m
def loA(lo:Option Value)(h:Nat):Option Nat:=
 match lo with
 | none=>some 0
 | some v=>Y13 (some v) h
def V34(tag:Nat)(x y:Value):Option Bool:=
 match tag,x,y with
 | 0,.int k a,.int k' b=>cond (eqK k k') (some (a==b)) none
 | 1,.bool a,.bool b=>some (a==b)
 | 2,.string a,.string b=>some (a.toList==b.toList)
 | _,_,_=>none
def G18(a b:List Value):List (Nat × Nat)->Option Bool
 | []=>some true
 | (o,tag) :: os=>match R8 a o,R8 b o with
  | some x,some y=>(match V34 tag x y,G18 a b os with
   | some r,some r'=>some (r&&r')
   | _,_=>none)
  | _,_=>none
def G31(s:ByteArray)(lo hi:Option Value):Option Value:=
 match (match hi with | none=>some s.size | some v=>Y13 (some v) s.size) with
 | none=>none
 | some h=>match (match lo with | none=>some 0 | some v=>Y13 (some v) h) with
  | none=>none
  | some l=>some (.string (s.extract l h))
def mmV(mx:Bool):Value->List Value->Option Value
 | .int k x,[]=>some (.int k x)
 | .int k x,.int _ y :: r=>mmV mx (.int k (cond mx (if y > x then y else x) (if y<x then y else x))) r
 | _,_=>none
def J52(s:ByteArray)(n:Int):Option Value:=((if 0<=n then s[n.toNat]? else none):Option UInt8).map fun b => .int .u8 b.toNat
def VF.ev:VF->List Value->Option Value
 | .eqb neg,[.bool a,.bool b]=>some (.bool (cond neg (!(a==b)) (a==b)))
 | .eqn neg t,[x,y]=>(C8 (some t) x y).map fun b => .bool (cond neg (!b) b)
 | .eqs neg offs,[.agg a,.agg b]=>(G18 a.toList b.toList offs).map fun r => .bool (cond neg (!r) r)
 | .sidx,[.string s,.int _ n]=>J52 s n
 | .ssl false false,[.string s]=>G31 s none none
 | .ssl true false,[.string s,l]=>G31 s (some l) none
 | .ssl false true,[.string s,h]=>G31 s none (some h)
 | .ssl true true,[.string s,l,h]=>G31 s (some l) (some h)
 | .mm mx,x :: r=>mmV mx x r
 | .s2a n,[.slice (some ⟨b,o,none⟩) len _]=>cond (dD n len) (some (.pointer (some ⟨b,o,none⟩))) none
 | _,_=>none
def vfK(f:VF)(xs:List X)(T:K0 Value)(z:β)(k:Value->β):β:=
 U17 T xs fun vs=>X22 (f.ev vs) z k
def B26(a:Option Addr)(len cap size:Nat)(lo hi mx:Option Value)(B:Bool):Option Value:=
 match Y13 mx cap with
 | none=>none
 | some m=>
  match hiA hi mx len m with
  | none=>none
  | some h=>
   match loA lo h with
   | none=>none
   | some l=>
    match a with
    | none=>some (.slice none (h-l) (m-l))
    | some a=>cond ((B&&mx.isNone&&bR m l && !(bR l 0)) || !(dD l m)) none
     (some (.slice (some (cond (bR m l) a { block:=a.block,off:=a.off+l*size,spot:=a.spot })) (h-l) (m-l)))
def V42(c a b:X)(T:K0 Value)(z:β)(k:Value->β):β:=
 W4 T c fun v=>match v with
  | .bool t=>ifK t (W4 T a k) (W4 T b k)
  | _=>z
def U19(n:Nat)(a:Addr)(k:Value->β):β:=
 M2 n fun n=>match a with
  | ⟨b,_,s⟩=>k (.pointer (some ⟨b,n,s⟩))
def X53(x:X)(off:Nat)(T:K0 Value)(z:β)(k:Value->β):β:=
 W4 T x fun v=>match v with
  | .pointer (some a)=>U19 (a.off+off) a k
  | _=>z
def N41(len:Option Nat)(size:Nat)(i:Nat)(z:β)(k:Value->β)(v:Value):β:=
 match len,v with
 | none,.slice (some a) n _=>cond (dE i n) (U19 (a.off+i*size) a k) z
 | some n,.pointer (some a)=>cond (dE i n) (U19 (a.off+i*size) a k) z
 | _,_=>z
def R30(x ix:X)(len:Option Nat)(size:Nat)(T:K0 Value)(z:β)(k:Value->β):β:=
 W4 T ix fun vi=>match vi with
  | .int _ (.ofNat i)=>W4 T x fun v=>N41 len size i z k v
  | _=>z
def U42(x:X)(T:K0 Value)(z:β)(k:Value->β):β:=
 W4 T x fun v=>match v with
  | .pointer (some a)=>k (.pointer (some a))
  | _=>z
def E54(x:X)(i:Nat)(T:K0 Value)(z:β)(k:Value->β):β:=
 W4 T x fun v=>match v with
  | .tuple vs=>C30 vs.toList i z k
  | _=>z
def E21(l:List Value)(off:Nat)(size:Option Nat)(z:β)(k:Value->β):β:=
 match size with
 | some n=>spine (l.drop off |>.take n) fun l=>k (.agg ⟨l⟩)
 | none=>C30 l off z k
def C41(x:X)(off:Nat)(size:Option Nat)(T:K0 Value)(z:β)(k:Value->β):β:=
 W4 T x fun v=>match v with
  | .agg cs=>E21 cs.toList off size z k
  | _=>z
def D41(x ix:X)(len size:Nat)(agg:Bool)(T:K0 Value)(z:β)(k:Value->β):β:=
 W4 T ix fun vi=>match vi with
  | .int _ (.ofNat i)=>W4 T x fun v=>match v with
   | .agg cs=>cond (dE i len) (E21 cs.toList (i*size) (cond agg (some size) none) z k) z
   | _=>z
  | _=>z
def W35(zero:List Value)(pl:List (Nat × Nat))(parts:List (Nat × X))(T:K0 Value)(z:β)(k:Value->β):β:=
 E34 T parts fun vs=>match V16 (R8 pl) zero vs with
  | some cs=>spine cs fun cs=>k (.agg ⟨cs⟩)
  | none=>z
def U52(x:X)(n size:Nat)(lo hi mx:Option X)(T:K0 Value)(z:β)(k:Value->β):β:=
 W4 T x fun v=>R24 T lo fun lo=>R24 T hi fun hi=>R24 T mx fun mx=>match v with
  | .pointer (some a)=>(match B26 (some a) n n size lo hi mx false with
   | some r=>X13 r k
   | none=>z)
  | _=>z
def X4(P:Program)(i:IP):K0 Value->β->(Value->β)->β:=
 @IP.rec (fun _=>K0 Value->β->(Value->β)->β)
  (fun x T _ k=>W4 T x k)
  V42
  V52 unK
  (fun neg t x y o T z k=>M55 P T neg t x y o z k)
  (fun xs o T z k=>K20 P T xs o z k)
  X53 R30 U42 E54 C41 D41 W35 U52
  (fun fn first cap T _ k=>U17 T first fun f=>U17 T cap fun c=>k (.func fn ⟨f⟩ ⟨c⟩))
  (fun t x T _ k=>W4 T x fun v=>k (.iface t v)) vfK i
inductive IR where
 | ld (x:X) (size:Option Nat)
 | lk (kd:TypeDesc) (zero:Value) (x ix:X) (ok:Bool)
 | len (x:X) (kd:Nat)
 | convI (kd:IntKind) (x:X)
 | conv (x:X) (o:Oper)
 | sl (x:X) (size:Nat) (lo hi mx:Option X)
 | str (x:X)
def Q9:TypeDesc->Value->Bool
 | .int _,.int _ _=>true
 | .string,.string _=>true
 | .bool,.bool _=>true
 | _,_=>false
def G5{α:Type}:Nat->List α->Option (List α)
 | 0,_=>some []
 | n+1,l=>match l with
  | []=>none
  | a :: l=>match G5 n l with
   | some r=>some (a :: r)
   | none=>none
def D12(H:Y0)(i:Nat)(z:β)(k:V3->β):β:=
 hgK H i z k
def B19(H:Y0)(a:Addr)(n:Nat)(z:β)(k:List Value->β):β:=
 match a with
 | ⟨b,o,none⟩=>D12 H b z fun b=>match b with
  | .cells c _=>(match G5 n (c.drop o) with
   | some l=>spine l k
   | none=>z)
  | .rom c=>(match G5 n (c.drop o) with
   | some l=>spine l k
   | none=>z)
  | _=>z
 | _=>z
def ldC(o:Nat)(size:Option Nat)(z:β)(k:Value->β)(c:List Value):β:=
 match size with
  | none=>C30 c o z k
  | some n=>(match G5 n (c.drop o) with
   | some l=>spine l fun l=>k (.agg ⟨l⟩)
   | none=>z)
def ldB(o:Nat)(size:Option Nat)(z:β)(k:Value->β)(b:V3):β:=
 match b with
 | .cells c _=>ldC o size z k c
 | .rom c=>ldC o size z k c
 | _=>z
def rLd(x:X)(size:Option Nat)(T:K0 Value)(H:Y0)(z:β)(k:Value->β):β:=
 W4 T x fun v=>match v with
  | .pointer (some ⟨b,o,none⟩)=>D12 H b z (ldB o size z k)
  | _=>z
def rLk(kd:TypeDesc)(zero:Value)(x ix:X)(ok:Bool)(T:K0 Value)(H:Y0)(z:β)(k:Value->β):β:=
 W4 T x fun v=>W4 T ix fun vi=>cond (Q9 kd vi)
  ((fun(es:List MapEntry->β)=>match v with
   | .map none=>es []
   | .map (some r)=>D12 H r z fun b=>match b with
    | .map l _=>es l
    | _=>z
   | _=>z) fun l=>match dP kd vi l 0 with
    | some (some (_,v))=>cond ok (M6 k (.tuple ⟨[v,.bool true]⟩)) (M6 k v)
    | some none=>cond ok (M6 k (.tuple ⟨[zero,.bool false]⟩)) (M6 k zero)
    | none=>z) z
def U53(x:X)(kd:Nat)(T:K0 Value)(H:Y0)(z:β)(k:Value->β):β:=
 W4 T x fun v=>match kd,v with
  | 0,.slice _ n _=>M6 k (.int .i64 (.ofNat n))
  | 1,.string s=>M2 s.size fun n=>M6 k (.int .i64 (.ofNat n))
  | 2,.map none=>M6 k (.int .i64 (.ofNat 0))
  | 2,.map (some r)=>D12 H r z fun b=>match b with
   | .map l _=>M2 l.length fun n=>M6 k (.int .i64 (.ofNat n))
   | _=>z
  | _,_=>z
def X34(kd:IntKind)(x:X)(T:K0 Value)(_:Y0)(z:β)(k:Value->β):β:=
 W4 T x fun v=>match v with
  | .int _ n=>cond (Q14 kd n) (M6 k (.int kd n)) (Q16 (kd.wrap n) fun n=>M6 k (.int kd n))
  | _=>z
def J70(P:Program)(x:X)(o:Oper)(T:K0 Value)(z:β)(k:Value->β):β:=K20 P T [x] o z k
def N8(b:V3)(o cap size:Nat):Option Bool:=
 match b with
 | .cells c sl=>cond (bR sl 0) (some false) (cond (bR sl size) (some (bR (o+cap*size) c.length)) none)
 | .rom _=>some false
 | _=>none
def slB(a:Addr)(len cap size:Nat)(lo hi mx:Option Value)(z:β)(k:Value->β)(b:V3):β:=
 match N8 b a.off cap size with
 | some l=>(match B26 (some a) len cap size lo hi mx l with
  | some r=>X13 r k
  | none=>z)
 | none=>z
def rSl(x:X)(size:Nat)(lo hi mx:Option X)(T:K0 Value)(H:Y0)(z:β)(k:Value->β):β:=
 W4 T x fun v=>R24 T lo fun lo=>R24 T hi fun hi=>R24 T mx fun mx=>match v with
  | .slice none len cap=>(match B26 none len cap size lo hi mx false with
   | some r=>X13 r k
   | none=>z)
  | .slice (some ⟨b,o,none⟩) len cap=>D12 H b z (slB ⟨b,o,none⟩ len cap size lo hi mx z k)
  | .slice (some ⟨b,o,some s⟩) len cap=>cond (bR len 0&&bR cap 0) (match B26 none 0 0 size lo hi mx false with
   | some (.slice none 0 0)=>k (.slice (some ⟨b,o,some s⟩) 0 0)
   | _=>z) z
  | _=>z
def R22:List Value->Option (List UInt8)
 | []=>some []
 | .int .u8 (.ofNat n) :: r=>cond (dE n 256) (match R22 r with
  | some l=>some (UInt8.ofNat n :: l)
  | none=>none) none
 | _=>none
def Q53(x:X)(T:K0 Value)(H:Y0)(z:β)(k:Value->β):β:=
 W4 T x fun v=>match v with
  | .slice none _ _=>M6 k (.string ⟨#[]⟩)
  | .slice (some a) len _=>B19 H a len z fun cs=>match R22 cs with
   | some bs=>M6 k (.string ⟨⟨bs⟩⟩)
   | none=>z
  | _=>z
def M9(P:Program)(i:IR):K0 Value->Y0->β->(Value->β)->β:=
 @IR.rec (fun _=>K0 Value->Y0->β->(Value->β)->β) rLd rLk U53 X34 (fun x o T _ z k=>J70 P x o T z k) rSl Q53 i
def Z0:List Value->Bool
 | []=>true
 | .agg _ :: _ | .tuple _ :: _ | .chan _ :: _=>false
 | _ :: l=>Z0 l
inductive Q0 where
 | ptr
 | slice (len cap:Nat)
 | map
def Q0.val(q:Nat):Q0->Value
 | .ptr => .pointer (some { block:=q,off:=0 })
 | .slice l c => .slice (some { block:=q,off:=0 }) l c
 | .map => .map (some q)
def Q19(z:List Value):Nat->List Value
 | 0=>[]
 | n+1=>z++Q19 z n
inductive IA where
 | alloc (z:List Value)
 | allocT (e:TypeId) (z:List Value)
 | box (x:X)
 | bsl (len size:Nat) (z:List Value) (parts:List (Nat × X))
 | msl (l c:X) (z:List Value)
 | mmap (x:Option X)
def evA(i:IA)(T:K0 Value)(z:β)(k:V3->Q0->β):β:=
 match i with
 | .alloc zero=>spine zero fun l=>k (.cells l 0) .ptr
 | .allocT e zero=>spine zero fun l=>M2 (1000*(e+1)) fun s=>k (.cells l s) .ptr
 | .box x=>W4 T x fun v=>cond (Z0 v.cells.toList) (spine v.cells.toList fun l=>k (.cells l 0) .ptr) z
 | .bsl len size zero parts=>E34 T parts fun vs=>
  match V16 (fun k=>some (k*size,size)) (Q19 zero len) vs with
  | some cs=>cond (Z0 cs) (spine cs fun cs=>k (.cells cs 0) (.slice len len)) z
  | none=>z
 | .msl l c zero=>W4 T l fun vl=>W4 T c fun vc=>match vl,vc with
  | .int .i64 (.ofNat l),.int .i64 (.ofNat c)=>cond (dD l c&&dD c 1000000) (spine (Q19 zero c) fun cs=>k (.cells cs 0) (.slice l c)) z
  | _,_=>z
 | .mmap x=>R24 T x fun x=>match x with
  | none=>k (.map [] 0) .map
  | some (.int _ _)=>k (.map [] 0) .map
  | _=>z
inductive IE where
 | st (x v:X) (size:Nat)
 | upd (kd:TypeDesc) (m k v:X)
 | call (f:X) (args:List X)
 | app (s x:X) (size bytes:Nat)
 | appT (s x:X) (tag size bytes:Nat)
 | copy (d s:X) (size:Nat)
 | clrM (m:X)
 | clrS (s:X) (zero:List Value)
abbrev Z3(β:Type):=FuncId->List Value->Y0->Nat->β->(Value->Y0->Nat->β)->β
def U12(H:Y0)(a:Addr)(vs:List Value)(z:β)(k:Y0->β):β:=
 match a with
 | ⟨b,o,none⟩=>D12 H b z fun blk=>match blk with
  | .cells c sl=>cond (dD (o+vs.length) c.length)
   (spine (c.take o++vs++c.drop (o+vs.length)) fun c=>E6 H b (some (.cells c sl)) k) z
  | _=>z
 | _=>z
def Z5(H:Y0)(size n:Nat)(x:Value)(z:β)(k:List Value->β):β:=
 match x with
 | .slice (some a) _ _=>B19 H a (n*size) z k
 | .slice none _ _=>k []
 | .string s=>M22 ((s.extract 0 n).data.toList.map fun b => .int .u8 b.toNat) k
 | _=>z
def Y45:Value->Option Nat
 | .slice _ n _=>some n
 | .string s=>some s.size
 | _=>none
def C42(H:Y0)(nx:Nat)(size B J E n:Nat)(base:Option Addr)(new:List Value)(z:β)(k:Value->Y0->Nat->β):β:=
 match base with
 | none=>cond (bR n 0) (k (.slice none B E) H nx) z
 | some ⟨b,o,none⟩=>M2 (o+J*size) fun o'=>U12 H ⟨b,o',none⟩ new z fun H'=>k (.slice (some ⟨b,o,none⟩) B E) H' nx
 | _=>z
def K11(H:Y0)(nx size B:Nat)(cs:List Value)(k:Value->Y0->Nat->β):β:=
 M2 (nx+1) fun E=>M2 size fun size=>E6 H nx (some (.cells cs size)) fun H'=>k (.slice (some ⟨nx,0,none⟩) B B) H' E
def D22(H:Y0)(nx:Nat)(size B E:Nat)(base:Option Addr)(cs:List Value)(z:β)(k:Value->Y0->Nat->β):β:=
 match base with
 | none=>K11 H nx size B cs k
 | some ⟨b,o,none⟩=>D12 H b z fun blk=>match N8 blk o E size with
  | some false=>K11 H nx size B cs k
  | some true=>E6 H b none fun H=>K11 H nx size B cs k
  | none=>z
 | _=>z
def Z22(H:Y0)(nx:Nat)(size bytes:Nat)(s x:Value)(z:β)(k:Value->Y0->Nat->β):β:=
 match s,Y45 x with
 | .slice base sLen sCap,some n=>M2 (sLen+n) fun B=>
  cond (dD ((2*B+1000)*bytes) 281474976710656&&dD B 1000000000)
   (Z5 H size n x z fun new=>cond (Z0 new)
   (cond (dD B sCap) (C42 H nx size B sLen sCap n base new z k)
    (Z5 H size sLen s z fun E=>spine (E++new) fun cs=>cond (bR cs.length (B*size)) (D22 H nx size B sCap base cs z k) z)) z) z
 | _,_=>z
def N11(tag size:Nat):Nat:=
 match tag with
 | 0=>size
 | t+1=>size+1000*(t+1)
def V115(tag:Nat)(H:Y0)(nx size B:Nat)(cs:List Value)(k:Value->Y0->Nat->β):β:=
 M2 (nx+1) fun E=>M2 (N11 tag size) fun sl=>E6 H nx (some (.cells cs sl)) fun H'=>k (.slice (some ⟨nx,0,none⟩) B B) H' E
def C122(tag:Nat)(b:V3)(o cap size:Nat):Option Bool:=
 match b with
 | .cells c sl=>cond (bR sl 0) (some false) (cond (bR sl (N11 tag size)) (some (bR (o+cap*size) c.length)) none)
 | .rom _=>some false
 | _=>none
def Q128(tag:Nat)(H:Y0)(nx:Nat)(size B E:Nat)(base:Option Addr)(cs:List Value)(z:β)(k:Value->Y0->Nat->β):β:=
 match base with
 | none=>V115 tag H nx size B cs k
 | some ⟨b,o,none⟩=>D12 H b z fun blk=>match C122 tag blk o E size with
  | some false=>V115 tag H nx size B cs k
  | some true=>E6 H b none fun H=>V115 tag H nx size B cs k
  | none=>z
 | _=>z
def M128(tag:Nat)(H:Y0)(nx:Nat)(size bytes:Nat)(s x:Value)(z:β)(k:Value->Y0->Nat->β):β:=
 match s,Y45 x with
 | .slice base sLen sCap,some n=>M2 (sLen+n) fun B=>
  cond (dD ((2*B+1000)*bytes) 281474976710656&&dD B 1000000000)
   (Z5 H size n x z fun new=>cond (Z0 new)
   (cond (dD B sCap) (C42 H nx size B sLen sCap n base new z k)
    (Z5 H size sLen s z fun E=>spine (E++new) fun cs=>cond (bR cs.length (B*size)) (Q128 tag H nx size B sCap base cs z k) z)) z) z
 | _,_=>z
def E41(f:X)(args:List X)(call:Z3 β)(T:K0 Value)(H:Y0)(nx:Nat)(z:β)(k:Value->Y0->Nat->β):β:=
 W4 T f fun vf=>match vf with
  | .func (.func g) ⟨first⟩ ⟨cap⟩=>U17 T args fun vs=>spine (first++vs++cap) fun vs=>call g vs H nx z k
  | _=>z
def eSt(x v:X)(size:Nat)(_:Z3 β)(T:K0 Value)(H:Y0)(nx:Nat)(z:β)(k:Value->Y0->Nat->β):β:=
 W4 T x fun vx=>W4 T v fun vv=>match vx with
  | .pointer (some a)=>cond (bR vv.cells.toList.length size&&Z0 vv.cells.toList)
   (U12 H a vv.cells.toList z fun H=>k undef H nx) z
  | _=>z
def G52(kd:TypeDesc)(H:Y0)(nx:Nat)(r:Nat)(vk vv:Value)(z:β)(k:Value->Y0->Nat->β)(b:V3):β:=
 match b with
 | .map es clock=>cond (Q9 kd vk)
  (match dP kd vk es 0 with
   | some (some (i,_))=>(match R8 es i with
    | some e=>spine (R26 es i { key:=vk,val:=vv,born:=e.born }) fun es=>E6 H r (some (.map es clock)) fun H=>k undef H nx
    | none=>z)
   | some none=>spine (es++[{ key:=vk,val:=vv,born:=clock }]) fun es=>M2 (clock+1) fun c=>E6 H r (some (.map es c)) fun H=>k undef H nx
   | none=>z) z
 | _=>z
def U54(kd:TypeDesc)(m key v:X)(_:Z3 β)(T:K0 Value)(H:Y0)(nx:Nat)(z:β)(k:Value->Y0->Nat->β):β:=
 W4 T m fun vm=>W4 T key fun vk=>W4 T v fun vv=>match vm with
  | .map (some r)=>D12 H r z (G52 kd H nx r vk vv z k)
  | _=>z
def B41(d s:X)(size:Nat)(_:Z3 β)(T:K0 Value)(H:Y0)(nx:Nat)(z:β)(k:Value->Y0->Nat->β):β:=
 W4 T d fun vd=>W4 T s fun vs=>match vd,Y45 vs with
  | .slice base dLen _,some m=>M2 (Nat.min m dLen) fun n=>Z5 H size n vs z fun cs=>cond (Z0 cs) (match base with
   | none=>M6 (M6 (M6 k (.int .i64 (.ofNat n))) H) nx
   | some a=>U12 H a cs z fun H=>M6 (M6 (M6 k (.int .i64 (.ofNat n))) H) nx) z
  | _,_=>z
def Y42(m:X)(_:Z3 β)(T:K0 Value)(H:Y0)(nx:Nat)(z:β)(k:Value->Y0->Nat->β):β:=
 W4 T m fun v=>match v with
  | .map none=>k undef H nx
  | .map (some r)=>D12 H r z fun b=>match b with
   | .map _ clock=>E6 H r (some (.map [] clock)) fun H=>k undef H nx
   | _=>z
  | _=>z
def W42(s:X)(zero:List Value)(_:Z3 β)(T:K0 Value)(H:Y0)(nx:Nat)(z:β)(k:Value->Y0->Nat->β):β:=
 W4 T s fun v=>match v with
  | .slice none _ _=>k undef H nx
  | .slice (some ⟨b,o,none⟩) n _=>cond (bR n 0) (k undef H nx) (cond (Z0 (Q19 zero n)) (U12 H ⟨b,o,none⟩ (Q19 zero n) z fun H=>k undef H nx) z)
  | _=>z
def D6(i:IE):Z3 β->K0 Value->Y0->Nat->β->(Value->Y0->Nat->β)->β:=
 @IE.rec (fun _=>Z3 β->K0 Value->Y0->Nat->β->(Value->Y0->Nat->β)->β)
  eSt U54 E41 (fun s x size bytes _ T H nx z k=>W4 T s fun vs=>W4 T x fun vx=>Z22 H nx size bytes vs vx z k)
  (fun s x tag size bytes _ T H nx z k=>W4 T s fun vs=>W4 T x fun vx=>M128 tag H nx size bytes vs vx z k) B41 Y42 W42 i
inductive I where
 | p (i:IP)
 | r (i:IR)
 | a (i:IA)
 | e (i:IE)
def R13(P:Program):List Field->Option (List (Nat × Nat))
 | []=>some []
 | f :: fs=>match P.info? f.type,R13 P fs with
  | some i,some l=>some ((f.offset,i.size) :: l)
  | _,_=>none
def M10(P:Program)(t:TypeId):Option (List Value):=
 match P.info? t with
 | some i=>match i.zero with
  | some z=>cond (X7 z&&Z0 z.cells.toList&&bR z.cells.toList.length i.size) (some z.cells.toList) none
  | none=>none
 | none=>none
def G8:TypeDesc->Bool
 | .struct _ | .array _ _=>true
 | _=>false
def C144(P:Program)(t:TypeId):Bool:=
 match P.underlying t with
 | some (.struct fs)=>(match fs.toList with
  | [f]=>(match P.underlying f.type with
   | some (.struct _)=>true
   | _=>false)
  | _=>false)
 | _=>false
def E8(P:Program)(t:TypeId):Option (Option Nat):=
 match P.underlying t,P.info? t with
 | some d,some i=>some (cond (G8 d) (some i.size) none)
 | _,_=>none
def Y27(n size:Nat):List (Nat × Nat):=(aY n).map fun i=>(i*size,size)
def N69:BinOp->Option Bool
 | .eql=>some false
 | .neq=>some true
 | _=>none
def W36:Option TypeDesc->Option Nat
 | some (.int _)=>some 0
 | some .bool=>some 1
 | some .string=>some 2
 | _=>none
def D27(P:Program):List Field->Option (List (Nat × Nat))
 | []=>some []
 | f :: fs=>match W36 (P.underlying f.type),D27 P fs with
  | some tag,some os=>some ((f.offset,tag) :: os)
  | _,_=>none
def V43 (P:Program) (t:TypeId) (fs:List Field):Option (List (Nat × Nat)):=
 cond (!P.stoodInHeld t && !P.eqGuardType P.depth t && fs.all fun f => f.name != "_") (D27 P fs) none
def G19(P:Program)(n:Nat)(o:Oper):Option I:=
 match o.op with
 | .move x | .assign x=>(W13 n x).map fun x => .p (.mv x)
 | .pick c a b=>match W13 n c,W13 n a,W13 n b with
  | some c,some a,some b=>some (.p (.pick c a b))
  | _,_,_=>none
 | .binOp op t x y _=>match W13 n x,W13 n y with
  | some x,some y=>match N69 op with
   | none=>some (.p (.bin op x y))
   | some neg=>match P.underlying t with
    | some (.int _)=>some (.p (.bin op x y))
    | some .string=>some (.p (.bin op x y))
    | some .bool=>some (.p (.vf (.eqb neg) [x,y]))
    | some (.pointer e)=>some (.p (.vf (.eqn neg (.pointer e)) [x,y]))
    | some (.slice e)=>some (.p (.vf (.eqn neg (.slice e)) [x,y]))
    | some (.map a e)=>some (.p (.vf (.eqn neg (.map a e)) [x,y]))
    | some (.func a e c)=>some (.p (.vf (.eqn neg (.func a e c)) [x,y]))
    | some (.struct fs)=>(match V43 P t fs.toList with
     | some offs=>some (.p (.vf (.eqs neg offs) [x,y]))
     | none=>some (.p (.eq neg (P.underlying t) x y o)))
    | _=>some (.p (.eq neg (P.underlying t) x y o))
  | _,_=>none
 | .unOp op _ x=>match W13 n x with
  | some x=>some (.p (.un op x))
  | none=>none
 | .fieldAddr s x f=>match W13 n x,P.underlying s with
  | some x,some (.struct fs)=>match R8 fs.toList f with
   | some fd=>match P.info? fd.type with
    | some i=>cond (bR i.size 0) none (some (.p (.fld x fd.offset)))
    | none=>none
   | none=>none
  | _,_=>none
 | .indexAddr t x ix=>match W13 n x,W13 n ix,P.underlying t with
  | some x,some ix,some (.slice e)=>match P.info? e with
   | some i=>some (.p (.idx x ix none i.size))
   | none=>none
  | some x,some ix,some (.array len e)=>match P.info? e with
   | some i=>some (.p (.idx x ix (some len) i.size))
   | none=>none
  | _,_,_=>none
 | .nilCheck x=>(W13 n x).map fun x => .p (.nilc x)
 | .extract x i=>(W13 n x).map fun x => .p (.ext x i)
 | .field t x f=>match W13 n x,P.underlying t with
  | some x,some (.struct fs)=>match R8 fs.toList f with
   | some fd=>(E8 P fd.type).map fun sh => .p (.part x fd.offset sh)
   | none=>none
  | _,_=>none
 | .index t x ix=>match W13 n x,W13 n ix,P.underlying t with
  | some x,some ix,some (.array len e)=>match P.info? e,P.underlying e with
   | some i,some d=>some (.p (.aidx x ix len i.size (G8 d)))
   | _,_=>none
  | some x,some ix,some .string=>some (.p (.vf .sidx [x,ix]))
  | _,_,_=>none
 | .build t parts=>match P.underlying t,M10 P t,R16 n parts.toList with
  | some (.struct fields),some z,some ps=>(R13 P fields.toList).map fun pl => .p (.build z pl ps)
  | some (.array k e),some z,some ps=>match P.info? e with
   | some i=>some (.p (.build z (Y27 k i.size) ps))
   | none=>none
  | _,_,_=>none
 | .slice t x lo hi mx=>match W13 n x,B71 n lo,B71 n hi,B71 n mx,P.underlying t with
  | some x,some lo,some hi,some mx,some (.slice e)=>match P.info? e with
   | some i=>cond (dE i.size 1000) (some (.r (.sl x i.size lo hi mx))) none
   | none=>none
  | some x,some lo,some hi,some mx,some (.array k e)=>match P.info? e with
   | some i=>some (.p (.slA x k i.size lo hi mx))
   | none=>none
  | some x,some lo,some hi,some none,some .string=>some (.p (.vf (.ssl lo.isSome hi.isSome) (x :: (lo.toList++hi.toList))))
  | _,_,_,_,_=>none
 | .makeFunc fn first B=>match U7 n first.toList,U7 n B.toList with
  | some f,some c=>some (.p (.mkf fn f c))
  | _,_=>none
 | .makeInterface t x=>match W13 n x,P.underlying t with
  | some _,some (.interface _)=>none
  | some x,some _=>some (.p (.mki t x))
  | _,_=>none
 | .load t x=>match W13 n x,E8 P t with
  | some x,some sh=>some (.r (.ld x sh))
  | _,_=>none
 | .lookup t x ix ok=>match W13 n x,W13 n ix,P.underlying t with
  | some x,some ix,some (.map key elem)=>match P.underlying key,P.info? elem with
   | some kd,some ie=>match ie.zero with
    | some z=>cond (X7 z) (some (.r (.lk kd z x ix ok))) none
    | none=>none
   | _,_=>none
  | _,_,_=>none
 | .convert E dst x=>match W13 n x,P.underlying E,P.underlying dst with
  | some x,some (.int _),some (.int k)=>some (.r (.convI k x))
  | some x,some (.slice e),some .string=>match P.underlying e with
   | some (.int .u8)=>some (.r (.str x))
   | _=>some (.r (.conv x o))
  | some x,some _,some _=>some (.r (.conv x o))
  | _,_,_=>none
 | .alloc e=>(M10 P e).map fun z => .a (cond (C144 P e) (.allocT e z) (.alloc z))
 | .box _ x=>(W13 n x).map fun x => .a (.box x)
 | .buildSlice t len parts=>match P.underlying t,R16 n parts.toList with
  | some (.slice e),some ps=>match M10 P e,P.info? e with
   | some z,some i=>cond (dD (len*i.size) 16777216) (some (.a (.bsl len i.size z ps))) none
   | _,_=>none
  | _,_=>none
 | .makeSlice t l c=>match W13 n l,W13 n c,P.underlying t with
  | some l,some c,some (.slice e)=>match M10 P e,P.info? e with
   | some z,some i=>cond (dD i.bytes 100000) (some (.a (.msl l c z))) none
   | _,_=>none
  | _,_,_=>none
 | .makeMap t r=>match B71 n r,P.underlying t with
  | some r,some (.map _ _)=>some (.a (.mmap r))
  | _,_=>none
 | .store t x v=>match W13 n x,W13 n v,P.info? t with
  | some x,some v,some i=>some (.e (.st x v i.size))
  | _,_,_=>none
 | .mapUpdate t m k v=>match W13 n m,W13 n k,W13 n v,P.underlying t with
  | some m,some k,some v,some (.map key _)=>(P.underlying key).map fun kd => .e (.upd kd m k v)
  | _,_,_,_=>none
 | .call c=>match c.callee with
  | .value f=>match W13 n f,U7 n c.args.toList with
   | some f,some xs=>some (.e (.call f xs))
   | _,_=>none
  | .builtin .append=>match c.argTypes.toList,c.args.toList with
   | t :: u :: _,s :: x :: _=>match W13 n s,W13 n x,P.underlying t,P.underlying u with
    | some s,some x,some (.slice e),some ud=>match M10 P e,P.info? e with
     | some _,some i=>(match ud with
      | .int _=>none
      | _=>cond (dE 0 i.size&&dE i.size 1000) (match P.underlying e with
       | some (.int .u8)=>some (.e (.appT s x (e+1) i.size i.bytes))
       | _=>some (.e (.app s x i.size i.bytes))) none)
     | _,_=>none
    | _,_,_,_=>none
   | _,_=>none
  | .builtin .copy=>match c.argTypes.toList,c.args.toList with
   | t :: _,s :: x :: _=>match W13 n s,W13 n x,P.underlying t with
    | some s,some x,some (.slice e)=>(P.info? e).map fun i => .e (.copy s x i.size)
    | _,_,_=>none
   | _,_=>none
  | .builtin .len=>match c.argTypes.toList,c.args.toList with
   | [t],[x]=>match W13 n x,P.underlying t with
    | some x,some (.slice _)=>some (.r (.len x 0))
    | some x,some .string=>some (.r (.len x 1))
    | some x,some (.map _ _)=>some (.r (.len x 2))
    | _,_=>none
   | _,_=>none
  | .builtin .min=>(U7 n c.args.toList).map fun xs => .p (.vf (.mm false) xs)
  | .builtin .max=>(U7 n c.args.toList).map fun xs => .p (.vf (.mm true) xs)
  | .builtin .clear=>match c.argTypes.toList,c.args.toList with
   | [t],[x]=>match W13 n x,P.underlying t with
    | some x,some (.map _ _)=>some (.e (.clrM x))
    | some x,some (.slice e)=>(M10 P e).map fun z => .e (.clrS x z)
    | _,_=>none
   | _,_=>none
  | _=>none
 | .sliceToArrayPointer J x=>match W13 n x,P.underlying J with
  | some x,some (.array k _)=>some (.p (.vf (.s2a k) [x]))
  | _,_=>none
 | .insert t m k v=>match W13 n m,W13 n k,W13 n v,P.underlying t with
  | some m,some k,some v,some (.map key _)=>(P.underlying key).map fun kd => .e (.upd kd m k v)
  | _,_,_,_=>none
 | _=>none
def W18(P:Program)(n:Nat)(o:Oper):Option I:=
 match G19 P n o with
 | some i=>some i
 | none=>some (.p (.vf .bad []))
theorem E20{P:Program}{n:Nat}{o:Oper}{i:I}(h:W18 P n o=some i):G19 P n o=some i\/i = .p (.vf .bad []):=by
 unfold W18 at h
 split at h
 .cases h;exact .inl O1
 .cases h;exact .inr rfl
structure S where
 guard:Option (Nat × Bool)
 dst:Option Nat
 i:I
def W16(n:Nat)(ops:List Oper):Option (Nat × Bool)->Option (Option (Nat × Bool))
 | none=>some none
 | some (j,want)=>match R8 ops j with
  | some o=>match o.dst with
   | some t=>cond (dE t n) (some (some (t,want))) none
   | none=>none
  | none=>none
def E42(n:Nat):Option Tmp->Option (Option Nat)
 | none=>some none
 | some t=>cond (dE t n) (some (some t)) none
def K16(P:Program)(n:Nat)(ops:List Oper)(o:Oper):Option S:=
 match W16 n ops o.guard,E42 n o.dst,W18 P n o with
 | some g,some d,some i=>some ⟨g,d,i⟩
 | _,_,_=>none
def R3(P:Program)(n:Nat)(ops:List Oper):List Oper->Option (List S)
 | []=>some []
 | o :: l=>match K16 P n ops o,R3 P n ops l with
  | some s,some l=>some (s :: l)
  | _,_=>none
def Q1(acc:List Nat)(es:List Edge)(m:Nat):Nat:=
 match es with
 | []=>m
 | e :: es=>cond (fH .any e)
  (Q1 acc es (m ||| 2^e.on ||| (match R8 acc e.on with | some x=>x | none=>0)))
  (Q1 acc es m)
def D26{β:Type}(acc:List Nat)(ops:List Oper)(f:List Nat->β):β:=
 match ops with
 | []=>f acc
 | o :: ops=>M2 (Q1 acc o.after.toList 0) fun m=>D26 (acc++[m]) ops f
def U1(ops:List Oper):List Nat:=D26 [] ops id
def D2(ms:List Nat)(i j:Nat):Bool:=
 match R8 ms i with
 | some m=>Nat.testBit m j
 | none=>false
def J17(ops:List Oper)(o:Oper):List Tmp:=
 (o.op.operands.toList.filterMap fun x=>match x with | .tmp t=>some t | _=>none) ++
 (match o.guard with
  | some (g,_)=>match R8 ops g with
   | some o=>o.dst.toList
   | none=>[]
  | none=>[])
def E13(ms:List Nat)(ops:List Oper):List Oper->Nat->Bool
 | [],_=>true
 | o :: rest,i=>
  (ops.zipIdx.all fun(oj,j)=>match oj.dst with
   | none=>true
   | some d=>bR i j || ((!(o.dst==some d))&&(!((J17 ops o).contains d) || D2 ms i j || D2 ms j i))) &&
  (match o.guard with
   | none=>true
   | some (g,_)=>D2 ms i g&&dE g i) &&
  (match o.dst with
   | none=>true
   | some d => !(J17 ops o).contains d) &&
  o.after.toList.all (fun e => !fH .any e || dE e.on i) &&
  E13 ms ops rest (i+1)
structure Rd where
 i:Nat
 r:IR
 T:K0 Value
 v:Value
def Y3(ms:List Nat)(es:List Nat)(j:Nat):Bool:=es.any fun e=>D2 ms e j
def U13{β:Type}(ms:List Nat)(N:Nat)(es:List Nat)(i:Nat)(H:Y0)(f:Y0->β):List (Nat × V3)->β
 | []=>f H
 | (j,b) :: as=>cond (D2 ms i j && !Y3 ms es j)
  (E6 H (N+j) (some b) fun H=>U13 ms N es i H f as)
  (U13 ms N es i H f as)
mutual
def veq:Nat->Value->Value->Bool
 | 0,_,_=>false
 | n+1,x,y=>match x,y with
  | .bool a,.bool b=>a==b
  | .int j a,.int k b=>eqK j k&&eqI a b
  | .float j a,.float k b=>decide (j=k)&&bR a b
  | .string a,.string b=>decide (a=b)
  | .pointer a,.pointer b=>decide (a=b)
  | .slice a l c,.slice a' l' c'=>decide (a=a')&&bR l l'&&bR c c'
  | .map a,.map b=>decide (a=b)
  | .nilFunc,.nilFunc=>true
  | .nilIface,.nilIface=>true
  | .func f x y,.func f' x' y'=>decide (f=f')&&D25 n x.toList x'.toList&&D25 n y.toList y'.toList
  | .iface t v,.iface t' v'=>bR t t'&&veq n v v'
  | .agg a,.agg b=>D25 n a.toList b.toList
  | .tuple a,.tuple b=>D25 n a.toList b.toList
  | _,_=>false
def D25:Nat->List Value->List Value->Bool
 | 0,_,_=>false
 | n+1,x,y=>match x,y with
  | [],[]=>true
  | a :: x,b :: y=>veq n a b&&D25 n x y
  | _,_=>false
end
def E22(P:Program)(ms:List Nat)(N:Nat)(as:List (Nat × V3))(r:Rd):List Nat->List Y0->Y0->List Nat->Bool
 | es,Ms,M,later=>
  (cond (es.any (fun e=>D2 ms e r.i) || later.any (fun e=>D2 ms r.i e)) true
   (U13 ms N es r.i M (fun h=>M9 P r.r r.T h false fun v=>veq 64 v r.v) as)) &&
  (match es,Ms with
   | e :: es',M' :: Ms'=>cond (D2 ms r.i e) true (E22 P ms N as r es' Ms' M' (e :: later))
   | [],[]=>true
   | _,_=>false)
def Z13{β:Type}(ms:List Nat)(N:Nat)(es:List Nat)(H:Y0)(f:Y0->β):List (Nat × V3)->β
 | []=>f H
 | (j,b) :: as=>cond (Y3 ms es j) (Z13 ms N es H f as) (E6 H (N+j) (some b) fun H=>Z13 ms N es H f as)
def E4(d:Nat)(dst:Option Nat)(v:Value)(T:K0 Value)(k:K0 Value->β):β:=
 match dst with
 | none=>k T
 | some t=>E9 d T t v k
def V8(g:Option (Nat × Bool))(T:K0 Value)(z B no:β):β:=
 match g with
 | none=>B
 | some (t,want)=>N9 T t no fun v=>match v with
  | .bool b=>ifK (cond b want (!want)) B no
  | .chan _=>z
  | _=>no
def Z4{β:Type}(P:Program)(d:Nat)(call:Z3 β)(ms:List Nat)(N:Nat)(z:β)(k:K0 Value->Y0->Nat->List Y0->List Nat->List (Nat × V3)->List Rd->β):
  List S->Nat->K0 Value->Y0->Nat->List Y0->List Nat->List (Nat × V3)->List Rd->β
 | [],_,T,H,nx,Ms,es,as,rs=>k T H nx Ms es as rs
 | ⟨g,dst,op⟩ :: l,i,T,H,nx,Ms,es,as,rs=>V8 g T z
  (match op with
   | .p op=>X4 P op T z fun v=>E4 d dst v T fun T=>Z4 P d call ms N z k l (i+1) T H nx Ms es as rs
   | .r op=>U13 ms N es i H (fun h=>M9 P op T h z fun v=>E4 d dst v T fun T'=>Z4 P d call ms N z k l (i+1) T' H nx Ms es as (⟨i,op,T,v⟩ :: rs)) as
   | .a op=>evA op T z fun b y=>M2 (N+i) fun q=>M0 (y.val q) fun v=>E4 d dst v T fun T=>Z4 P d call ms N z k l (i+1) T H nx Ms es ((i,b) :: as) rs
   | .e op=>cond (es.all fun e=>D2 ms i e)
    (U13 ms N es i H (fun h=>D6 op call T h nx z fun v H' nx=>E4 d dst v T fun T=>Z4 P d call ms N z k l (i+1) T H' nx (H :: Ms) (i :: es) as rs) as) z)
  (E4 d dst undef T fun T=>Z4 P d call ms N z k l (i+1) T H nx Ms es as rs)
inductive C where
 | skip
 | ops (l:List S)
 | draw (ms:List Nat) (l:List S)
 | seq (a b:C)
 | cond (x:X) (t e:C)
 | block (id:Nat) (c:C)
 | loop (c:C)
 | exit (id:Nat)
 | ret
def R18(P:Program)(n:Nat):Code->Option C
 | .skip | .label _=>some .skip
 | .region _ ops draw=>match R3 P n ops.toList ops.toList with
  | some l=>(match draw with
   | false=>some (.ops l)
   | true=>cond (E13 (U1 ops.toList) ops.toList ops.toList 0) (some (.draw (U1 ops.toList) l)) none)
  | none=>none
 | .seq a b=>match R18 P n a,R18 P n b with
  | some a,some b=>some (.seq a b)
  | _,_=>none
 | .cond x t e=>match W13 n x,R18 P n t,R18 P n e with
  | some x,some t,some e=>some (.cond x t e)
  | _,_,_=>none
 | .block id c=>(R18 P n c).map (.block id)
 | .loop c=>(R18 P n c).map .loop
 | .scope c=>R18 P n c
 | .exit id=>some (.exit id)
 | .ret=>some .ret
 | _=>none
def C54(i:IP)(P:Program)(d:Nat)(dst:Option Nat)(_:Z3 β)(T:K0 Value)(H:Y0)(nx:Nat)(z:β)(k:K0 Value->Y0->Nat->β):β:=
 X4 P i T z fun v=>E4 d dst v T fun T=>k T H nx
def K56(i:IR)(P:Program)(d:Nat)(dst:Option Nat)(_:Z3 β)(T:K0 Value)(H:Y0)(nx:Nat)(z:β)(k:K0 Value->Y0->Nat->β):β:=
 M9 P i T H z fun v=>E4 d dst v T fun T=>k T H nx
def J36(d:Nat)(dst:Option Nat)(T:K0 Value)(H:Y0)(nx:Nat)(k:K0 Value->Y0->Nat->β)(b:V3)(y:Q0):β:=
 E6 H nx (some b) fun H=>M2 (nx+1) fun n=>X13 (y.val nx) fun v=>E4 d dst v T fun T=>k T H n
def Z42(i:IA)(_:Program)(d:Nat)(dst:Option Nat)(_:Z3 β)(T:K0 Value)(H:Y0)(nx:Nat)(z:β)(k:K0 Value->Y0->Nat->β):β:=
 evA i T z (J36 d dst T H nx k)
def N53(i:IE)(_:Program)(d:Nat)(dst:Option Nat)(call:Z3 β)(T:K0 Value)(H:Y0)(nx:Nat)(z:β)(k:K0 Value->Y0->Nat->β):β:=
 D6 i call T H nx z fun v H nx=>E4 d dst v T fun T=>k T H nx
def V30(i:I):Program->Nat->Option Nat->Z3 β->K0 Value->Y0->Nat->β->(K0 Value->Y0->Nat->β)->β:=
 @I.rec (fun _=>Program->Nat->Option Nat->Z3 β->K0 Value->Y0->Nat->β->(K0 Value->Y0->Nat->β)->β) C54 K56 Z42 N53 i
def U18(P:Program)(d:Nat)(call:Z3 β)(s:S)(T:K0 Value)(H:Y0)(nx:Nat)(z:β)(k:K0 Value->Y0->Nat->β):β:=
 @S.rec (fun _=>β) (fun g dst op=>V8 g T z (V30 op P d dst call T H nx z k) (E4 d dst undef T fun T=>k T H nx)) s
def C9(P:Program)(d:Nat)(call:Z3 β)(z:β)(k:K0 Value->Y0->Nat->β)(l:List S):K0 Value->Y0->Nat->β:=
 @List.rec S (fun _=>K0 Value->Y0->Nat->β) k (fun s _ ih T H nx=>U18 P d call s T H nx z ih) l
abbrev K(β:Type):=K0 Value->Y0->Nat->β
abbrev E12(β:Type):=List Nat->Nat->List (Nat × V3)->List Rd->List Nat->List Y0->Y0->β->β->β
abbrev E15(β:Type):=β->(K β->K β)->K β
def D43(P:Program):E12 β:=fun ms N as rs es Ms H y z=>cond (rs.all fun r=>E22 P ms N as r es Ms H []) y z
def N45(m:Nat):E15 β:=fun z f=>@fC (fun _=>K β) (fun _ _ _=>z) (fun _ ih=>f ih) m
def Z28(P:Program)(d:Nat)(call:Z3 β)(B:E12 β)(z:β)(ms:List Nat)(l:List S)(T:K0 Value)(H:Y0)(nx:Nat)(k:K β):β:=
 M2 (nx+l.length) fun nx'=>
  Z4 P d call ms nx z (fun T H n Ms es as rs=>B ms nx as rs es Ms H (Z13 ms nx es H (fun H=>k T H n) as) z) l 0 T H nx' [] [] [] []
def X71(l:List S)(P:Program)(d:Nat)(call:Z3 β)(_:E12 β)(_:E15 β)(z:β)(T:K0 Value)(H:Y0)(nx:Nat)(k:K β)(_:Nat->K β)(_:K β):β:=
 C9 P d call z k l T H nx
def V70(ms:List Nat)(l:List S)(P:Program)(d:Nat)(call:Z3 β)(B:E12 β)(_:E15 β)(z:β)(T:K0 Value)(H:Y0)(nx:Nat)(k:K β)(_:Nat->K β)(_:K β):β:=
 Z28 P d call B z ms l T H nx k
abbrev CK(β:Type):=Program->Nat->Z3 β->E12 β->E15 β->β->K0 Value->Y0->Nat->K β->(Nat->K β)->K β->β
def Y71(_ _:C)(a b:CK β)(P:Program)(d:Nat)(call:Z3 β)(B:E12 β)(fx:E15 β)(z:β)(T:K0 Value)(H:Y0)(nx:Nat)(k:K β)(x:Nat->K β)(r:K β):β:=
 a P d call B fx z T H nx (fun T H nx=>b P d call B fx z T H nx k x r) x r
def U70(c:X)(_ _:C)(t e:CK β)(P:Program)(d:Nat)(call:Z3 β)(B:E12 β)(fx:E15 β)(z:β)(T:K0 Value)(H:Y0)(nx:Nat)(k:K β)(x:Nat->K β)(r:K β):β:=
 W4 T c fun v=>match v with
  | .bool b=>ifK b (t P d call B fx z T H nx k x r) (e P d call B fx z T H nx k x r)
  | _=>z
def Z69(id:Nat)(_:C)(c:CK β)(P:Program)(d:Nat)(call:Z3 β)(E:E12 β)(fx:E15 β)(z:β)(T:K0 Value)(H:Y0)(nx:Nat)(k:K β)(x:Nat->K β)(r:K β):β:=
 c P d call E fx z T H nx k (fun B T H nx=>cond (bR B id) (k T H nx) (x B T H nx)) r
def D70(_:C)(c:CK β)(P:Program)(d:Nat)(call:Z3 β)(B:E12 β)(fx:E15 β)(z:β)(T:K0 Value)(H:Y0)(nx:Nat)(_:K β)(x:Nat->K β)(r:K β):β:=
 fx z (fun ih T H nx=>c P d call B fx z T H nx ih x r) T H nx
def N6(c:C):CK β:=
 @C.rec (fun _=>CK β)
  (fun _ _ _ _ _ _ T H nx k _ _=>k T H nx)
  X71 V70 Y71 U70 Z69 D70
  (fun id _ _ _ _ _ _ T H nx _ x _=>x id T H nx)
  (fun _ _ _ _ _ _ T H nx _ _ r=>r T H nx) c
def M17(P:Program)(n:Nat):List ResultVar->Option (List (X × Option (Option Nat)))
 | []=>some []
 | r :: rs=>match (match r with
   | .tmp t=>cond (dE t n) (some (X.s t,none)) none
   | .cell a t=>cond (dE a n) ((E8 P t).map fun sh=>(X.s a,some sh)) none),M17 P n rs with
  | some r,some rs=>some (r :: rs)
  | _,_=>none
structure CF where
 n:Nat
 d:Nat
 body:C
 res:List (X × Option (Option Nat))
def cfn(P:Program)(f:FuncId):Option CF:=
 match R8 P.funcs.toList f with
 | some fn=>match fn.body with
  | some c=>match R18 P fn.ntmps c,M17 P fn.ntmps fn.results.toList with
   | some body,some res=>some ⟨fn.ntmps,iG fn.ntmps+1,body,res⟩
   | _,_=>none
  | none=>none
 | none=>none
def W24{β:Type}(P:Program)(T:K0 Value)(H:Y0)(z:β)(k:List Value->β):List (X × Option (Option Nat))->β
 | []=>k []
 | (x,sh) :: rs=>match sh with
  | none=>W4 T x fun v=>W24 P T H z (fun vs=>k (v :: vs)) rs
  | some sh=>M9 P (.ld x sh) T H z fun v=>W24 P T H z (fun vs=>k (v :: vs)) rs
def tup(vs:List Value):Value:=
 match vs with
 | [v]=>v
 | vs => .tuple ⟨vs⟩
def J27{β:Type}(d:Nat)(l:List Value)(i:Nat)(T:K0 Value)(f:K0 Value->β):β:=
 match l with
 | []=>f T
 | v :: l=>E9 d T i v fun T=>J27 d l (i+1) T f
abbrev Orc:=FuncId->Option (List Value->Y0->Nat->Option (Value × Y0 × Nat))
def G14(P:Program)(res:List (X × Option (Option Nat)))(z:β)(k:Value->Y0->Nat->β)(T:K0 Value)(H:Y0)(nx:Nat):β:=
 W24 P T H z (fun vs=>M0 (tup vs) fun v=>k v H nx) res
def W28(P:Program)(call:Z3 β)(B:E12 β)(fx:E15 β)(args:List Value)(H:Y0)(nx:Nat)(z:β)(k:Value->Y0->Nat->β)(n d:Nat)(body:C)(res:List (X × Option (Option Nat))):β:=
 cond (dD args.length n)
  (J27 d args 0 .leaf fun T=>N6 body P d call B fx z T H nx (G14 P res z k) (fun _ _ _ _=>z) (G14 P res z k)) z
def K42(P:Program)(B:Orc)(n:Nat):Z3 β:=
 @fC (fun _=>Z3 β) (fun _ _ _ _ z _=>z)
  (fun _ ih f args H nx z k=>match B f with
   | some o=>(match o args H nx with
    | some (v,H,nx)=>k v H nx
    | none=>z)
   | none=>match cfn P f with
    | some ⟨n,d,body,res⟩=>W28 P ih (D43 P) (N45 1000000) args H nx z k n d body res
    | none=>z) n
def K134:Orc:=fun _=>none
def U46(P:Program)(B:Orc)(n:Nat)(f:FuncId)(args:List Value):Option Value:=
 K42 P B n f args .leaf 0 none fun v _ _=>some v
end
section
variable {H:Y0} {b nx r s size sl tag:Nat} {e:TypeId} {l l':List Value} {v v' z:Value} {w w':World} {α β:Type}
def tg(T:K0 α)(t:Nat):Option α:=N9 T t none some
def ts(d:Nat)(T:K0 α)(i:Nat)(a:α):K0 α:=E9 d T i a id
def WF{α:Type}:Nat->K0 α->Prop
 | _,.leaf=>True
 | 0,.tip _=>True
 | d+1,.node l r=>WF d l/\WF d r
 | _,_=>False
theorem Y32(l r:K0 α)(t:Nat)(z:β)(k:α->β):
  N9 (.node l r) t z k=if t%2=0 then N9 l (t/2) z k else N9 r (t/2) z k:=by
 show @fC (fun _=>β) (N9 l (fR t 2) z k) (fun _ _=>N9 r (fR t 2) z k) (Nat.mod t 2)=_;show @fC (fun _=>β) (N9 l (t/2) z k) (fun _ _=>N9 r (t/2) z k) (t%2)=_;rcases dZ t with h | h<;>rw[h]<;>rfl
theorem J11(T:K0 α):∀(t:Nat) (z:β) (k:α->β),N9 T t z k=(tg T t).elim z k:=by
 induction T with
 | leaf=>intros;rfl
 | tip a=>intros;rfl
 | node l r E B=>
  intro t z k;unfold tg;rw[Y32,Y32]
  split
  .exact E _ _ _
  .exact B _ _ _
theorem G36(l r:K0 α)(t:Nat):tg (.node l r) t=if t%2=0 then tg l (t/2) else tg r (t/2):=Y32 l r t none some
@[simp] theorem K71 {α:Type} (t:Nat):tg (.leaf:K0 α) t=none:=rfl
@[simp] theorem J71 {α:Type} (a:α) (t:Nat):tg (.tip a) t=some a:=rfl
theorem X31(d:Nat)(T:K0 α)(i:Nat)(a:α)(k:K0 α->β):
  E9 (d+1) T i a k=match T with
   | .node l r=>if i%2=0 then E9 d l (i/2) a fun l=>k (.node l r) else E9 d r (i/2) a fun r=>k (.node l r)
   | _=>if i%2=0 then E9 d .leaf (i/2) a fun l=>k (.node l .leaf) else E9 d .leaf (i/2) a fun r=>k (.node .leaf r):=by
 cases T with
 | leaf=>
  show @fC (fun _=>β) (E9 d .leaf (i/2) a fun l=>k (.node l .leaf)) (fun _ _=>E9 d .leaf (i/2) a fun r=>k (.node .leaf r)) (i%2)=_;rcases dZ i with h | h<;>rw[h]<;>rfl
 | tip b=>
  show @fC (fun _=>β) (E9 d .leaf (i/2) a fun l=>k (.node l .leaf)) (fun _ _=>E9 d .leaf (i/2) a fun r=>k (.node .leaf r)) (i%2)=_;rcases dZ i with h | h<;>rw[h]<;>rfl
 | node l r=>
  show @fC (fun _=>β) (E9 d l (i/2) a fun l=>k (.node l r)) (fun _ _=>E9 d r (i/2) a fun r=>k (.node l r)) (i%2)=_;rcases dZ i with h | h<;>rw[h]<;>rfl
theorem Z15(d:Nat):∀ {β:Type} (T:K0 α) (i:Nat) (a:α) (k:K0 α->β),E9 d T i a k=k (ts d T i a):=by
 induction d with
 | zero=>intros;rfl
 | succ d ih=>
  intro β T i a k;unfold ts;rw[X31,X31]
  cases T<;>(dsimp only;split<;>rw[ih,ih]<;>rfl)
theorem R36(d:Nat)(T:K0 α)(i:Nat)(a:α):
  ts (d+1) T i a=match T with
   | .node l r=>if i%2=0 then .node (ts d l (i/2) a) r else .node l (ts d r (i/2) a)
   | _=>if i%2=0 then .node (ts d .leaf (i/2) a) .leaf else .node .leaf (ts d .leaf (i/2) a):=by
 unfold ts;rw[X31]
 cases T<;>(dsimp only;split<;>rw[Z15]<;>rfl)
theorem U16(d:Nat):∀(T:K0 α) (i:Nat) (a:α),WF d T->WF d (ts d T i a):=by
 induction d with
 | zero=>intros;trivial
 | succ d ih=>
  intro T i a h;rw[R36]
  cases T with
  | leaf=>dsimp only;split<;>simp[WF,ih _ _ _ (show WF d (.leaf:K0 α) by cases d<;>trivial)]<;>(cases d<;>trivial)
  | tip b=>exact h.elim
  | node l r=>dsimp only;split<;>simp only[WF]<;>simp[WF] at h<;>simp[h,ih]
theorem K21(d:Nat):∀(T:K0 α) (i j:Nat) (a:α),WF d T->i<2^d->j<2^d ->
  tg (ts d T i a) j=if j=i then some a else tg T j:=by
 induction d with
 | zero=>
  intro T i j a _ hi hj;have:j=i:=by simp at hi hj;omega
  simp[this];rfl
 | succ d ih=>
  intro T i j a h hi hj;have B:i/2<2^d:=by rw[dR] at hi;omega
  have E:j/2<2^d:=by rw[dR] at hj;omega
  have wl:WF d (.leaf:K0 α):=by cases d<;>trivial
  rw[R36]
  cases T with
  | leaf=>
   dsimp only
   by_cases hp:i%2=0<;>by_cases hq:j%2=0<;>simp only[hp,hq,if_true,if_false,G36]
   .rw[ih _ _ _ _ wl B E]
    by_cases e:j=i
    .simp[e]
    .have:j/2≠i/2:=O0
     simp[e,this]
   .have e:j≠i:=O0
    simp[e]
   .have e:j≠i:=O0
    simp[e]
   .rw[ih _ _ _ _ wl B E]
    by_cases e:j=i
    .simp[e]
    .have:j/2≠i/2:=O0
     simp[e,this]
  | tip b=>exact h.elim
  | node l r=>
   obtain⟨hl,hr⟩:=h;dsimp only
   by_cases hp:i%2=0<;>by_cases hq:j%2=0<;>simp only[hp,hq,if_true,if_false,G36]
   .rw[ih _ _ _ _ hl B E]
    by_cases e:j=i
    .simp[e]
    .have:j/2≠i/2:=O0
     simp[e,this]
   .have e:j≠i:=O0
    simp[e]
   .have e:j≠i:=O0
    simp[e]
   .rw[ih _ _ _ _ hr B E]
    by_cases e:j=i
    .simp[e]
    .have:j/2≠i/2:=O0
     simp[e,this]
theorem G1{β:Type}(n:Nat)(f:Nat->β):M2 n f=f n:=by cases n<;>rfl
theorem J21(n:Int)(f:Int->β):Q16 n f=f n:=by cases n<;>simp[Q16,G1]
theorem B21(b:Bool)(f:Bool->β):V13 b f=f b:=by cases b<;>rfl
theorem J60(a:Option Addr)(f:Option Addr->β):E35 a f=f a:=by
 cases a with
 | none=>rfl
 | some a=>obtain⟨b,o,s⟩:=a;cases s<;>simp[E35,G1]
theorem E7(v:Value)(f:Value->β):X13 v f=f v:=by
 cases v<;>simp[X13,B21,J21,J60,G1]
 case map r=>cases r<;>simp[]
theorem C20(l:List Value):∀(f:List Value->β),M22 l f=f l:=by
 induction l with
 | nil=>intro f;rfl
 | cons v l ih=>intro f;simp[M22,E7,ih]
theorem Y5{β:Type}(v:Value)(f:Value->β):M0 v f=f v:=by
 cases v<;>simp[M0,E7,C20]
theorem V14(l:List α):∀(f:List α->β),spine l f=f l:=by
 induction l with
 | nil=>intro f;rfl
 | cons v l ih=>intro f;simp[spine,ih]
theorem Q8{α:Type}:∀(l:List α) (n:Nat),R8 l n=l[n]?
 | [],n=>by cases n<;>rfl
 | a :: l,0=>rfl
 | a :: l,n+1=>by simp[R8,Q8 l n]
theorem Z12(l:List α):∀(n:Nat) (z:β) (k:α->β),C30 l n z k=(l[n]?).elim z k:=by
 induction l with
 | nil=>intro n z k;cases n<;>rfl
 | cons a l ih=>
  intro n z k
  cases n with
  | zero=>rfl
  | succ n=>show C30 l n z k=_;rw[ih];simp
theorem E14(b:Bool)(x y:β):ifK b x y=if b then x else y:=by cases b<;>rfl
structure J7 where
 blk:Nat
 base:Nat
 sz:Nat
 esz:Nat
 rsz:Nat
abbrev FM:=Nat->Option J7
def FM.le(F F':FM):Prop:=∀ i t,F i=some t->F' i=some t
abbrev C34:Value := .chan none
inductive VR (F:FM):Value->Value->Prop
 | any (v:Value):VR F C34 v
 | bool (b:Bool):VR F (.bool b) (.bool b)
 | int (k:IntKind) (n:Int):VR F (.int k n) (.int k n)
 | float (k:FloatKind) (n:Nat):VR F (.float k n) (.float k n)
 | complex (k:FloatKind) (n m:Nat):VR F (.complex k n m) (.complex k n m)
 | string (s:ByteArray):VR F (.string s) (.string s)
 | ptrN:VR F (.pointer none) (.pointer none)
 | ptr {b o:Nat} {t:J7} (h:F b=some t):VR F (.pointer (some ⟨b,o,none⟩)) (.pointer (some ⟨t.blk,t.base+o,none⟩))
 | sliceN (n c:Nat):VR F (.slice none n c) (.slice none n c)
 | slice {b o n c c':Nat} {t:J7} (h:F b=some t) (hc:c'=c\/(0<t.esz/\c<=c'/\o+c*t.esz=t.sz/\t.base+o+c'*t.esz<=t.rsz/\c'<=9223372036854775807)):
   VR F (.slice (some ⟨b,o,none⟩) n c) (.slice (some ⟨t.blk,t.base+o,none⟩) n c')
 | sliceW (s:Nat) (a:Addr):VR F (.slice (some ⟨0,0,some s⟩) 0 0) (.slice (some a) 0 0)
 | mapN:VR F (.map none) (.map none)
 | map {r:Nat} {t:J7} (h:F r=some t):VR F (.map (some r)) (.map (some t.blk))
 | func (fn:Fn) {x x' y y':Array Value} (h1:x.size=x'.size) (h2:∀(i:Nat) (v v':Value),x[i]? = some v->x'[i]? = some v'->VR F v v')
   (h3:y.size=y'.size) (h4:∀(i:Nat) (v v':Value),y[i]? = some v->y'[i]? = some v'->VR F v v'):VR F (.func fn x y) (.func fn x' y')
 | nilFunc:VR F .nilFunc .nilFunc
 | iface (t:TypeId) {v v':Value} (h:VR F v v'):VR F (.iface t v) (.iface t v')
 | nilIface:VR F .nilIface .nilIface
 | agg {x x':Array Value} (h1:x.size=x'.size) (h2:∀(i:Nat) (v v':Value),x[i]? = some v->x'[i]? = some v'->VR F v v'):VR F (.agg x) (.agg x')
 | tuple {x x':Array Value} (h1:x.size=x'.size) (h2:∀(i:Nat) (v v':Value),x[i]? = some v->x'[i]? = some v'->VR F v v'):VR F (.tuple x) (.tuple x')
theorem VR.mono{F F':FM}(hF:F.le F')(h:VR F v v'):VR F' v v':=by
 induction h with
 | any v=>exact .any v
 | bool b=>exact .bool b
 | int k n=>exact .int k n
 | float k n=>exact .float k n
 | complex k n m=>exact .complex k n m
 | string s=>exact .string s
 | ptrN=>exact .ptrN
 | ptr h=>exact .ptr (hF _ _ h)
 | sliceN n c=>exact .sliceN n c
 | slice h hc=>exact .slice (hF _ _ h) hc
 | sliceW s a=>exact .sliceW s a
 | mapN=>exact .mapN
 | map h=>exact .map (hF _ _ h)
 | func fn h1 _ h3 _ i2 i4=>exact .func fn h1 i2 h3 i4
 | nilFunc=>exact .nilFunc
 | iface t _ ih=>exact .iface t ih
 | nilIface=>exact .nilIface
 | agg h1 _ ih=>exact .agg h1 ih
 | tuple h1 _ ih=>exact .tuple h1 ih
inductive VL (F:FM):List Value->List Value->Prop
 | nil:VL F [] []
 | cons {v v':Value} {l l':List Value} (h:VR F v v') (t:VL F l l'):VL F (v :: l) (v' :: l')
theorem VL.length{F:FM}{l l':List Value}(h:VL F l l'):l.length=l'.length:=by
 induction h with
 | nil=>rfl
 | cons _ _ ih=>simp[ih]
theorem VL.get{F:FM}(h:VL F l l'):∀(i:Nat) (v v':Value),l[i]? = some v->l'[i]? = some v'->VR F v v':=by
 induction h with
 | nil=>intro i v v' h;simp at h
 | cons h _ ih=>
  intro i v v' h1 h2
  cases i with
  | zero=>simp at h1 h2;subst h1;subst h2;exact h
  | succ i=>exact ih i v v' (by simpa using h1) (by simpa using h2)
theorem VL.of{F:FM}:∀ {l l':List Value},l.length=l'.length->(∀(i:Nat) (v v':Value),l[i]? = some v->l'[i]? = some v'->VR F v v')->VL F l l'
 | [],[],_,_ => .nil
 | [],_ :: _,h,_=>by simp at h
 | _ :: _,[],h,_=>by simp at h
 | a :: l,a' :: l',h,g => .cons (g 0 a a' O2 O2) (VL.of (by simpa using h) fun i v v' h1 h2=>g (i+1) v v' (by simpa using h1) (by simpa using h2))
theorem VL.some{F:FM}{l l':List Value}(h:VL F l l'){i:Nat}{v:Value}(hv:l[i]? = some v):∃ v',l'[i]? = some v'/\VR F v v':=by
 have hl:=h.length;have hi:i<l.length:=by
  rcases aW i l.length with g | g
  .exact g
  .simp[aT g] at hv
 exact⟨l'[i],by simp[<- hl,hi],h.get i v _ hv (by simp[<- hl,hi])⟩
theorem VL.append{F:FM}{m m':List Value}(h:VL F l l')(g:VL F m m'):VL F (l++m) (l'++m'):=by
 induction h with
 | nil=>exact g
 | cons h _ ih=>exact .cons h ih
theorem VL.take{F:FM}{l l':List Value}(h:VL F l l'):∀ n,VL F (l.take n) (l'.take n):=by
 induction h with
 | nil=>intro n;simp;exact .nil
 | cons h _ ih=>intro n;cases n with
  | zero=>exact .nil
  | succ n=>exact .cons h (ih n)
theorem VL.drop{F:FM}{l l':List Value}(h:VL F l l'):∀ n,VL F (l.drop n) (l'.drop n):=by
 induction h with
 | nil=>intro n;simp;exact .nil
 | cons h t ih=>intro n;cases n with
  | zero=>exact .cons h t
  | succ n=>exact ih n
theorem VL.mono{F F':FM}(hF:F.le F'){l l':List Value}(h:VL F l l'):VL F' l l':=by
 induction h with
 | nil=>exact .nil
 | cons h _ ih=>exact .cons (h.mono hF) ih
theorem VR.agg'{F:FM}(h:VL F l l'):VR F (.agg ⟨l⟩) (.agg ⟨l'⟩):=
 .agg (by simpa using h.length) (fun i v v' h1 h2=>h.get i v v' (by simpa using h1) (by simpa using h2))
theorem VR.tuple'{F:FM}(h:VL F l l'):VR F (.tuple ⟨l⟩) (.tuple ⟨l'⟩):=
 .tuple (by simpa using h.length) (fun i v v' h1 h2=>h.get i v v' (by simpa using h1) (by simpa using h2))
theorem VL.ofArr{F:FM}{x x':Array Value}(h1:x.size=x'.size)(h2:∀(i:Nat) (v v':Value),x[i]? = .some v->x'[i]? = .some v'->VR F v v'):VL F x.toList x'.toList:=
 VL.of (by simpa using h1) (fun i v v' a b=>h2 i v v' (by simpa using a) (by simpa using b))
theorem VR.cells{F:FM}{v v':Value}(h:VR F v v')(B:B22 v=true):VL F v.cells.toList v'.cells.toList:=by
 cases h with
 | any v=>cases B
 | agg h1 h2=>exact VL.ofArr h1 h2
 | bool b=>exact .cons (.bool b) .nil
 | int k n=>exact .cons (.int k n) .nil
 | float k n=>exact .cons (.float k n) .nil
 | complex k n m=>exact .cons (.complex k n m) .nil
 | string s=>exact .cons (.string s) .nil
 | ptrN=>exact .cons .ptrN .nil
 | ptr h=>exact .cons (.ptr h) .nil
 | sliceN n c=>exact .cons (.sliceN n c) .nil
 | slice h hc=>exact .cons (.slice h hc) .nil
 | sliceW s a=>exact .cons (.sliceW s a) .nil
 | mapN=>exact .cons .mapN .nil
 | map h=>exact .cons (.map h) .nil
 | func fn h1 h2 h3 h4=>exact .cons (.func fn h1 h2 h3 h4) .nil
 | nilFunc=>exact .cons .nilFunc .nil
 | iface t h=>exact .cons (.iface t h) .nil
 | nilIface=>exact .cons .nilIface .nil
 | tuple h1 h2=>exact .cons (.tuple h1 h2) .nil
theorem Z36(F:FM)(v:Value)(h:M4 v=true):VR F v v:=by
 cases v with
 | bool b=>exact .bool b
 | int k n=>exact .int k n
 | float k n=>exact .float k n
 | complex k n m=>exact .complex k n m
 | string s=>exact .string s
 | pointer a=>cases a with
  | none=>exact .ptrN
  | some a=>simp[M4] at h
 | slice a n c=>cases a with
  | none=>exact .sliceN n c
  | some a=>simp[M4] at h
 | map r=>cases r with
  | none=>exact .mapN
  | some r=>simp[M4] at h
 | nilFunc=>exact .nilFunc
 | nilIface=>exact .nilIface
 | _=>simp[M4] at h
theorem J10(F:FM):∀(l:List Value),l.all M4=true->VL F l l
 | [],_ => .nil
 | v :: l,h=>by
  simp only[List.all_cons,aG] at h;exact .cons (Z36 F v h.1) (J10 F l h.2)
theorem C6(F:FM)(v:Value)(h:X7 v=true):VR F v v:=by
 cases v with
 | agg cs=>exact VR.agg' (J10 F cs.toList h)
 | tuple cs=>exact VR.tuple' (J10 F cs.toList h)
 | _=>exact Z36 F _ h
theorem C11{F:FM}(hv:VR F v v')(h:M4 v=true):v'=v:=by
 cases hv<;>simp[M4] at h<;>rfl
theorem J19{F:FM}(hv:VL F l l')(h:l.all M4=true):l'=l:=by
 induction hv with
 | nil=>rfl
 | cons hv _ ih=>
  simp only[List.all_cons,aG] at h;rw[C11 hv h.1,ih h.2]
theorem R51{F:FM}(hv:VR F v v')(h:X7 v=true):v'=v:=by
 have B:=hv
 cases hv with
 | agg h1 h2=>
  have:=J19 (VL.ofArr h1 h2) h;simp only[Value.agg.injEq];exact fB.1 this
 | tuple h1 h2=>
  have:=J19 (VL.ofArr h1 h2) h;simp only[Value.tuple.injEq];exact fB.1 this
 | _=>exact C11 B h
theorem D47(h:X7 z=true):B22 z=true:=by
 cases z<;>first | rfl | (simp[X7,M4] at h;done)
theorem G28(h:Z0 z.cells.toList=true):B22 z=true:=by
 cases z<;>first | rfl | (simp[Value.cells,Z0] at h;done)
theorem X12(h:X7 z=true)(F:FM):VL F z.cells.toList z.cells.toList:=(C6 F z h).cells (D47 h)
def J0(H:Y0)(i:Nat):Option V3:=hgK H i none some
def hs(H:Y0)(i:Nat)(b:Option V3):Y0:=E6 H i b id
theorem V26(v:Option V3)(l r:Y0)(z:β)(k:V3->β):hgK (.node v l r) 0 z k=v.elim z k:=by cases v<;>rfl
theorem Q30(v:Option V3)(l r:Y0)(j:Nat)(z:β)(k:V3->β):hgK (.node v l r) (j+1) z k=if j%2=0 then hgK l (j/2) z k else hgK r (j/2) z k:=by
 show @fC (fun _=>β) (hgK l (j/2) z k) (fun _ _=>hgK r (j/2) z k) (j%2)=_;rcases dZ j with h | h<;>rw[h]<;>rfl
theorem W70(H:Y0):∀(i:Nat) (z:β) (k:V3->β),hgK H i z k=(J0 H i).elim z k:=by
 induction H with
 | leaf=>intros;rfl
 | node v l r E B=>
  intro i z k;unfold J0
  cases i with
  | zero=>rw[V26,V26];cases v<;>rfl
  | succ j=>
   rw[Q30,Q30]
   split
   .exact E _ _ _
   .exact B _ _ _
theorem Y4(H:Y0)(i:Nat)(z:β)(k:V3->β):D12 H i z k=(J0 H i).elim z k:=W70 H i z k
theorem C40(i:Nat):J0 .leaf i=none:=rfl
theorem C17(v:Option V3)(l r:Y0):J0 (.node v l r) 0=v:=by unfold J0;rw[V26];cases v<;>rfl
theorem Y21(v:Option V3)(l r:Y0)(j:Nat):J0 (.node v l r) (j+1)=if j%2=0 then J0 l (j/2) else J0 r (j/2):=by
 unfold J0;rw[Q30]
def Y0.val:Y0->Option V3
 | .leaf=>none
 | .node v _ _=>v
def Y0.left:Y0->Y0
 | .leaf => .leaf
 | .node _ l _=>l
def Y0.right:Y0->Y0
 | .leaf => .leaf
 | .node _ _ r=>r
theorem B39(H:Y0):J0 H 0=H.val:=by
 cases H with
 | leaf=>rfl
 | node v l r=>exact C17 v l r
theorem V27(H:Y0)(j:Nat):J0 H (j+1)=if j%2=0 then J0 H.left (j/2) else J0 H.right (j/2):=by
 cases H with
 | leaf=>simp only[C40,Y0.left,Y0.right,ite_self]
 | node v l r=>exact Y21 v l r j
theorem C31(f:Nat)(H:Y0)(b:Option V3)(k:Y0->β):hsF (f+1) H 0 b k=k (.node b H.left H.right):=by
 cases H<;>rfl
theorem D31(f:Nat)(H:Y0)(j:Nat)(b:Option V3)(k:Y0->β):
  hsF (f+1) H (j+1) b k=if j%2=0 then hsF f H.left (j/2) b fun l=>k (.node H.val l H.right) else hsF f H.right (j/2) b fun r=>k (.node H.val H.left r):=by
 cases H with
 | leaf=>
  show @fC (fun _=>β) (hsF f .leaf (j/2) b fun l=>k (.node none l .leaf)) (fun _ _=>hsF f .leaf (j/2) b fun r=>k (.node none .leaf r)) (j%2)=_;rcases dZ j with h | h<;>rw[h]<;>rfl
 | node v l r=>
  show @fC (fun _=>β) (hsF f l (j/2) b fun l=>k (.node v l r)) (fun _ _=>hsF f r (j/2) b fun r=>k (.node v l r)) (j%2)=_;rcases dZ j with h | h<;>rw[h]<;>rfl
theorem J47(f:Nat):∀ {β:Type} (H:Y0) (i:Nat) (b:Option V3) (k:Y0->β),hsF f H i b k=k (hsF f H i b id):=by
 induction f with
 | zero=>intros;rfl
 | succ f ih=>
  intro β H i b k
  cases i with
  | zero=>rw[C31,C31];rfl
  | succ j=>
   rw[D31,D31]
   split
   .rw[ih,ih (k:=fun l=>id (Y0.node H.val l H.right))];rfl
   .rw[ih,ih (k:=fun r=>id (Y0.node H.val H.left r))];rfl
theorem G4{β:Type}(H:Y0)(i:Nat)(b:Option V3)(k:Y0->β):E6 H i b k=k (hs H i b):=J47 _ H i b k
theorem E59{j f:Nat}(h:iG (j+1+1)+1<=f+1):iG (j/2+1)+1<=f:=by
 have e:iG (j+2)=iG ((j+2)/2)+1:=by
  rw[Nat.log2_def,if_pos O0]
 have e2:(j+2)/2=j/2+1:=O0;rw[e2] at e;have:iG (j+1+1)=iG (j+2):=rfl;omega
theorem X64(f:Nat):∀(H:Y0) (i j:Nat) (b:Option V3),iG (i+1)+1<=f->J0 (hsF f H i b id) j=if j=i then b else J0 H j:=by
 induction f with
 | zero=>intro H i j b h;omega
 | succ f ih=>
  intro H i j b h
  cases i with
  | zero=>
   rw[C31]
   cases j with
   | zero=>rw[if_pos rfl];exact C17 _ _ _
   | succ j=>rw[if_neg O0];show J0 (.node b H.left H.right) (j+1)=_;rw[Y21,V27]
  | succ i=>
   have hf:=E59 h;rw[D31]
   split
   .rename_i hp
    rw[J47];show J0 (.node H.val (hsF f H.left (i/2) b id) H.right) j=_
    cases j with
    | zero=>rw[if_neg O0,C17,B39]
    | succ j=>
     rw[Y21,V27]
     by_cases hq:j%2=0
     .rw[if_pos hq,if_pos hq,ih _ _ _ _ hf]
      by_cases e:j=i
      .subst e;simp
      .rw[if_neg O0,if_neg O0]
     .rw[if_neg hq,if_neg hq,if_neg O0]
   .rename_i hp
    rw[J47];show J0 (.node H.val H.left (hsF f H.right (i/2) b id)) j=_
    cases j with
    | zero=>rw[if_neg O0,C17,B39]
    | succ j=>
     rw[Y21,V27]
     by_cases hq:j%2=0
     .rw[if_pos hq,if_pos hq,if_neg O0]
     .rw[if_neg hq,if_neg hq,ih _ _ _ _ hf]
      by_cases e:j=i
      .subst e;simp
      .rw[if_neg O0,if_neg O0]
theorem N7(H:Y0)(i j:Nat)(b:Option V3):J0 (hs H i b) j=if j=i then b else J0 H j:=X64 _ H i j b (aD _)
inductive EL (F:FM):List MapEntry->List MapEntry->Prop
 | nil:EL F [] []
 | cons {k v v':Value} {b:Nat} {l l':List MapEntry} (hk:M4 k=true) (h:VR F v v') (t:EL F l l'):EL F (⟨k,v,b⟩ :: l) (⟨k,v',b⟩ :: l')
theorem Q147{size:Nat}(e:Nat)(h:size<1000):e+1=(size+1000*(e+1))/1000:=O0
theorem K143(e:Nat):e+1=1000*(e+1)/1000:=O0
def V77(sl:Nat)(e:TypeId)(b r s:Nat):Prop:=1000<=sl->e+1=sl/1000/\(sl%1000=0->b=0/\r=s)
theorem V77.low(e:TypeId)(h:sl<1000):V77 sl e b r s:=fun h'=>absurd h O0
theorem V77.same{sl:Nat}(n:Nat)(h:V77 sl e 0 0 0):V77 sl e 0 n n:=fun h'=>⟨(h h').1,fun _=>⟨rfl,rfl⟩⟩
theorem V77.pos{b' r' s':Nat}(h0:0<sl%1000)(h:V77 sl e b r s):V77 sl e b' r' s':=fun h'=>⟨(h h').1,fun h=>O0⟩
theorem V77.cells{F:FM}{c:List Value}{c':Array Value}(h:V77 sl e 0 0 0)(hv:VL F c c'.toList):V77 sl e 0 c'.size c.length:=by
 have:=hv.length;have e:c'.size=c.length:=by rw[this];rfl
 rw[e];exact h.same _
theorem K124(h:size<1000):N11 tag size%1000=size:=by
 cases tag with
 | zero=>exact bV h
 | succ t=>show(size+1000*(t+1))%1000=size;omega
theorem B147(h:size<1000)(h0:0<size)(ht:tag=0\/tag=e+1):V77 (N11 tag size) e b r s:=by
 rcases ht with rfl | rfl
 .exact V77.low e h
 .exact fun _=>⟨Q147 e h,fun h'=>by rw[K124 h] at h';omega⟩
def BR(F:FM)(t:J7)(b:V3)(w:World):Prop:=
 match b with
 | .cells c sl=>∃ c' e,w.heap[t.blk]? = some (.cells c' e (0,0))/\(c'.size=t.rsz/\V77 sl e t.base t.rsz t.sz)/\t.sz=c.length/\t.esz=sl%1000/\t.base+c.length<=t.rsz/\VL F c ((c'.toList.drop t.base).take c.length)
 | .map es clock=>t.base=0/\∃ es',w.heap[t.blk]? = some (.map es' clock)/\EL F es es'.toList
 | .rom c=>∃ c' e m,w.heap[t.blk]? = some (.cells c' e m)/\c'.size=t.rsz/\t.sz=c.length/\t.esz=0/\t.base+c.length<=t.rsz/\VL F c ((c'.toList.drop t.base).take c.length)
def Own(F:FM)(H:Y0)(nx:Nat)(b:Nat):Prop:=∃ i k t,i<nx/\J0 H i=some k/\k.isRom=false/\F i=some t/\t.blk=b
def GlW(w:World):Prop:=∀ x ∈ Q42,x.1<w.heap.size/\∃ e m,w.heap[x.1]? = some (.cells ⟨x.2⟩ e m)
def Gl(F:FM)(H:Y0)(nx:Nat)(w:World):Prop:=GlW w/\∀ x ∈ Q42,¬ Own F H nx x.1
theorem GlW.step(h:GlW w)(hw:∀ x ∈ Q42,w'.heap[x.1]? = w.heap[x.1]?):GlW w':=fun x hx=>by
 obtain⟨h1,h2⟩:=h x hx;have e:=hw x hx;refine⟨?_,by rw[e];exact h2⟩;rcases aW x.1 w'.heap.size with g | g
 .exact g
 .rw[fK g,Array.getElem?_eq_getElem h1] at e;cases e
theorem Gl.step{F:FM}{H:Y0}{nx:Nat}{w:World}{F':FM}{H':Y0}{nx':Nat}{w':World}(h:Gl F H nx w)(B:∀ b,b<w.heap.size->¬ Own F H nx b->w'.heap[b]? = w.heap[b]?)(E:∀ b,Own F' H' nx' b->Own F H nx b\/w.heap.size<=b):Gl F' H' nx' w':=
 ⟨h.1.step fun x hx=>B _ (h.1 x hx).1 (h.2 x hx),fun x hx ho=>(E _ ho).elim (h.2 x hx) (fun h'=>by have:=(h.1 x hx).1;omega)⟩
structure HR (F:FM) (H:Y0) (nx:Nat) (w:World):Prop where
 blk:∀ i b,i<nx->J0 H i=some b->∃ t,F i=some t/\BR F t b w
 inj:∀ i j bi bj ti tj,i<nx->j<nx->J0 H i=some bi->J0 H j=some bj->F i=some ti->F j=some tj->ti.blk=tj.blk->i=j\/(bi.isRom=true/\bj.isRom=true)
 fresh:∀ i,nx<=i->F i=none
 top:∀ i,nx<=i->J0 H i=none
 gl:Gl F H nx w
def Y53(F:FM)(H:Y0)(nx:Nat)(b:Nat):Prop:=∃ i k t,i<nx/\J0 H i=some k/\F i=some t/\t.blk=b
structure N2 (F:FM) (H:Y0) (nx:Nat) (w:World) (F':FM) (H':Y0) (nx':Nat) (w':World):Prop where
 le:nx<=nx'
 ext:∀ i,i<nx->F' i=F i
 os:w'.os=w.os
 tape:w'.tape=w.tape
 output:w'.output=w.output
 size:w.heap.size<=w'.heap.size
 frame:∀ b,b<w.heap.size->¬ Own F H nx b->w'.heap[b]? = w.heap[b]?
 own:∀ b,Own F' H' nx' b->Own F H nx b\/w.heap.size<=b
 keep:∀ i,i<nx->J0 H i=none->J0 H' i=none
 rom:∀ i b,J0 H' i=some b->b.isRom=true->i<nx/\J0 H i=some b
 hr:HR F' H' nx' w'
theorem BR.lt{F:FM}{t:J7}{b:V3}(h:BR F t b w):t.blk<w.heap.size:=by
 cases b with
 | cells c sl=>
  obtain⟨c',e,h,_⟩:=h;rcases aW t.blk w.heap.size with g | g
  .exact g
  .simp[fK g] at h
 | map es k=>
  obtain⟨_,es',h,_⟩:=h;rcases aW t.blk w.heap.size with g | g
  .exact g
  .simp[fK g] at h
 | rom c=>
  obtain⟨c',e,m,h,_⟩:=h;rcases aW t.blk w.heap.size with g | g
  .exact g
  .simp[fK g] at h
theorem EL.mono{F F':FM}(hF:F.le F'){l l':List MapEntry}(h:EL F l l'):EL F' l l':=by
 induction h with
 | nil=>exact .nil
 | cons hk h _ ih=>exact .cons hk (h.mono hF) ih
theorem BR.mono{F F':FM}(hF:F.le F'){t:J7}{b:V3}{w w':World}(h:BR F t b w)(hw:w'.heap[t.blk]? = w.heap[t.blk]?):BR F' t b w':=by
 cases b with
 | cells c sl=>
  obtain⟨c',e,h1,h2,h3,h4,h5,h6⟩:=h;exact⟨c',e,hw.trans h1,h2,h3,h4,h5,h6.mono hF⟩
 | map es k=>
  obtain⟨h0,es',h1,h2⟩:=h;exact⟨h0,es',hw.trans h1,h2.mono hF⟩
 | rom c=>
  obtain⟨c',e,m,h1,h2,h3,h4,h5,h6⟩:=h;exact⟨c',e,m,hw.trans h1,h2,h3,h4,h5,h6.mono hF⟩
theorem HR.low{F:FM}(h:HR F H nx w){i:Nat}{b:V3}(hg:J0 H i=some b):i<nx:=by
 rcases aW i nx with g | g
 .exact g
 .rw[h.top i g] at hg;cases hg
theorem N2.refl{F:FM}(h:HR F H nx w):N2 F H nx w F H nx w:=
 ⟨aD _,fun _ _=>rfl,rfl,rfl,rfl,aD _,fun _ _ _=>rfl,fun _ h => .inl h,fun _ _ h=>h,fun _ _ hg _=>⟨h.low hg,hg⟩,h⟩
theorem N2.fle{F:FM}{F':FM}{H':Y0}{nx':Nat}(h:N2 F H nx w F' H' nx' w')(hr:HR F H nx w):F.le F':=by
 intro i t hi;rcases aW i nx with g | g
 .rw[h.ext i g];exact hi
 .rw[hr.fresh i g] at hi;cases hi
theorem N2.trans{F:FM}{H:Y0}{nx:Nat}{w:World}{F1:FM}{H1:Y0}{B:Nat}{w1:World}{F2:FM}{H2:Y0}{nx2:Nat}{w2:World}(h:N2 F H nx w F1 H1 B w1)(g:N2 F1 H1 B w1 F2 H2 nx2 w2):N2 F H nx w F2 H2 nx2 w2 where
 le:=bK h.le g.le
 ext i hi:=(g.ext i (aO hi h.le)).trans (h.ext i hi)
 os:=g.os.trans h.os
 tape:=g.tape.trans h.tape
 output:=g.output.trans h.output
 size:=bK h.size g.size
 frame b hb hn:=(g.frame b (aO hb h.size) (fun ho=>(h.own b ho).elim hn (fun hx=>O0))).trans (h.frame b hb hn)
 own b ho:=by
  rcases g.own b ho with h1 | h1
  .exact h.own b h1
  .exact .inr (bK h.size h1)
 keep i hi hn:=g.keep i (aO hi h.le) (h.keep i hi hn)
 rom i b hg hb:=let ⟨_,h1⟩:=g.rom i b hg hb;h.rom i b h1 hb
 hr:=g.hr
theorem HR.drew{F:FM}{nx:Nat}(h:HR F H nx w)(n:Nat):HR F H nx { w with drawn:=n }:=
 ⟨fun i b hi hb=>let ⟨t,ht,hr⟩:=h.blk i b hi hb;⟨t,ht,hr.mono (fun _ _ h=>h) rfl⟩,h.inj,h.fresh,h.top,h.gl.step (fun _ _ _=>rfl) (fun _ h => .inl h)⟩
theorem N2.drew{F:FM}{H:Y0}{nx:Nat}{w:World}(h:HR F H nx w)(n:Nat):N2 F H nx w F H nx { w with drawn:=n }:=
 ⟨aD _,fun _ _=>rfl,rfl,rfl,rfl,aD _,fun _ _ _=>rfl,fun _ h => .inl h,fun _ _ h=>h,fun _ _ hg _=>⟨h.low hg,hg⟩,h.drew n⟩
theorem HR.reserve{F:FM}(h:HR F H nx w){nx2:Nat}(h1:nx<=nx2):HR F H nx2 w:=by
 have low:∀ i b,i<nx2->J0 H i=some b->i<nx:=by
  intro i b hi hg;rcases aW i nx with g | g
  .exact g
  .rw[h.top i g] at hg;cases hg
 exact⟨fun i b hi hg=>h.blk i b (low i b hi hg) hg,fun i j bi bj ti tj hi hj gi gj=>h.inj i j bi bj ti tj (low i bi hi gi) (low j bj hj gj) gi gj,fun i hi=>h.fresh i O0,fun i hi=>h.top i O0,h.gl.step (fun _ _ _=>rfl) (fun b ⟨i,k,t,hi,hg,B,hF,e⟩ => .inl ⟨i,k,t,low i k hi hg,hg,B,hF,e⟩)⟩
end
section
variable {F:FM} {P:Program} {T:K0 Value} {X1 y:X} {a:Act} {d n:Nat} {i:TypeInfo} {k:IntKind} {op:BinOp} {t:TypeId} {v:Value} {x:Operand} {β:Type}
def ev(T:K0 Value)(x:X):Value:=W4 T x id
theorem G2(T:K0 Value)(x:X)(k:Value->β):W4 T x k=k (ev T x):=by
 cases x with
 | s t=>
  show N9 T t (k undef) k=k (N9 T t (id undef) id);rw[J11,J11];cases tg T t<;>rfl
 | c v=>rfl
theorem C22(T:K0 Value)(l:List X):∀(k:List Value->β),U17 T l k=k (l.map (ev T)):=by
 induction l with
 | nil=>intro k;rfl
 | cons x l ih=>
  intro k;show W4 T x (fun v=>U17 T l fun vs=>k (v :: vs))=_;rw[G2,ih];rfl
theorem C15(T:K0 Value)(x:Option X)(k:Option Value->β):R24 T x k=k (x.map (ev T)):=by
 cases x<;>simp[R24,G2]
theorem J45(T:K0 Value)(l:List (Nat × X)):∀(k:List (Nat × Value)->β),E34 T l k=k (l.map fun p=>(p.1,ev T p.2)):=by
 induction l with
 | nil=>intro k;rfl
 | cons x l ih=>intro k;obtain⟨i,x⟩:=x;simp[E34,G2,ih]
structure TR (d:Nat) (F:FM) (T:K0 Value) (n:Nat) (tmps:Array Value):Prop where
 wf:WF d T
 size:tmps.size=n
 le:n<=2^d
 get:∀ t,t<n->VR F ((tg T t).getD undef) (tmps.getD t undef)
theorem TR.mono{d:Nat}{F F':FM}(hF:F.le F'){T:K0 Value}{n:Nat}{tmps:Array Value}(h:TR d F T n tmps):TR d F' T n tmps:=
 ⟨h.wf,h.size,h.le,fun t ht=>(h.get t ht).mono hF⟩
theorem E53(T:K0 Value)(t:Nat):ev T (.s t)=(tg T t).getD undef:=by
 show N9 T t undef id=_;rw[J11];cases tg T t<;>rfl
theorem TR.evX(ht:TR d F T n a.tmps)(h:W13 n x=some y):VR F (ev T y) (a.eval x):=by
 cases x with
 | tmp t=>
  simp only[W13] at h
  cases hb:dE t n with
  | false=>simp[hb] at h
  | true=>
   simp[hb] at h;subst h;rw[E53];exact ht.get t (by simpa using hb)
 | const v=>
  simp only[W13] at h
  cases hb:X7 v with
  | false=>simp[hb] at h
  | true=>simp[hb] at h;subst h;exact C6 F v hb
 | global g=>simp[W13] at h
 | func f=>
  simp[W13] at h;subst h;exact .func _ rfl O2 rfl O2
def OR(n:Nat)(o:Oper)(F:FM)(T:K0 Value)(a:Act):Prop:=∀ x ∈ o.op.operands,∀ y,W13 n x=some y->VR F (ev T y) (a.eval x)
theorem TR.or(ht:TR d F T n a.tmps)(o:Oper):OR n o F T a:=fun _ _ _ h=>ht.evX h
theorem evX{o:Oper}(ht:OR n o F T a)(h:W13 n x=some y)(hm:x ∈ o.op.operands:=by rw[(‹o.op=_› : o.op=_)];simp[Op.operands]):VR F (ev T y) (a.eval x):=ht x hm y h
theorem M61(h:W13 n x=some y):D42 T x=ev T y:=by
 cases x with
 | tmp t=>
  simp only[W13] at h
  cases hb:dE t n with
  | false=>simp[hb] at h
  | true=>simp[hb] at h;subst h;rfl
 | const v=>
  simp only[W13] at h
  cases hb:X7 v with
  | false=>simp[hb] at h
  | true=>simp[hb] at h;subst h;rfl
 | global g=>simp[W13] at h
 | func f=>simp[W13] at h;subst h;rfl
theorem D54{α:Type}{s:Sem α}{r:α}(h:E30 P s=some r)(w:World):s.run P w = .ok r w:=by
 induction s with
 | pure a=>simp[E30] at h;subst h;rfl
 | program k ih=>exact ih P h
 | mark m k ih=>exact ih h
 | _=>simp[E30] at h
def PV(P:Program)(d n:Nat)(o:Oper)(T:K0 Value)(v:Value):Prop:=
 ∀(F:FM) (a:Act) (w:World),OR n o F T a->∃ v',(execOp a.eval o).run P w = .ok (.value v') w/\VR F v v'
theorem Z30{o:Oper}{T:K0 Value}{xs:List X}(E:∀ cs b,o.op ≠ .select cs b)(J:∀ x ∈ o.op.operands,∃ y ∈ xs,W13 n x=some y)(z:β)(k:Value->β):
  K20 P T xs o z k=z\/∃ v,K20 P T xs o z k=k v/\PV P d n o T v:=by
 unfold K20;rw[C22]
 cases B:(xs.map (ev T)).all X7 with
 | false=>exact .inl rfl
 | true=>
  cases hp:E30 P (execOp (D42 T) o) with
  | none=>exact .inl rfl
  | some r=>
   cases r with
   | value v=>
    dsimp only[cond_true];rw[Y5]
    cases hf:X7 v with
    | false=>exact .inl rfl
    | true=>
     refine .inr ⟨v,rfl,?_⟩;intro F a w ht;have he:execOp a.eval o=execOp (D42 T) o:=execOp_congr o E (fun x hx=>by
      obtain⟨y,hy,hc⟩:=J x hx;rw[M61 hc];refine R51 (evX ht hc hx) ?_;rw[iE] at B;exact B _ (gN.2 ⟨y,hy,rfl⟩))
     rw[he];exact⟨v,D54 hp w,C6 F v hf⟩
   | _=>exact .inl rfl
theorem J33{a b:IntKind}(h:eqK a b=true):a=b:=by cases a<;>cases b<;>first | rfl | simp[eqK] at h
theorem Q67(a b:Int):N52 a b=a+b:=by cases a<;>cases b<;>simp[N52]<;>rfl
theorem J66(a b:Int):X54 a b=a-b:=by
 cases a<;>cases b<;>simp only[X54]
 rename_i a b
 cases h:dD b a with
 | true=>
  have:=Nat.le_of_ble_eq_true h;simp only[cond_true];show((Nat.sub a b:Nat):Int)=(a:Int)-(b:Int)
  have e:Nat.sub a b=a-b:=rfl;rw[e];omega
 | false=>
  have:¬ b<=a:=fun hh=>by rw[Nat.ble_eq_true_of_le hh] at h;cases h
  simp only[cond_false,Int.negSucc_eq];have e:Nat.sub (Nat.sub b a) 1=b-a-1:=rfl;rw[e];show _=(a:Int)-(b:Int)
  omega
theorem D60(a b:Int):ltI a b=decide (a<b):=by
 cases a<;>cases b<;>simp only[ltI]
 .rename_i a b
  rw[eX];simp[Nat.blt_eq]
 .simp;omega
 .simp;omega
 .rename_i a b
  rw[eX];simp[Nat.blt_eq];omega
theorem Y57(a b:Int):leI a b=decide (a<=b):=by
 cases a<;>cases b<;>simp only[leI]
 .rename_i a b
  rw[eX];simp
 .simp;omega
 .simp;omega
 .rename_i a b
  rw[eX];simp;omega
theorem Q26(a b:Int):eqI a b=(a==b):=by
 cases a<;>cases b<;>simp only[eqI]
 .rename_i a b
  rw[eX];simp;omega
 .symm;simp
 .symm;simp
 .rename_i a b
  rw[eX];simp
theorem Z21{r:Int}(h:Q14 k r=true):k.wrap r=r:=by
 cases r with
 | ofNat m=>
  cases k<;>simp[Q14,Nat.blt_eq] at h<;>simp[eY,dW,eK]<;>omega
 | negSucc m=>
  cases k<;>simp[Q14,Nat.blt_eq] at h
  exact IntWalk.i64_in _ O0
theorem VR.int_inv{n:Int}(h:VR F (.int k n) v):v = .int k n:=by cases h;rfl
theorem VR.bool_inv{b:Bool}(h:VR F (.bool b) v):v = .bool b:=by cases h;rfl
theorem K8(h:P.info? t=some i)(w:World):(typeInfo t).run P w = .ok i w:=by
 simp[typeInfo,program,Sem.run,h]
theorem J15(h:P.info? t=some i)(w:World):(sizeOf t).run P w = .ok i.size w:=by
 simp[sizeOf,K8 h]
section
variable {β:Type} {P:Program} {d n:Nat} {o:Oper} {T:K0 Value}
theorem C43(ho:o.op = .move x\/o.op = .assign x)(h:W13 n x=some y)(z:β)(k:Value->β):
  X4 P (.mv y) T z k=z\/∃ v,X4 P (.mv y) T z k=k v/\PV P d n o T v:=by
 refine .inr ⟨ev T y,G2 T y k,fun F a w ht=>⟨a.eval x,?_,evX ht h (by rcases ho with ho | ho<;>simp[ho,eI])⟩⟩;rcases ho with ho | ho<;>simp[execOp,ho]
theorem U55{c a b:Operand}{yc ya yb:X}(ho:o.op = .pick c a b)(hc:W13 n c=some yc)(ha:W13 n a=some ya)(hb:W13 n b=some yb)(z:β)(k:Value->β):
  X4 P (.pick yc ya yb) T z k=z\/∃ v,X4 P (.pick yc ya yb) T z k=k v/\PV P d n o T v:=by
 show V42 yc ya yb T z k=z\/∃ v,V42 yc ya yb T z k=k v/\_;unfold V42;rw[G2]
 cases hv:ev T yc with
 | bool t=>
  dsimp only;rw[E14,G2,G2];refine .inr ⟨if t then ev T ya else ev T yb,by cases t<;>rfl,fun F B w ht => ?_⟩;have h1:=evX ht hc;rw[hv] at h1;have h1:=h1.bool_inv;refine⟨if t then B.eval a else B.eval b,?_,?_⟩
  .simp[execOp,ho,h1,asBool]
  .cases t
   .exact evX ht hb
   .exact evX ht ha
 | _=>exact .inl rfl
theorem J8(r:Option Value)(z:β)(f:Value->β):X22 r z f=r.elim z f:=by
 cases r with
 | none=>rfl
 | some v=>exact E7 v f
theorem D61(op:BinOp)(k:IntKind)(a b:Int)(z:β)(f:Value->β):C55 op k a b z f=(G7 op k a b).elim z f:=by
 unfold C55
 split<;>(try rw[J21])<;>(try rw[B21])
 .cases hf:Q14 k (N52 a b) with
  | false=>simp only[cond_false];exact J8 _ z f
  | true=>have:=Z21 hf;rw[Q67] at this ⊢;simp[G7,this]
 .cases hf:Q14 k (X54 a b) with
  | false=>simp only[cond_false];exact J8 _ z f
  | true=>have:=Z21 hf;rw[J66] at this ⊢;simp[G7,this]
 .simp[G7,D60]
 .simp[G7,Y57]
 .simp[G7,D60]
 .simp[G7,Y57]
 .simp[G7,Q26]
 .simp[G7,Q26,bne]
 .exact J8 _ z f
theorem V47(op:BinOp)(x y:Value)(z:β)(f:Value->β):J42 op x y z f=(R9 op x y).elim z f:=by
 unfold J42 R9
 split
 .cases N4 op with
  | true=>exact J8 _ z f
  | false=>
   simp only[cond_false];rename_i k a k' b
   cases eqK k k' with
   | false=>rfl
   | true=>exact D61 op _ _ _ z f
 .exact J8 _ z f
 .rfl
theorem E58{x y:Value}(h:R9 op x y=some v):M4 x=true/\M4 y=true/\X7 v=true:=by
 unfold R9 at h
 split at h
 .refine⟨rfl,rfl,?_⟩
  cases hs:N4 op with
  | true=>
   rw[hs] at h;simp only[cond_true] at h;unfold C18 at h
   split at h
   .cases h
   .split at h<;>cases h<;>rfl
  | false=>
   rw[hs] at h;simp only[cond_false] at h;rename_i k a k' b
   cases hk:eqK k k' with
   | false=>rw[hk] at h;cases h
   | true=>
    rw[hk] at h;simp only[cond_true] at h;unfold G7 at h
    split at h<;>first | (cases h;rfl) | (split at h<;>first | (cases h;done) | (cases h;rfl)) | cases h
 .refine⟨rfl,rfl,?_⟩
  unfold K53 at h
  split at h<;>first | (cases h;rfl) | (split at h<;>first | (cases h;done) | (cases h;rfl)) | cases h
 .cases h
theorem G64 {op : BinOp} {x y : Value} (h : R9 op x y = some v) (t : TypeId) (xo yo : Operand) (w : World) :
    (do eqGuard op t xo yo x y; binOp op t x y : Sem Value).run P w = .ok v w := by
  unfold R9 at h
  split at h
  · rename_i k a k' b
    have hg : ∀ w, (eqGuard op t xo yo (.int k a) (.int k' b)).run P w = .ok () w := by
      intro w; cases op <;> simp [eqGuard]
    simp only [Sem.run_bind, hg, Result.andThen_ok]
    cases hs : N4 op with
    | true =>
      rw [hs] at h; simp only [cond_true] at h
      unfold C18 at h
      split at h
      · cases h
      · rename_i hb
        cases op <;> simp [N4] at hs <;> cases h <;> simp [binOp, Op.shift, hb]
    | false =>
      rw [hs] at h; simp only [cond_false] at h
      cases hk : eqK k k' with
      | false => rw [hk] at h; cases h
      | true =>
        rw [hk] at h; simp only [cond_true] at h
        have hk := J33 hk
        subst hk
        cases op <;> simp [N4] at hs <;> simp only [G7] at h <;> first
          | (cases h; simp [binOp, Op.intArith]; done)
          | (cases h; simp [binOp, Op.intBits]; done)
          | (cases h; simp [binOp, Op.intCmp]; done)
          | (split at h
             · cases h
             · rename_i hz; cases h; simp [binOp, Op.intDiv, hz])
          | cases h
  · rename_i a b
    have hg : ∀ w, (eqGuard op t xo yo (.string a) (.string b)).run P w = .ok () w := by
      intro w; cases op <;> simp [eqGuard]
    simp only [Sem.run_bind, hg, Result.andThen_ok]
    cases op <;> simp only [K53] at h <;> first
      | (cases h; simp [binOp, Op.stringOp]; done)
      | (split at h
         · cases h
         · rename_i hz; cases h; simp only [binOp, Op.stringOp, if_neg hz]; rfl)
      | cases h
  · cases h
theorem J26{yt:TypeId}{y:Operand}{Y1:X}(ho:o.op = .binOp op t x y yt)(hx:W13 n x=some X1)(hy:W13 n y=some Y1)(z:β)(k:Value->β):
  X4 P (.bin op X1 Y1) T z k=z\/∃ v,X4 P (.bin op X1 Y1) T z k=k v/\PV P d n o T v:=by
 show V52 op X1 Y1 T z k=z\/∃ v,V52 op X1 Y1 T z k=k v/\_;unfold V52;rw[G2,G2,V47]
 cases hv:R9 op (ev T X1) (ev T Y1) with
 | none=>exact .inl rfl
 | some v=>
  refine .inr ⟨v,rfl,fun F B w ht => ?_⟩;obtain⟨f1,f2,f3⟩:=E58 hv;have h1:=C11 (evX ht hx) f1;have h2:=C11 (evX ht hy) f2;refine⟨v,?_,C6 F v f3⟩;have hr:=G64 (P:=P) hv t x y w;simp only[execOp,ho,h1,h2,aS] at hr ⊢;rw[hr];rfl
theorem W64{op:UnOp}{x:Value}(h:unV op x=some v):M4 x=true/\X7 v=true:=by
 unfold unV at h
 split at h<;>first | (cases h;exact⟨rfl,rfl⟩) | cases h
theorem C63{op:UnOp}(ho:o.op = .unOp op t x)(hx:W13 n x=some X1)(z:β)(k:Value->β):
  X4 P (.un op X1) T z k=z\/∃ v,X4 P (.un op X1) T z k=k v/\PV P d n o T v:=by
 show unK op X1 T z k=z\/∃ v,unK op X1 T z k=k v/\_;unfold unK;rw[G2,J8]
 cases hv:unV op (ev T X1) with
 | none=>exact .inl rfl
 | some v=>
  refine .inr ⟨v,rfl,fun F B w ht => ?_⟩;obtain⟨f1,f3⟩:=W64 hv;have h1:=C11 (evX ht hx) f1;refine⟨v,?_,C6 F v f3⟩;unfold unV at hv
  split at hv
  .rename_i e;cases hv;simp[execOp,ho,h1,e,Op.unary,Op.intArith]
  .rename_i e;cases hv;simp[execOp,ho,h1,e,Op.unary,Op.intBits]
  .rename_i e;cases hv;simp[execOp,ho,h1,e,Op.unary]
  .cases hv
end
end
section
variable {F:FM} {P:Program} {b c f n o:Nat} {fd:Field} {fs:Array Field} {s sh:Option Nat} {t:TypeId} {v:Value} {x:Operand} {y:X}
theorem X11(b o n:Nat):(⟨b,o,none⟩:Addr).add n=⟨b,o+n,none⟩:=by
 unfold Addr.add;split
 .rename_i h;subst h;rfl
 .rfl
theorem VR.ptr_inv(h:VR F (.pointer (some ⟨b,o,s⟩)) v):s=none/\∃ t,F b=some t/\v = .pointer (some ⟨t.blk,t.base+o,none⟩):=by
 cases h with
 | ptr h=>exact⟨rfl,_,h,rfl⟩
theorem VR.slice_inv(h:VR F (.slice (some ⟨b,o,none⟩) n c) v):
  (none:Option Nat)=none/\∃ t c',F b=some t/\v = .slice (some ⟨t.blk,t.base+o,none⟩) n c'/\(c'=c\/(0<t.esz/\c<=c'/\o+c*t.esz=t.sz/\t.base+o+c'*t.esz<=t.rsz/\c'<=9223372036854775807)):=by
 cases h with
 | slice h hc=>exact⟨rfl,_,_,h,rfl,hc⟩
theorem VR.slice_invP(h:VR F (.slice (some ⟨b,o,s⟩) n c) v)(hn:0<n):
  s=none/\∃ t c',F b=some t/\v = .slice (some ⟨t.blk,t.base+o,none⟩) n c'/\(c'=c\/(0<t.esz/\c<=c'/\o+c*t.esz=t.sz/\t.base+o+c'*t.esz<=t.rsz/\c'<=9223372036854775807)):=by
 cases h with
 | slice h hc=>exact⟨rfl,_,_,h,rfl,hc⟩
 | sliceW s a=>exact absurd hn (Nat.lt_irrefl 0)
theorem VR.sliceN_inv(h:VR F (.slice none n c) v):v = .slice none n c:=by cases h;rfl
theorem VR.agg_inv{x:Array Value}(h:VR F (.agg x) v):∃ x',v = .agg x'/\VL F x.toList x'.toList:=by
 cases h with
 | agg h1 h2=>exact⟨_,rfl,VL.ofArr h1 h2⟩
theorem VR.tuple_inv{x:Array Value}(h:VR F (.tuple x) v):∃ x',v = .tuple x'/\VL F x.toList x'.toList:=by
 cases h with
 | tuple h1 h2=>exact⟨_,rfl,VL.ofArr h1 h2⟩
theorem W48{n:Nat}{o:Oper}{F:FM}{T:K0 Value}{a:Act}(ht:OR n o F T a):∀ {l:List Operand} {ys:List X},U7 n l=some ys->(∀ x ∈ l,x ∈ o.op.operands)->VL F (ys.map (ev T)) (l.map a.eval)
 | [],ys,h,_=>by simp[U7] at h;subst h;exact .nil
 | x :: l,ys,h,hm=>by
  simp only[U7] at h
  cases hx:W13 n x with
  | none=>simp[hx] at h
  | some y=>cases hl:U7 n l with
   | none=>simp[hx,hl] at h
   | some B=>
    simp[hx,hl] at h;subst h;exact .cons (evX ht hx (hm x O2)) (W48 ht hl fun q hq=>hm q (by simp[hq]))
inductive PL (F:FM):List (Nat × Value)->List (Nat × Value)->Prop
 | nil:PL F [] []
 | cons {i:Nat} {v v':Value} {l l':List (Nat × Value)} (h:VR F v v') (t:PL F l l'):PL F ((i,v) :: l) ((i,v') :: l')
theorem G62{n:Nat}{o:Oper}{F:FM}{T:K0 Value}{a:Act}(ht:OR n o F T a):∀ {l:List (Nat × Operand)} {ys:List (Nat × X)},R16 n l=some ys->(∀ p ∈ l,p.2 ∈ o.op.operands) ->
  PL F (ys.map fun p=>(p.1,ev T p.2)) (l.map fun p=>(p.1,a.eval p.2))
 | [],ys,h,_=>by simp[R16] at h;subst h;exact .nil
 | (i,x) :: l,ys,h,hm=>by
  simp only[R16] at h
  cases hx:W13 n x with
  | none=>simp[hx] at h
  | some y=>cases hl:R16 n l with
   | none=>simp[hx,hl] at h
   | some B=>
    simp[hx,hl] at h;subst h;exact .cons (evX ht hx (hm (i,x) O2)) (G62 ht hl fun q hq=>hm q (by simp[hq]))
theorem evO{o:Oper}{T:K0 Value}{a:Act}(ht:OR n o F T a){x:Option Operand}{y:Option X}(h:B71 n x=some y)(hm:∀ q,x=some q->q ∈ o.op.operands):
  (x=none/\y=none)\/∃ x1 y1,x=some x1/\y=some y1/\VR F (ev T y1) (a.eval x1):=by
 cases x with
 | none=>simp[B71] at h;exact .inl ⟨rfl,h.symm⟩
 | some x1=>
  simp only[B71] at h
  cases hx:W13 n x1 with
  | none=>simp[hx] at h
  | some y1=>simp[hx] at h;exact .inr ⟨x1,y1,rfl,h.symm,evX ht hx (hm x1 rfl)⟩
theorem Y47(off:Nat):∀(vs:List Value) (k:Nat) (cells:Array Value),off+k+vs.length<=cells.size ->
  ((vs.zipIdx k).foldl (fun cs (c,j)=>cs.setIfInBounds (off+j) c) cells).toList=cells.toList.take (off+k)++vs++cells.toList.drop (off+k+vs.length)
 | [],k,cells,_=>O2
 | v :: vs,k,cells,h=>by
  simp only[List.zipIdx_cons,dF];rw[Y47 off vs (k+1) _ (by simp at h ⊢;omega)];have e:=list_seg_step cells.toList (off+k) v vs (by simp at h ⊢;omega);simpa [Array.toList_setIfInBounds,eH] using e
theorem B24{pl pl':Nat->Option (Nat × Nat)}(M:∀ i p,pl i=some p->pl' i=some p){ps J:List (Nat × Value)}(hp:PL F ps J):
  ∀ {cells:List Value} {cells':Array Value} {r:List Value},VL F cells cells'.toList->V16 pl cells ps=some r->∃ r',Instr.fill pl' cells' J=some r'/\VL F r r'.toList:=by
 induction hp with
 | nil=>intro cells cells' r hc h;simp[V16] at h;subst h;exact⟨cells',rfl,hc⟩
 | @cons i v v' l l' hv _ ih=>
  intro cells cells' r hc h;rw[V16] at h
  cases hi:pl i with
  | none=>rw[hi] at h;cases h
  | some p=>
   obtain⟨off,size⟩:=p;rw[hi] at h;dsimp only at h
   cases hb:(bR v.cells.toList.length size&&dD (off+size) cells.length&&B22 v) with
   | false=>rw[hb] at h;cases h
   | true=>
    rw[hb] at h;simp only[cond_true] at h;simp only[aG,Nat.ble_eq] at hb;obtain⟨⟨h1,h2⟩,B⟩:=hb;have h1:=dI h1;have E:=hc.length;have L:=(hv.cells B).length;have e:(v'.cells.zipIdx.foldl (fun cs (c,j)=>cs.setIfInBounds (off+j) c) cells').toList=cells'.toList.take off++v'.cells.toList++cells'.toList.drop (off+size):=by
     have:=Y47 off v'.cells.toList 0 cells' (by simp at E L h1;simp;omega);simp only[eM] at this;rw[show off+size=off+v'.cells.toList.length by omega,<- this];rw[<- Array.foldl_toList];simp
    obtain⟨r',hr,hl⟩:=ih (cells':=v'.cells.zipIdx.foldl (fun cs (c,j)=>cs.setIfInBounds (off+j) c) cells') (by rw[e];exact((hc.take off).append (hv.cells B)).append (hc.drop _)) h;refine⟨r',?_,hl⟩;simp only[Instr.fill,M i _ hi];have e1:¬ (v'.cells.size≠size || off+v'.cells.size > cells'.size)=true:=by simp at E L h1;simp;omega
    rw[if_neg e1];exact hr
theorem B34{P:Program}:∀ {fs:List Field} {pl:List (Nat × Nat)},R13 P fs=some pl->fs.mapM (fun f=>(P.info? f.type).map fun i=>(f.offset,i.size))=some pl
 | [],pl,h=>by simp[R13] at h;subst h;rfl
 | f :: fs,pl,h=>by
  simp only[R13] at h
  cases hi:P.info? f.type with
  | none=>simp[hi] at h
  | some i=>cases hl:R13 P fs with
   | none=>simp[hi,hl] at h
   | some l=>
    simp[hi,hl] at h;subst h;simp[List.mapM_cons,hi,B34 hl]
theorem X14{z:List Value}(h:M10 P t=some z):∃ i v,P.info? t=some i/\i.zero=some v/\z=v.cells.toList/\X7 v=true/\Z0 z=true/\z.length=i.size:=by
 unfold M10 at h
 cases hi:P.info? t with
 | none=>simp[hi] at h
 | some i=>
  cases hz:i.zero with
  | none=>simp[hi,hz] at h
  | some v=>
   rw[hi] at h;dsimp only at h;rw[hz] at h;dsimp only at h
   cases hb:(X7 v&&Z0 v.cells.toList&&bR v.cells.toList.length i.size) with
   | false=>rw[hb] at h;cases h
   | true=>
    rw[hb] at h;simp only[cond_true,aZ] at h;subst h;simp only[aG] at hb;exact⟨i,v,rfl,hz,rfl,hb.1.1,hb.1.2,dI hb.2⟩
theorem Q32(h:E8 P t=some sh):∃ dd i,P.underlying t=some dd/\P.info? t=some i/\sh=cond (G8 dd) (some i.size) none:=by
 unfold E8 at h
 cases hd:P.underlying t with
 | none=>simp[hd] at h
 | some dd=>cases hi:P.info? t with
  | none=>simp[hd,hi] at h
  | some i=>simp[hd,hi] at h;exact⟨dd,i,rfl,rfl,h.symm⟩
theorem M14{dd:TypeDesc}(h:P.underlying t=some dd)(w:World):(isAgg t).run P w = .ok (G8 dd) w:=by
 cases dd<;>simp[isAgg,run_underlying h,G8]
theorem J39{sh:Option Nat}(h:E8 P t=some sh)(cs:List Value)(off:Nat){β:Type}(z:β)(k:Value->β):
  E21 cs off sh z k=z\/∃ v,E21 cs off sh z k=k v/\∀(F:FM) (B:Array Value) (w:World),VL F cs B.toList->∃ v',(part t B off).run P w = .ok v' w/\VR F v v':=by
 obtain⟨dd,i,hu,hi,rfl⟩:=Q32 h;unfold E21
 cases hd:G8 dd with
 | true=>
  simp only[cond_true];rw[V14];refine .inr ⟨_,rfl,fun F B w hc=>⟨.agg (B.extract off (off+i.size)),?_,?_⟩⟩
  .simp[part,M14 hu,hd,J15 hi]
  .have e:(B.extract off (off+i.size))=⟨(B.toList.drop off).take i.size⟩:=by
    apply fB.1;simp[List.extract_eq_take_drop]
   rw[e];exact VR.agg' ((hc.drop off).take _)
 | false=>
  simp only[cond_false];rw[Z12]
  cases hv:cs[off]? with
  | none=>exact .inl rfl
  | some v=>
   refine .inr ⟨v,rfl,fun F B w hc => ?_⟩;obtain⟨v',E,hr⟩:=hc.some hv;refine⟨v',?_,hr⟩;have:B[off]? = some v':=by simpa using E
   simp[part,M14 hu,hd,this]
section
variable {β:Type} {P:Program} {d n:Nat} {o:Oper} {T:K0 Value}
theorem K57{s:TypeId}{i:TypeInfo}(ho:o.op = .fieldAddr s x f)(hx:W13 n x=some y)(hs:P.underlying s=some (.struct fs))(hf:fs[f]? = some fd)(hi:P.info? fd.type=some i)(hz:i.size≠0)(z:β)(k:Value->β):
  X4 P (.fld y fd.offset) T z k=z\/∃ v,X4 P (.fld y fd.offset) T z k=k v/\PV P d n o T v:=by
 show X53 y fd.offset T z k=z\/∃ v,X53 y fd.offset T z k=k v/\_;unfold X53;rw[G2]
 split
 .rename_i a hv
  obtain⟨b,o',s'⟩:=a;unfold U19;rw[G1];refine .inr ⟨_,rfl,fun F B w ht => ?_⟩;have h1:=evX ht hx;rw[hv] at h1;obtain⟨rfl,t,hF,he⟩:=h1.ptr_inv;refine⟨.pointer (some ⟨t.blk,t.base+(o'+fd.offset),none⟩),?_,.ptr hF⟩;simp[execOp,ho,he,Instr.fieldAt,run_underlying hs,hf,Instr.sureAddr,fieldPlace,J15 hi,hz,X11,eH]
 .exact .inl rfl
theorem M52(ho:o.op = .nilCheck x)(hx:W13 n x=some y)(z:β)(k:Value->β):
  X4 P (.nilc y) T z k=z\/∃ v,X4 P (.nilc y) T z k=k v/\PV P d n o T v:=by
 show U42 y T z k=z\/∃ v,U42 y T z k=k v/\_;unfold U42;rw[G2]
 split
 .rename_i a hv
  obtain⟨b,o',s'⟩:=a;refine .inr ⟨_,rfl,fun F B w ht => ?_⟩;have h1:=evX ht hx;rw[hv] at h1;have h2:=h1;obtain⟨rfl,t,hF,he⟩:=h1.ptr_inv;rw[he] at h2;exact⟨_,by simp[execOp,ho,he],h2⟩
 .exact .inl rfl
theorem B59{i:Nat}(ho:o.op = .extract x i)(hx:W13 n x=some y)(z:β)(k:Value->β):
  X4 P (.ext y i) T z k=z\/∃ v,X4 P (.ext y i) T z k=k v/\PV P d n o T v:=by
 show E54 y i T z k=z\/∃ v,E54 y i T z k=k v/\_;unfold E54;rw[G2]
 split
 .rename_i vs hv
  rw[Z12]
  cases hi:vs.toList[i]? with
  | none=>exact .inl rfl
  | some v=>
   refine .inr ⟨v,rfl,fun F E w ht => ?_⟩;have h1:=evX ht hx;rw[hv] at h1;obtain⟨x',he,hl⟩:=h1.tuple_inv;obtain⟨v',B,hr⟩:=hl.some hi;have:x'[i]? = some v':=by simpa using B
   exact⟨v',by simp[execOp,ho,he,Instr.extract,this],hr⟩
 .exact .inl rfl
theorem V54(ho:o.op = .field t x f)(hx:W13 n x=some y)(hs:P.underlying t=some (.struct fs))(hf:fs[f]? = some fd)(B:E8 P fd.type=some sh)(z:β)(k:Value->β):
  X4 P (.part y fd.offset sh) T z k=z\/∃ v,X4 P (.part y fd.offset sh) T z k=k v/\PV P d n o T v:=by
 show C41 y fd.offset sh T z k=z\/∃ v,C41 y fd.offset sh T z k=k v/\_;unfold C41;rw[G2]
 split
 .rename_i cs hv
  rcases J39 (P:=P) B cs.toList fd.offset z k with h | ⟨v,h,hp⟩
  .exact .inl h
  .refine .inr ⟨v,h,fun F J w ht => ?_⟩
   have h1:=evX ht hx;rw[hv] at h1;obtain⟨x',he,hl⟩:=h1.agg_inv;obtain⟨v',E,hr⟩:=hp F x' w hl;exact⟨v',by simp[execOp,ho,he,Instr.field,run_underlying hs,hf,asAgg,E],hr⟩
 .exact .inl rfl
end
end
section
variable {F:FM} {I1 X1 Y1:X} {P:Program} {b neg:Bool} {dd:TypeDesc} {e t yt:TypeId} {i:TypeInfo} {ix x y:Operand} {len:Nat} {xs:List X}
theorem Z33{t:Option TypeDesc}{vx vy x' y':Value}(h:C8 t vx vy=some b)(hx:VR F vx x')(hy:VR F vy y'):C8 t x' y'=some b:=by
 unfold C8 at h
 split at h
 .rename_i a b';cases a<;>cases b'<;>simp at h<;>cases hx<;>cases hy<;>simp[C8,h]
 .rename_i a l1 c1 b' l2 c2;cases a<;>cases b'<;>simp at h<;>cases hx<;>cases hy<;>simp[C8,h]
 .rename_i a b';cases a<;>cases b'<;>simp at h<;>cases hx<;>cases hy<;>simp[C8,h]
 .cases hx;cases hy;simpa [C8] using h
 .cases hx;cases hy;simpa [C8] using h
 .cases hx;cases hy;simpa [C8] using h
 .cases h
theorem G41{x y:Value}(h:C8 (P.underlying t) x y=some b)(d:Nat)(w:World):(fW (d+1) t x y).run P w = .ok b w:=by
 unfold C8 at h
 split at h
 .rename_i a b' hu;cases a<;>cases b'<;>simp at h<;>subst h<;>simp[fW,run_underlying hu]
 .rename_i a l1 c1 b' l2 c2 hu;cases a<;>cases b'<;>simp at h<;>subst h<;>simp[fW,run_underlying hu]
 .rename_i a b' hu;cases a<;>cases b'<;>simp at h<;>subst h<;>simp[fW,run_underlying hu]
 .rename_i hu;simp at h;subst h;simp[fW,run_underlying hu]
 .rename_i hu;simp at h;subst h;simp[fW,run_underlying hu]
 .rename_i hu;simp at h;subst h;simp[fW,run_underlying hu]
 .cases h
theorem Y29{t':TypeId}{x y:Value}(h:C8 (P.underlying t) x y=some b)(op:BinOp)(xo yo:Operand)(w:World):(eqGuard op t' xo yo x y).run P w = .ok () w:=by
 unfold C8 at h
 split at h<;>first | (cases h;done) | (cases op<;>simp[eqGuard])
theorem W39{x y:Value}{b:Bool}(h:C8 (P.underlying t) x y=some b)(neg:Bool)(w:World):
  (binOp (if neg then .neq else .eql) t x y).run P w = .ok (.bool (cond neg (!b) b)) w:=by
 have hq:=G41 h 9999 w;have e:binOp (if neg then .neq else .eql) t x y=(do let r <- fW (9999+1) t x y;pure (.bool (cond neg (!r) r)):Sem Value):=by
  unfold C8 at h
  split at h<;>first | (cases h;done) | (cases neg<;>rfl)
 rw[e];cases neg<;>simp only[aS,hq,aM,cond_true,cond_false]<;>rfl
section
variable {β:Type} {P:Program} {d n:Nat} {o:Oper} {T:K0 Value}
theorem W43(ho:o.op = .binOp (if neg then .neq else .eql) t x y yt)(hx:W13 n x=some X1)(hy:W13 n y=some Y1)(z:β)(k:Value->β):
  X4 P (.eq neg (P.underlying t) X1 Y1 o) T z k=z\/∃ v,X4 P (.eq neg (P.underlying t) X1 Y1 o) T z k=k v/\PV P d n o T v:=by
 have E:∀(z:β) (k:Value->β),K20 P T [X1,Y1] o z k=z\/∃ v,K20 P T [X1,Y1] o z k=k v/\PV P d n o T v:=
  Z30 (by simp[ho]) (by simp only[ho,eI];intro q hq;simp at hq;rcases hq with rfl | rfl;exact⟨X1,O2,hx⟩;exact⟨Y1,O2,hy⟩)
 show M55 P T neg (P.underlying t) X1 Y1 o z k=z\/∃ v,M55 P T neg (P.underlying t) X1 Y1 o z k=k v/\_;unfold M55;rw[G2,G2]
 split
 .rename_i vx vy k1 a k2 b e1 e2
  cases hk:eqK k1 k2 with
  | false=>exact .inl rfl
  | true=>
   have hk:=J33 hk;subst hk;dsimp only[cond_true];rw[B21];refine .inr ⟨_,rfl,fun F B w ht => ?_⟩;have h1:=evX ht hx;have h2:=evX ht hy;rw[e1] at h1;rw[e2] at h2;have h1:=h1.int_inv;have h2:=h2.int_inv;refine⟨_,?_,.bool _⟩
   cases neg
   .simp[execOp,ho,h1,h2,eqGuard,binOp,Op.intCmp,Q26]
   .simp[execOp,ho,h1,h2,eqGuard,binOp,Op.intCmp,Q26];rfl
 .cases hs:(G27 (ev T X1) || G27 (ev T Y1)) with
  | false=>exact E z k
  | true=>
   dsimp only[cond_true]
   split
   .rename_i b hb
    rw[B21];refine .inr ⟨_,rfl,fun F B w ht=>⟨_,?_,.bool _⟩⟩;have hr:=Z33 hb (evX ht hx) (evX ht hy);have h1:=Y29 (t':=t) hr (if neg then .neq else .eql) x y w;have h2:=W39 hr neg w;simp only[execOp,ho,aS,h1,h2,aM]
    rfl
   .exact .inl rfl
theorem VR.string_inv{s:ByteArray}{v:Value}(h:VR F (.string s) v):v = .string s:=by cases h;rfl
theorem G13{f:VF}(h:∀ v,f.ev (xs.map (ev T))=some v->PV P d n o T v)(z:β)(k:Value->β):
  X4 P (.vf f xs) T z k=z\/∃ v,X4 P (.vf f xs) T z k=k v/\PV P d n o T v:=by
 show vfK f xs T z k=z\/∃ v,vfK f xs T z k=k v/\_;unfold vfK;rw[C22,J8]
 cases hv:f.ev (xs.map (ev T)) with
 | none=>exact .inl rfl
 | some v=>exact .inr ⟨v,rfl,h v hv⟩
theorem M60(ho:o.op = .binOp (if neg then .neq else .eql) t x y yt)(hx:W13 n x=some X1)(hy:W13 n y=some Y1)(hu:P.underlying t=some .bool)(z:β)(k:Value->β):
  X4 P (.vf (.eqb neg) [X1,Y1]) T z k=z\/∃ v,X4 P (.vf (.eqb neg) [X1,Y1]) T z k=k v/\PV P d n o T v:=by
 refine G13 (fun v hv => ?_) z k;simp only[aC,List.map_nil] at hv;unfold VF.ev at hv
 split at hv<;>first | (rename_i h0 _;cases h0;done) | skip
 .rename_i B a b h0 h1
  cases h0
  simp only[fM,and_true] at h1
  cases hv
  intro F E w ht;have e1:=evX ht hx;have e2:=evX ht hy;rw[h1.1] at e1;rw[h1.2] at e2;have e1:=e1.bool_inv;have e2:=e2.bool_inv;refine⟨_,?_,.bool _⟩;have hq:=run_equalIn_bool' (P:=P) w 9999 t a b hu
  cases neg
  .simp only[execOp,ho,e1,e2,eqGuard,binOp,Op.equal,Op.maxDepth,aS,dQ,if_false]
   simp[hq]
  .simp only[execOp,ho,e1,e2,eqGuard,binOp,Op.equal,Op.maxDepth,aS,if_true]
   simp[hq]
 .cases hv
theorem B20{td:TypeDesc}(ho:o.op = .binOp (if neg then .neq else .eql) t x y yt)(hx:W13 n x=some X1)(hy:W13 n y=some Y1)(hu:P.underlying t=some td)(z:β)(k:Value->β):
  X4 P (.vf (.eqn neg td) [X1,Y1]) T z k=z\/∃ v,X4 P (.vf (.eqn neg td) [X1,Y1]) T z k=k v/\PV P d n o T v:=by
 refine G13 (fun v hv => ?_) z k;simp only[aC,List.map_nil,VF.ev,bU] at hv;obtain⟨b,hb,rfl⟩:=hv;intro F B w ht;refine⟨_,?_,.bool _⟩;rw[<- hu] at hb;have hr:=Z33 hb (evX ht hx) (evX ht hy);have h1:=Y29 (t':=t) hr (if neg then .neq else .eql) x y w;have h2:=W39 hr neg w;simp only[execOp,ho,aS,h1,h2,aM]
 rfl
theorem X52{tag:Nat}{a b a' b':Value}{q:Bool}(ht:W36 (P.underlying t)=some tag)(hc:V34 tag a b=some q)(ha:VR F a a')(hb:VR F b b')(w:World):
  (isAgg t).run P w = .ok false w/\(fW (9998+1) t a' b').run P w = .ok q w:=by
 unfold V34 at hc
 cases hu:P.underlying t with
 | none=>rw[hu] at ht;cases ht
 | some td=>
  rw[hu] at ht;have B:∀ td,P.underlying t=some td->G8 td=false->(isAgg t).run P w = .ok false w:=fun td h1 h2=>by rw[M14 h1,h2]
  split at hc
  .rename_i k1 m1 k2 m2
   cases hk:eqK k1 k2 with
   | false=>rw[hk] at hc;cases hc
   | true=>
    rw[hk] at hc;have:=J33 hk;subst this;simp at hc;subst hc;have e1:=ha.int_inv;have e2:=hb.int_inv;subst e1;subst e2
    cases td<;>simp[W36] at ht
    exact⟨B _ hu rfl,run_equalIn_int w 9998 t _ _ _ _ hu⟩
  .simp at hc;subst hc
   have e1:=ha.bool_inv;have e2:=hb.bool_inv;subst e1;subst e2
   cases td<;>simp[W36] at ht
   exact⟨B _ hu rfl,run_equalIn_bool' w 9998 t _ _ hu⟩
  .simp at hc;subst hc
   have e1:=ha.string_inv;have e2:=hb.string_inv;subst e1;subst e2
   cases td<;>simp[W36] at ht
   exact⟨B _ hu rfl,run_equalIn_string w 9998 t _ _ hu⟩
  .cases hc
theorem V29 {F : FM} {xs ys : List Value} {E L : Array Value} (hx : VL F xs E.toList) (hy : VL F ys L.toList) (w : World) : ∀ {fs : List Field} {offs : List (Nat × Nat)} {r : Bool}, (∀ f ∈ fs, f.name ≠ "_") -> D27 P fs = some offs -> G18 xs ys offs = some r -> (Op.eqFields (9998 + 1) E L fs).run P w = .ok r w
 | [],offs,r,_,h,he=>by simp[D27] at h;subst h;simp[G18] at he;subst he;rfl
 | f :: fs,offs,r,hn,h,he=>by
  simp only[D27] at h
  cases hf:W36 (P.underlying f.type) with
  | none=>simp[hf] at h
  | some tag=>
   cases O:D27 P fs with
   | none=>simp[hf,O] at h
   | some os=>
    simp[hf,O] at h;subst h;simp only[G18,Q8] at he
    cases B:xs[f.offset]? with
    | none=>simp[B] at he
    | some a=>cases J:ys[f.offset]? with
     | none=>simp[B,J] at he
     | some b=>
      simp only[B,J] at he
      cases hc:V34 tag a b with
      | none=>simp[hc] at he
      | some q=>cases M:G18 xs ys os with
       | none=>simp[hc,M] at he
       | some q'=>
        simp[hc,M] at he;subst he;have ih:=V29 hx hy w (fs:=fs) (fun g hg=>hn g (by simp[hg])) O M;obtain⟨a',V,W⟩:=hx.some B;obtain⟨b',U,R⟩:=hy.some J
        have Q : f.name ≠ "_" := hn f O2
        obtain⟨k1,k2⟩:=X52 (P:=P) hf hc W R w;have g1:E[f.offset]? = some a':=by simpa using V
        have g2:L[f.offset]? = some b':=by simpa using U
        unfold Op.eqFields;rw[if_pos Q];simp only[part,aS,k1,aM,dQ,if_false,g1,g2,bD,k2]
        cases q with
        | false=>simp
        | true=>simp[ih]
theorem Q57 {fs:Array Field} {offs:List (Nat × Nat)} (ho:o.op = .binOp (if neg then .neq else .eql) t x y yt) (hx:W13 n x=some X1) (hy:W13 n y=some Y1) (hu:P.underlying t=some (.struct fs)) (B:V43 P t fs.toList=some offs) (z:β) (k:Value->β):
  X4 P (.vf (.eqs neg offs) [X1,Y1]) T z k=z\/∃ v,X4 P (.vf (.eqs neg offs) [X1,Y1]) T z k=k v/\PV P d n o T v:=by
 refine G13 (fun v hv => ?_) z k;simp only[aC,List.map_nil] at hv;unfold V43 at B
 cases hb : (!P.stoodInHeld t && !P.eqGuardType P.depth t && fs.toList.all fun f => f.name != "_") with
 | false=>rw[hb] at B;cases B
 | true=>
  rw[hb] at B;simp only[cond_true] at B;simp only[aG,cJ,iE,bne_iff_ne] at hb;unfold VF.ev at hv
  split at hv<;>first | (rename_i h0 _;cases h0;done) | skip
  .rename_i O L a b h0 h1
   cases h0
   simp only[fM,and_true] at h1;rw[bU] at hv;obtain⟨r,hr,rfl⟩:=hv;intro F Q w ht;have e1:=evX ht hx;have e2:=evX ht hy;rw[h1.1] at e1;rw[h1.2] at e2;obtain⟨a',ea,M⟩:=e1.agg_inv;obtain⟨b',eb,J⟩:=e2.agg_inv;refine⟨_,?_,.bool _⟩;have E:P.fieldsOf t=fs:=by simp[Program.fieldsOf,hu]
   have hq:(fW (9999+1) t (.agg a') (.agg b')).run P w = .ok r w:=by
    rw[run_equalIn_struct w 9999 t a' b' (by rw[E];exact hu) hb.1.1,E];exact V29 M J w hb.2 B hr
   have hg:=run_eqGuard_agg (P:=P) w (if neg then .neq else .eql) t x y a' b' hb.1.2;simp only[execOp,ho,ea,eb,aS,hg,aM]
   cases neg
   .have:=run_eql_struct (P:=P) w t a' b'
    simp only[dQ,if_false] at this ⊢;rw[this,hq];rfl
   .have:=run_neq_struct (P:=P) w t a' b'
    simp only[if_true] at this ⊢;rw[this,hq];rfl
  .cases hv
theorem K55(ho:o.op = .indexAddr t x ix)(hx:W13 n x=some X1)(E:W13 n ix=some I1)(B:P.underlying t=some (.slice e))(hi:P.info? e=some i)(z:β)(k:Value->β):X4 P (.idx X1 I1 none i.size) T z k=z\/∃ v,X4 P (.idx X1 I1 none i.size) T z k=k v/\PV P d n o T v:=by
 show R30 X1 I1 none i.size T z k=z\/∃ v,R30 X1 I1 none i.size T z k=k v/\_;unfold R30;rw[G2]
 split
 .rename_i kk m hv
  rw[G2];unfold N41
  split
  .rename_i a len c e1 e2
   obtain⟨b,o',s'⟩:=a
   cases hb:dE m len with
   | false=>exact .inl rfl
   | true=>
    dsimp only[cond_true];unfold U19;rw[G1];refine .inr ⟨_,rfl,fun F L w ht => ?_⟩;have h1:=evX ht hx;have h2:=evX ht E;rw[e2] at h1;rw[hv] at h2;have hm:m<len:=by simpa using hb
    obtain⟨rfl,tt,c',hF,he,_⟩:=h1.slice_invP O0;have h2:=h2.int_inv;refine⟨.pointer (some ⟨tt.blk,tt.base+(o'+m*i.size),none⟩),?_,.ptr hF⟩;have J:(0:Int)<=Int.ofNat m/\Int.ofNat m<(len:Int):=⟨Int.natCast_nonneg m,by simpa using hm⟩
    simp only[execOp,ho,he,h2,Instr.indexAt,asIntOf,aS,bD,aM,run_underlying B];simp[hm,J15 hi,X11,eH]
  .rename_i e1 _;cases e1
  .exact .inl rfl
 .exact .inl rfl
theorem G53(ho:o.op = .indexAddr t x ix)(hx:W13 n x=some X1)(E:W13 n ix=some I1)(B:P.underlying t=some (.array len e))(hi:P.info? e=some i)(z:β)(k:Value->β):X4 P (.idx X1 I1 (some len) i.size) T z k=z\/∃ v,X4 P (.idx X1 I1 (some len) i.size) T z k=k v/\PV P d n o T v:=by
 show R30 X1 I1 (some len) i.size T z k=z\/∃ v,R30 X1 I1 (some len) i.size T z k=k v/\_;unfold R30;rw[G2]
 split
 .rename_i kk m hv
  rw[G2];unfold N41
  split
  .rename_i e1 _;cases e1
  .rename_i J a e1 e2
   cases e1
   obtain⟨b,o',s'⟩:=a
   cases hb:dE m len with
   | false=>exact .inl rfl
   | true=>
    dsimp only[cond_true];unfold U19;rw[G1];refine .inr ⟨_,rfl,fun F L w ht => ?_⟩;have h1:=evX ht hx;have h2:=evX ht E;rw[e2] at h1;rw[hv] at h2;obtain⟨rfl,tt,hF,he⟩:=h1.ptr_inv;have h2:=h2.int_inv;have hm:m<len:=by simpa using hb
    refine⟨.pointer (some ⟨tt.blk,tt.base+(o'+m*i.size),none⟩),?_,.ptr hF⟩;simp only[execOp,ho,he,h2,Instr.indexAt,asIntOf,Instr.sureAddr,aS,bD,aM,run_underlying B];simp[hm,J15 hi,X11,eH]
  .exact .inl rfl
 .exact .inl rfl
theorem E55(ho:o.op = .index t x ix)(hx:W13 n x=some X1)(B:W13 n ix=some I1)(hu:P.underlying t=some .string)(z:β)(k:Value->β):
  X4 P (.vf .sidx [X1,I1]) T z k=z\/∃ v,X4 P (.vf .sidx [X1,I1]) T z k=k v/\PV P d n o T v:=by
 refine G13 (fun v hv => ?_) z k;simp only[aC,List.map_nil] at hv;unfold VF.ev at hv
 split at hv<;>first | (rename_i h0 _;cases h0;done) | skip
 .rename_i s kd m h0 h1
  simp only[fM,and_true] at h1;unfold J52 at hv;rw[bU] at hv;obtain⟨b,hb,rfl⟩:=hv;intro F E w ht;have e1:=evX ht hx;have e2:=evX ht B;rw[h1.1] at e1;rw[h1.2] at e2;have e1:=e1.string_inv;have e2:=e2.int_inv;refine⟨_,?_,.int _ _⟩;simp only[execOp,ho,e1,e2,Instr.index,asIntOf,aS,bD,aM,run_underlying hu,hb]
 .cases hv
theorem K59{B:TypeId}{kk:Nat}(ho:o.op = .sliceToArrayPointer B x)(hx:W13 n x=some X1)(hu:P.underlying B=some (.array kk e))(z:β)(k:Value->β):
  X4 P (.vf (.s2a kk) [X1]) T z k=z\/∃ v,X4 P (.vf (.s2a kk) [X1]) T z k=k v/\PV P d n o T v:=by
 refine G13 (fun v hv => ?_) z k;simp only[aC,List.map_nil] at hv;unfold VF.ev at hv
 split at hv<;>first | (rename_i h0 _;cases h0;done) | skip
 .rename_i J b o' len cap h0 h1
  cases h0
  simp only[fM,and_true] at h1
  cases hb:dD kk len with
  | false=>rw[hb] at hv;cases hv
  | true=>
   rw[hb] at hv
   cases hv
   have E:=Nat.le_of_ble_eq_true hb;intro F L w ht;have e1:=evX ht hx;rw[h1] at e1;obtain⟨_,tt,c',hF,he,_⟩:=e1.slice_inv;refine⟨_,?_,.ptr hF⟩;simp only[execOp,ho,he,aS,bD,aM,Instr.arrayAt,run_underlying hu];simp[Nat.not_lt.2 E]
 .cases hv
theorem M59{mx:Bool}{F:FM}(w:World):∀ {l l':List Value} {x v:Value},VL F l l'->mmV mx x l=some v->(l'.foldlM (if mx then Builtin.max2 else Builtin.min2) x).run P w = .ok v w/\X7 v=true
 | [],l',x,v,hl,h=>by
  cases hl
  cases x<;>simp[mmV] at h
  subst h;exact⟨rfl,rfl⟩
 | y :: l,l',x,v,hl,h=>by
  cases hl with
  | cons hy hl=>
   unfold mmV at h
   split at h
   .rename_i h0;cases h0
   .rename_i h0
    simp only[fM] at h0;obtain⟨rfl,rfl⟩:=h0;have e:=hy.int_inv;subst e;have ih:=M59 w hl h;refine⟨?_,ih.2⟩;rw[List.foldlM_cons]
    cases mx
    .simp only[dQ,if_false,Builtin.min2,aS,bD,aM] at ih ⊢
     exact ih.1
    .simp only[if_true,Builtin.max2,aS,bD,aM] at ih ⊢
     exact ih.1
   .cases h
theorem Q24{mx:Bool}{c:Call}(ho:o.op = .call c)(hc:c.callee = .builtin (if mx then .max else .min))(J:U7 n c.args.toList=some xs)(z:β)(k:Value->β):
  X4 P (.vf (.mm mx) xs) T z k=z\/∃ v,X4 P (.vf (.mm mx) xs) T z k=k v/\PV P d n o T v:=by
 refine G13 (fun v hv => ?_) z k;intro F E w ht;have hl:=W48 ht J (by rw[ho];intro q hq;simp only[eI,fL,hc];exact fQ.2 (by simpa using hq));generalize O:xs.map (ev T)=ys at hv hl;generalize L:c.args.toList.map E.eval=zs at hl
 cases hl with
 | nil=>simp[VF.ev] at hv
 | @cons x x' l l' hx hl=>
  have B:mmV mx x l=some v:=hv;have M:x'=x:=by
   unfold mmV at B
   split at B
   .exact hx.int_inv
   .exact hx.int_inv
   .cases B
  obtain⟨h1,h2⟩:=M59 (P:=P) w hl B;refine⟨v,?_,C6 F v h2⟩;have hm:(c.args.map E.eval).toList=x :: l':=by rw[<- M];simpa using L
  cases mx
  .simp only[dQ,if_false] at h1 hc
   simp only[execOp,ho,resolve,hc,invoke,builtin,Builtin.min_,aS,bD,aM,hm,h1]
  .simp only[if_true] at h1 hc
   simp only[execOp,ho,resolve,hc,invoke,builtin,Builtin.max_,aS,bD,aM,hm,h1]
theorem Z52(ho:o.op = .index t x ix)(hx:W13 n x=some X1)(L:W13 n ix=some I1)(J:P.underlying t=some (.array len e))(hi:P.info? e=some i)(hd:P.underlying e=some dd)(z:β)(k:Value->β):
  X4 P (.aidx X1 I1 len i.size (G8 dd)) T z k=z\/∃ v,X4 P (.aidx X1 I1 len i.size (G8 dd)) T z k=k v/\PV P d n o T v:=by
 show D41 X1 I1 len i.size (G8 dd) T z k=z\/∃ v,D41 X1 I1 len i.size (G8 dd) T z k=k v/\_;unfold D41;rw[G2]
 split
 .rename_i kk m hv
  rw[G2]
  split
  .rename_i cs e2
   cases hb:dE m len with
   | false=>exact .inl rfl
   | true=>
    dsimp only[cond_true];have B:E8 P e=some (cond (G8 dd) (some i.size) none):=by simp[E8,hd,hi]
    rcases J39 B cs.toList (m*i.size) z k with h | ⟨v,h,hp⟩
    .exact .inl h
    .refine .inr ⟨v,h,fun F M w ht => ?_⟩
     have h1:=evX ht hx;have h2:=evX ht L;rw[e2] at h1;rw[hv] at h2;obtain⟨x',he,hl⟩:=h1.agg_inv;have h2:=h2.int_inv;obtain⟨v',E,hr⟩:=hp F x' w hl;have hm:m<len:=by simpa using hb
     refine⟨v',?_,hr⟩;simp only[execOp,ho,he,h2,Instr.index,asIntOf,aS,bD,aM,run_underlying J];simp[hm,J15 hi,E]
  .exact .inl rfl
 .exact .inl rfl
theorem X27(a:Act)(parts:Array (Nat × Operand)):(parts.map fun(i,x)=>(i,a.eval x)).toList=parts.toList.map fun p=>(p.1,a.eval p.2):=by
 simp
theorem C28{parts:Array (Nat × Operand)}{ps:List (Nat × X)}{zero:List Value}{pl:List (Nat × Nat)}(ho:o.op = .build t parts)(R:R16 n parts.toList=some ps)(hz:M10 P t=some zero)(E:(∃ B,P.underlying t=some (.struct B)/\R13 P B.toList=some pl)\/(∃ kk e i,P.underlying t=some (.array kk e)/\P.info? e=some i/\pl=Y27 kk i.size))(z:β)(k:Value->β):X4 P (.build zero pl ps) T z k=z\/∃ v,X4 P (.build zero pl ps) T z k=k v/\PV P d n o T v:=by
 show W35 zero pl ps T z k=z\/∃ v,W35 zero pl ps T z k=k v/\_;unfold W35;rw[J45]
 split
 .rename_i cs hf
  rw[V14];refine .inr ⟨_,rfl,fun F O w ht => ?_⟩;obtain⟨it,v,J,M,Q,L,_,_⟩:=X14 hz;subst Q;have hp:=G62 ht R (by rw[ho];intro p hp;simp only[eI];exact fQ.2 (by simp;exact⟨p.1,by simpa using hp⟩));rcases E with ⟨B,hu,E⟩ | ⟨kk,e,i,hu,hi,E⟩
  .obtain⟨r',hr,hl⟩:=B24 (pl:=R8 pl) (pl':=(pl.toArray[·]?)) (fun i p h=>by rw[Q8] at h;simpa using h) hp (X12 L F) hf
   refine⟨.agg r',?_,?_⟩
   .have hb:P.built t (parts.map fun(i,x)=>(i,O.eval x)).toList=some r':=by
     rw[X27];simp only[Program.built,J,hu,M,B34 E];exact hr
    simp only[execOp,ho,aS,run_build w t _ r' hb,aM];rfl
   .have:r'=⟨r'.toList⟩:=rfl
    rw[this];exact VR.agg' hl
  .obtain⟨r',hr,hl⟩:=B24 (pl:=R8 pl) (pl':=fun k=>some (k*i.size,i.size)) (fun j p h=>by
    rw[Q8,E] at h;unfold Y27 at h;rw[cP] at h
    cases hj:(aY kk)[j]? with
    | none=>rw[hj] at h;cases h
    | some q=>
     rw[hj] at h;have:q=j:=by
      have U:j<kk:=by
       rcases aW j kk with g | g
       .exact g
       .simp[g] at hj
      simp[U] at hj;exact hj.symm
     subst this;simpa using h) hp (X12 L F) hf
   refine⟨.agg r',?_,?_⟩
   .have hb:P.built t (parts.map fun(i,x)=>(i,O.eval x)).toList=some r':=by
     rw[X27];simp only[Program.built,J,hu,M,hi];exact hr
    simp only[execOp,ho,aS,run_build w t _ r' hb,aM];rfl
   .have:r'=⟨r'.toList⟩:=rfl
    rw[this];exact VR.agg' hl
 .exact .inl rfl
theorem D59{fn:Fn}{first B:Array Operand}{f c:List X}(ho:o.op = .makeFunc fn first B)(hf:U7 n first.toList=some f)(hc:U7 n B.toList=some c)(z:β)(k:Value->β):X4 P (.mkf fn f c) T z k=z\/∃ v,X4 P (.mkf fn f c) T z k=k v/\PV P d n o T v:=by
 show(U17 T f fun f=>U17 T c fun c=>k (.func fn ⟨f⟩ ⟨c⟩))=z\/∃ v,(U17 T f fun f=>U17 T c fun c=>k (.func fn ⟨f⟩ ⟨c⟩))=k v/\_;rw[C22,C22];refine .inr ⟨_,rfl,fun F E w ht=>⟨.func fn (first.map E.eval) (B.map E.eval),?_,?_⟩⟩
 .simp[execOp,ho,Instr.makeFunc]
 .have h1:=W48 ht hf (by rw[ho];intro q hq;simp[eI];exact .inl (by simpa using hq))
  have h2:=W48 ht hc (by rw[ho];intro q hq;simp[eI];exact .inr (by simpa using hq));exact .func fn (by simpa using h1.length) (fun i v v' a b=>h1.get i v v' (by simpa using a) (by simpa using b)) (by simpa using h2.length) (fun i v v' a b=>h2.get i v v' (by simpa using a) (by simpa using b))
theorem G59{y:X}(ho:o.op = .makeInterface t x)(hx:W13 n x=some y)(hu:P.underlying t=some dd)(hn:∀ ms,dd ≠ .interface ms)(z:β)(k:Value->β):X4 P (.mki t y) T z k=z\/∃ v,X4 P (.mki t y) T z k=k v/\PV P d n o T v:=by
 show(W4 T y fun v=>k (.iface t v))=z\/∃ v,(W4 T y fun v=>k (.iface t v))=k v/\_;rw[G2];refine .inr ⟨_,rfl,fun F B w ht=>⟨.iface t (B.eval x),?_,.iface t (evX ht hx)⟩⟩
 cases dd<;>simp[execOp,ho,Instr.makeInterface,run_underlying hu]
 exact absurd rfl (hn _)
end
end
section
variable {F:FM} {H1 L1:Option X} {P:Program} {X1:X} {cap len m:Nat} {hi hi' lo lo' mx:Option Value} {i:IP} {t:TypeId} {v:Value} {x:Operand}
def OV(F:FM)(x x':Option Value):Prop:=(x=none/\x'=none)\/∃ v v',x=some v/\x'=some v'/\VR F v v'
theorem OV.of{n:Nat}{o:Oper}{T:K0 Value}{a:Act}(ht:OR n o F T a){x:Option Operand}{y:Option X}(h:B71 n x=some y)(hm:∀ q,x=some q->q ∈ o.op.operands:=by rw[(‹o.op=_› : o.op=_)];intro q hq;subst hq;simp[Op.operands]):OV F (y.map (ev T)) (x.map a.eval):=by
 rcases evO ht h hm with ⟨rfl,rfl⟩ | ⟨x1,y1,rfl,rfl,hv⟩
 .exact .inl ⟨rfl,rfl⟩
 .exact .inr ⟨_,_,rfl,rfl,hv⟩
theorem M11{v':Value}{top B:Nat}(h:Y13 (some v) top=some m)(hv:VR F v v')(ht:top<=B)(E:BoundsCode)(w:World):
  (Instr.sliceBound v' B E).run P w = .ok m w/\m<=top:=by
 simp only[Y13] at h
 split at h
 .rename_i kk nn
  split at h
  .rename_i q
   cases hb:dD q top with
   | false=>rw[hb] at h;cases h
   | true=>
    rw[hb] at h;simp only[cond_true,aZ] at h;subst h;have hq:q<=top:=Nat.le_of_ble_eq_true hb;rw[hv.int_inv];refine⟨?_,hq⟩;have:q<=B:=bK hq ht;simp[Instr.sliceBound,asIntOf,this]
  .cases h
 .cases h
theorem Z18{mx':Option Value}(E:OV F lo lo')(L:OV F hi hi')(V:OV F mx mx'){cap' h l:Nat}(hcap:cap<=cap')(em:Y13 mx cap=some m)(eh:hiA hi mx len m=some h)(el:loA lo h=some l)(R:Bool)(w:World):
  (fP R len cap' lo' hi' mx').run P w = .ok (l,h,if mx.isNone then cap' else m) w/\(mx=none->m=cap)/\(mx≠none->m<=cap):=by
 rcases V with ⟨rfl,rfl⟩ | ⟨vm,W,rfl,rfl,Q⟩
 .simp only[Y13,aZ] at em
  subst em;rcases L with ⟨rfl,rfl⟩ | ⟨vh,U,rfl,rfl,J⟩
  .simp only[hiA,aZ] at eh
   subst eh;rcases E with ⟨rfl,rfl⟩ | ⟨vl,M,rfl,rfl,B⟩
   .simp only[loA,aZ] at el
    subst el;simp[fP]
   .have:=(M11 (P:=P) el B (aD _) .sliceB w).1
    simp[fP,this]
  .have h1:=fun c=>(M11 (P:=P) eh J hcap c w).1
   rcases E with ⟨rfl,rfl⟩ | ⟨vl,M,rfl,rfl,B⟩
   .simp only[loA,aZ] at el
    subst el;simp[fP,h1]
   .have h2:=(M11 (P:=P) el B (aD _) .sliceB w).1
    simp[fP,h1,h2]
 .have h0:=fun c=>(M11 (P:=P) em Q hcap c w).1
  have O:=(M11 (P:=P) em Q hcap .index w).2;rcases L with ⟨rfl,rfl⟩ | ⟨vh,U,rfl,rfl,J⟩
  .simp[hiA] at eh
  .have h1:=fun c=>(M11 (P:=P) eh J (aD _) c w).1
   rcases E with ⟨rfl,rfl⟩ | ⟨vl,M,rfl,rfl,B⟩
   .simp only[loA,aZ] at el
    subst el;simp[fP,h0,h1,O]
   .have h2:=(M11 (P:=P) el B (aD _) .slice3C w).1
    simp[fP,h0,h1,h2,O]
theorem B23{a:Option Addr}{size:Nat}{B:Bool}{r:Value}(h:B26 a len cap size lo hi mx B=some r):
  ∃ m hh l,Y13 mx cap=some m/\hiA hi mx len m=some hh /\
   loA lo hh=some l /\
   (match a with
    | none=>r = .slice none (hh-l) (m-l)
    | some a=>l<=m/\¬ (B=true/\mx=none/\m=l/\l≠0)/\r = .slice (some (if m=l then a else { block:=a.block,off:=a.off+l*size,spot:=a.spot })) (hh-l) (m-l)):=by
 unfold B26 at h
 split at h
 .cases h
 .rename_i m em
  split at h
  .cases h
  .rename_i hh eh
   split at h
   .cases h
   .rename_i l el
    refine⟨m,hh,l,em,eh,el,?_⟩
    split at h
    .simp only[aZ] at h;exact h.symm
    .rename_i a
     cases hb:((B&&mx.isNone&&bR m l && !(bR l 0)) || !(dD l m)) with
     | true=>rw[hb] at h;cases h
     | false=>
      rw[hb] at h;simp only[cond_false,aZ] at h;subst h;rw[Bool.or_eq_false_iff] at hb;obtain⟨hb,J⟩:=hb;refine⟨by simpa using J,?_,?_⟩
      .rintro⟨rfl,rfl,rfl,h0⟩
       simp[h0] at hb
      .by_cases E:m=l
       .subst E;simp
       .have:bR m l=false:=by
         cases hq:bR m l with
         | false=>rfl
         | true=>exact absurd (dI hq) E
        simp[this,E]
section
variable {β:Type} {P:Program} {d n:Nat} {o:Oper} {T:K0 Value}
theorem B60{lo hi mx:Option Operand}{M1:Option X}{kk:Nat}{e:TypeId}{i:TypeInfo}(ho:o.op = .slice t x lo hi mx)(hx:W13 n x=some X1)(J:B71 n lo=some L1)(L:B71 n hi=some H1)(M:B71 n mx=some M1)(hu:P.underlying t=some (.array kk e))(hi':P.info? e=some i)(z:β)(k:Value->β):
  X4 P (.slA X1 kk i.size L1 H1 M1) T z k=z\/∃ v,X4 P (.slA X1 kk i.size L1 H1 M1) T z k=k v/\PV P d n o T v:=by
 show U52 X1 kk i.size L1 H1 M1 T z k=z\/∃ v,U52 X1 kk i.size L1 H1 M1 T z k=k v/\_;unfold U52;rw[G2,C15,C15,C15]
 split
 .rename_i a hv
  split
  .rename_i r hr
   rw[E7];refine .inr ⟨r,rfl,fun F O w ht => ?_⟩;obtain⟨b,o',s'⟩:=a;have h1:=evX ht hx;rw[hv] at h1;obtain⟨rfl,tt,hF,he⟩:=h1.ptr_inv;obtain⟨m,hh,l,em,eh,el,_,_,hr⟩:=B23 hr;obtain⟨B,c1,c2⟩:=Z18 (P:=P) (OV.of ht J) (OV.of ht L) (OV.of ht M) (aD kk) em eh el false w;have hm:(if (M1.map (ev T)).isNone then kk else m)=m:=by
    cases hM:M1.map (ev T) with
    | none=>simp[c1 hM]
    | some _=>simp
   rw[hm] at B;subst hr;refine⟨.slice (some (if m=l then ⟨tt.blk,tt.base+o',none⟩ else ⟨tt.blk,tt.base+(o'+l*i.size),none⟩)) (hh-l) (m-l),?_,?_⟩
   .simp only[execOp,ho,Instr.sliceAt,aS,run_underlying hu,aM,he,Instr.sureAddr,bD,B,J15 hi',X11,eH]
   .by_cases E:m=l
    .simp only[E,if_true];exact .slice hF (.inl rfl)
    .simp only[E,if_false];exact .slice hF (.inl rfl)
  .exact .inl rfl
 .exact .inl rfl
theorem C67{s:ByteArray}(E:OV F lo lo')(B:OV F hi hi')(h:G31 s lo hi=some v)(hu:P.underlying t=some .string)(w:World):
  (Instr.slice t (.string s) lo' hi' none).run P w = .ok v w/\X7 v=true:=by
 unfold G31 at h
 split at h
 .cases h
 .rename_i hh eh
  split at h
  .cases h
  .rename_i l el
   cases h
   refine⟨?_,rfl⟩;have hb:=Z18 (P:=P) E B (mx:=none) (mx':=none) (.inl ⟨rfl,rfl⟩) (len:=s.size) (cap:=s.size) (cap':=s.size) (m:=s.size) (h:=hh) (l:=l) (aD _) rfl (by
    cases hi with
    | none=>simpa [hiA] using eh
    | some q=>simpa [hiA] using eh) (by
    cases lo with
    | none=>simpa [loA] using el
    | some q=>simpa [loA] using el) false w
   simp only[Instr.slice,aS,run_underlying hu,aM,gO,dQ,if_false,bD,hb.1]
theorem N59{lo hi:Option Operand}{X1:X}(ho:o.op = .slice t x lo hi none)(hx:W13 n x=some X1)(J:B71 n lo=some L1)(M:B71 n hi=some H1)(hu:P.underlying t=some .string)(z:β)(k:Value->β):
  X4 P (.vf (.ssl L1.isSome H1.isSome) (X1 :: (L1.toList++H1.toList))) T z k=z\/∃ v,X4 P (.vf (.ssl L1.isSome H1.isSome) (X1 :: (L1.toList++H1.toList))) T z k=k v/\PV P d n o T v:=by
 refine G13 (fun v hv => ?_) z k;have L:∃ s,ev T X1 = .string s/\G31 s (L1.map (ev T)) (H1.map (ev T))=some v:=by
  cases L1<;>cases H1<;>simp only[gO,Option.isSome_some,Option.toList_none,Option.toList_some,eR,dL,gV,aC,List.map_nil] at hv <;>
   (unfold VF.ev at hv;split at hv<;>first | (rename_i h0 _;cases h0;done) | (rename_i h0 h1;cases h0;simp only[fM,and_true] at h1;first | exact⟨_,h1,hv⟩ | (obtain⟨e1,e2⟩:=h1;subst e2;exact⟨_,e1,hv⟩) | (obtain⟨e1,e2,e3⟩:=h1;subst e2;subst e3;exact⟨_,e1,hv⟩)) | cases hv)
 obtain⟨s,hs,hv⟩:=L;intro F O w ht;have e1:=evX ht hx;rw[hs] at e1;have e1:=e1.string_inv;obtain⟨B,E⟩:=C67 (P:=P) (OV.of ht J) (OV.of ht M) hv hu w;refine⟨v,?_,C6 F v E⟩;simp only[execOp,ho,Instr.sliceAt,e1,Option.map_none,aS,run_underlying hu,aM,B,bD]
theorem N67 (h : G19 P n o = some (.p i)) (z : β) (k : Value -> β) :
    X4 P i T z k = z \/ ∃ v, X4 P i T z k = k v /\ PV P d n o T v := by
  unfold G19 at h
  split at h
  · rename_i x ho
    cases hx : W13 n x with
    | none => simp [hx] at h
    | some y => simp [hx] at h; subst h; exact C43 (.inl ho) hx z k
  · rename_i x ho
    cases hx : W13 n x with
    | none => simp [hx] at h
    | some y => simp [hx] at h; subst h; exact C43 (.inr ho) hx z k
  · rename_i c a b ho
    split at h
    · rename_i h1 h2 h3; cases h; exact U55 ho h1 h2 h3 z k
    · cases h
  · rename_i op t x y yt ho
    split at h
    · rename_i h1 h2
      split at h
      · cases h; exact J26 ho h1 h2 z k
      · rename_i neg he
        have ho' : o.op = .binOp (if neg then .neq else .eql) t x y yt := by
          cases op <;> simp [N69] at he <;> subst he <;> simpa using ho
        split at h
        · cases h; exact J26 ho h1 h2 z k
        · cases h; exact J26 ho h1 h2 z k
        · rename_i hu; cases h; exact M60 ho' h1 h2 hu z k
        · rename_i hu; cases h; exact B20 ho' h1 h2 hu z k
        · rename_i hu; cases h; exact B20 ho' h1 h2 hu z k
        · rename_i hu; cases h; exact B20 ho' h1 h2 hu z k
        · rename_i hu; cases h; exact B20 ho' h1 h2 hu z k
        · rename_i fs hu
          split at h
          · rename_i offs hof; cases h; exact Q57 ho' h1 h2 hu hof z k
          · cases h; exact W43 ho' h1 h2 z k
        · cases h; exact W43 ho' h1 h2 z k
    · cases h
  · rename_i u t x ho
    split at h
    · rename_i h1
      cases h
      exact C63 ho h1 z k
    · cases h
  · rename_i s x f ho
    split at h
    · rename_i fs h1 h2
      split at h
      · rename_i fd hf
        split at h
        · rename_i inf hi
          cases hz : Nat.beq inf.size 0 with
          | true => rw [hz] at h; cases h
          | false =>
            rw [hz] at h; cases h
            rw [Q8] at hf
            exact K57 ho h1 h2 (by simpa using hf) hi (fun e => by rw [e] at hz; cases hz) z k
        · cases h
      · cases h
    · cases h
  · rename_i t x ix ho
    split at h
    · rename_i h1 h2 h3
      split at h
      · rename_i hi; cases h; exact K55 ho h1 h2 h3 hi z k
      · cases h
    · rename_i h1 h2 h3
      split at h
      · rename_i hi; cases h; exact G53 ho h1 h2 h3 hi z k
      · cases h
    · cases h
  · rename_i x ho
    cases hx : W13 n x with
    | none => simp [hx] at h
    | some y => simp [hx] at h; subst h; exact M52 ho hx z k
  · rename_i x j ho
    cases hx : W13 n x with
    | none => simp [hx] at h
    | some y => simp [hx] at h; subst h; exact B59 ho hx z k
  · rename_i t x f ho
    split at h
    · rename_i fs h1 h2
      split at h
      · rename_i fd hf
        cases hs : E8 P fd.type with
        | none => simp [hs] at h
        | some sh =>
          simp [hs] at h; subst h
          rw [Q8] at hf
          exact V54 ho h1 h2 (by simpa using hf) hs z k
      · cases h
    · cases h
  · rename_i t x ix ho
    split at h
    · rename_i h1 h2 h3
      split at h
      · rename_i hi hd; cases h; exact Z52 ho h1 h2 h3 hi hd z k
      · cases h
    · rename_i h1 h2 h3
      cases h
      exact E55 ho h1 h2 h3 z k
    · cases h
  · rename_i t parts ho
    split at h
    · rename_i fields zz ps h1 h2 h3
      cases hp : R13 P fields.toList with
      | none => simp [hp] at h
      | some pl => simp [hp] at h; subst h; exact C28 ho h3 h2 (.inl ⟨fields, h1, hp⟩) z k
    · rename_i kk e zz ps h1 h2 h3
      split at h
      · rename_i hi; cases h; exact C28 ho h3 h2 (.inr ⟨_, _, _, h1, hi, rfl⟩) z k
      · cases h
    · cases h
  · rename_i t x lo hi mx ho
    split at h
    · rename_i h1 h2 h3 h4 h5
      split at h
      · rename_i inf hinf; cases hb : Nat.blt inf.size 1000 <;> (rw [hb] at h; cases h)
      · cases h
    · rename_i h1 h2 h3 h4 h5
      split at h
      · rename_i hinf; cases h; exact B60 ho h1 h2 h3 h4 h5 hinf z k
      · cases h
    · rename_i x1 lo1 hi1 h1 h2 h3 h4 h5
      cases h
      have hmx : mx = none := by
        cases mx with
        | none => rfl
        | some q => simp only [B71] at h4; cases hq : W13 n q <;> simp [hq] at h4
      subst hmx
      exact N59 ho h1 h2 h3 h5 z k
    · cases h
  · rename_i fn first captured ho
    split at h
    · rename_i h1 h2; cases h; exact D59 ho h1 h2 z k
    · cases h
  · rename_i t x ho
    split at h
    · cases h
    · rename_i h1 h2 h3
      cases h
      exact G59 ho h2 h3 (fun ms e => h1 ms e) z k
    · cases h
  all_goals first
    | (rename_i arr x ho
       split at h
       · rename_i h1 h2
         cases h
         exact K59 ho h1 h2 z k
       · cases h)
    | (rename_i c ho
       split at h
       · split at h <;> cases h
       · split at h
         · split at h
           · split at h
             · split at h
               · cases h
               · rw [Bool.cond_eq_ite] at h
                 split at h
                 · split at h <;> cases h
                 · cases h
             · cases h
           · cases h
         · cases h
       · split at h
         · split at h
           · cases hq : P.info? _ <;> rw [hq] at h <;> cases h
           · cases h
         · cases h
       · split at h
         · split at h <;> cases h
         · cases h
       · cases hq : U7 n c.args.toList with
         | none => rw [hq] at h; cases h
         | some xs =>
           rw [hq] at h; cases h
           rename_i hcal
           first | exact Q24 (mx := false) ho hcal hq z k | exact Q24 (mx := true) ho hcal hq z k
       · cases hq : U7 n c.args.toList with
         | none => rw [hq] at h; cases h
         | some xs =>
           rw [hq] at h; cases h
           rename_i hcal
           first | exact Q24 (mx := false) ho hcal hq z k | exact Q24 (mx := true) ho hcal hq z k
       · split at h
         · split at h
           · cases h
           · cases hq : M10 P _ <;> rw [hq] at h <;> cases h
           · cases h
         · cases h
       · cases h)
    | (cases h; done)
    | (split at h <;> cases h; done)
    | (repeat' (first | (cases h; done) | split at h))
    | skip
  all_goals first
    | (rw [Bool.cond_eq_ite] at h; split at h <;> cases h; done)
    | (rw [Option.map_eq_some_iff] at h; obtain ⟨_, _, h⟩ := h; cases h; done)
theorem K61(h:W18 P n o=some (.p i))(z:β)(k:Value->β):
  X4 P i T z k=z\/∃ v,X4 P i T z k=k v/\PV P d n o T v:=by
 rcases E20 h with h | h
 .exact N67 h z k
 .cases h;exact .inl (by simp only[X4,vfK,U17];rfl)
end
end
section
variable {F:FM} {H:Y0} {P:Program} {b:V3} {c:List Value} {dst src t:TypeId} {i nx:Nat} {kd:TypeDesc} {sh:Option Nat} {v:Value} {w:World} {x:Operand} {y:X}
structure HB (F:FM) (H:Y0) (nx:Nat) (w:World):Prop where
 blk:∀ i b,i<nx->J0 H i=some b->∃ t,F i=some t/\BR F t b w
 fresh:∀ i,nx<=i->F i=none
theorem HR.hb(h:HR F H nx w):HB F H nx w:=⟨h.blk,h.fresh⟩
theorem HB.lt(h:HB F H nx w){t:J7}(hi:F i=some t):i<nx:=by
 rcases aW i nx with g | g
 .exact g
 .rw[h.fresh i g] at hi;cases hi
theorem HB.get(h:HB F H nx w){t:J7}(hi:F i=some t)(hb:J0 H i=some b):BR F t b w:=by
 obtain⟨t',B,hr⟩:=h.blk i b (h.lt hi) hb;rw[hi] at B;cases B;exact hr
def RV(P:Program)(d n nx:Nat)(o:Oper)(T:K0 Value)(H:Y0)(v:Value):Prop:=
 ∀(F:FM) (a:Act) (w:World),OR n o F T a->HB F H nx w->∃ v',(execOp a.eval o).run P w = .ok (.value v') w/\VR F v v'
theorem PV.rv{d n:Nat}{o:Oper}{T:K0 Value}(h:PV P d n o T v)(nx:Nat)(H:Y0):RV P d n nx o T H v:=fun F a w ht _=>h F a w ht
def V3.row:V3->Option (List Value)
 | .cells c _=>some c
 | .rom c=>some c
 | _=>none
theorem BR.row{F:FM}{t:J7}{b:V3}{c:List Value}{w:World}(h:BR F t b w)(hc:b.row=some c):
  ∃ c' e m,w.heap[t.blk]? = some (.cells c' e m)/\t.base+c.length<=c'.size/\VL F c ((c'.toList.drop t.base).take c.length):=by
 cases b with
 | cells c1 sl=>cases hc;obtain⟨c',e,h1,h2,h3,h4,h5,h6⟩:=h;exact⟨c',e,_,h1,O0,h6⟩
 | rom c1=>cases hc;obtain⟨c',e,m,h1,h2,h3,h4,h5,h6⟩:=h;exact⟨c',e,m,h1,O0,h6⟩
 | map es k=>cases hc
theorem B62{t:J7}(h:BR F t b w)(E:b.row=some c){j:Nat}(hv:c[j]? = some v):
  ∃ v',w.cell? ⟨t.blk,t.base+j,none⟩=some v'/\VR F v v':=by
 obtain⟨c',e,m,h1,h5,h6⟩:=h.row E;obtain⟨v',B,hr⟩:=h6.some hv;refine⟨v',?_,hr⟩;have hj:j<c.length:=by
  rcases aW j c.length with g | g
  .exact g
  .simp[aT g] at hv
 simp[hj] at B;simp[cB,h1,B]
theorem E31{α:Type}:∀ {n:Nat} {l r:List α},G5 n l=some r->r=l.take n/\r.length=n
 | 0,l,r,h=>by simp[G5] at h;subst h;simp
 | n+1,[],r,h=>by simp[G5] at h
 | n+1,a :: l,r,h=>by
  simp only[G5] at h
  cases hq:G5 n l with
  | none=>simp[hq] at h
  | some r'=>
   simp[hq] at h;subst h;obtain⟨h1,h2⟩:=E31 hq;simp[<- h1,h2]
theorem N36{t:J7}(h:BR F t b w)(B:b.row=some c){o m:Nat}{l:List Value}(hl:G5 m (c.drop o)=some l):
  ∃ l',(∀ w2:World,w2.heap=w.heap->(loadCells ⟨t.blk,t.base+o,none⟩ m).run P w2 = .ok l'.toArray w2)/\VL F l l'/\l.length=m:=by
 obtain⟨e1,e2⟩:=E31 hl;obtain⟨c',e,mk,h1,h5,h6⟩:=h.row B;have hv:VL F l (((((c'.toList.drop t.base).take c.length).drop o).take m)):=by rw[e1];exact(h6.drop o).take m
 refine⟨_,fun w2 L => ?_,hv,e2⟩;have J:=hv.length;have:=run_loadCells_list (P:=P) w2 ⟨t.blk,t.base+o,none⟩ ((((c'.toList.drop t.base).take c.length).drop o).take m) (fun j v hj=>by
  rw[X11];have E:j<m:=by
   rcases aW j m with g | g
   .exact g
   .simp[aX,Nat.not_lt.2 g] at hj
  have M:o+j<c.length:=by
   rcases aW (o+j) c.length with g | g
   .exact g
   .simp[aX,E,Nat.not_lt.2 g] at hj
  simp[E,M] at hj;simp[cB,L,h1,eH,hj])
 rw[<- J,e2] at this;exact this
theorem Y11(hu:P.underlying t=some kd)(hk:Q9 kd v=true)(e:Bool)(n:Nat)(w:World):(Instr.checkKey e (n+1) t v).run P w = .ok () w:=by
 cases kd<;>cases v<;>simp[Q9] at hk<;>simp[Instr.checkKey,run_underlying hu]
theorem W20(hk:Q9 kd v=true):M4 v=true:=by
 cases kd<;>cases v<;>simp[Q9] at hk<;>rfl
theorem E17{k:Value}{es es':List MapEntry}(h:EL F es es'):∀(j:Nat),
  (dP kd k es j=none->dP kd k es' j=none) /\
  (dP kd k es j=some none->dP kd k es' j=some none) /\
  (∀ i v,dP kd k es j=some (some (i,v))->∃ v',dP kd k es' j=some (some (i,v'))/\VR F v v'):=by
 induction h with
 | nil=>intro j;simp[dP]
 | @cons key v v' b l l' hk hv _ ih=>
  intro j;simp only[dP]
  cases hs:Instr.sameNow kd k key with
  | none=>simp
  | some q=>
   cases q with
   | true=>
    refine⟨O2,O2,?_⟩;intro i u h;simp at h;obtain⟨rfl,rfl⟩:=h;exact⟨v',O2,hv⟩
   | false=>simpa using ih (j+1)
theorem EL.length{F:FM}{l l':List MapEntry}(h:EL F l l'):l.length=l'.length:=by
 induction h with
 | nil=>rfl
 | cons _ _ _ ih=>simp[ih]
theorem M7{r:Nat}{es:Array MapEntry}{c:Nat}(h:w.heap[r]? = some (.map es c)):(getObj r).run P w = .ok (.map es c) w:=by
 simp[getObj,Sem.run,h]
section
variable {β:Type} {P:Program} {d n nx:Nat} {o:Oper} {T:K0 Value} {H:Y0}
theorem M68(M:E8 P t=some sh){b off:Nat}{tt:J7}(hF:F b=some tt)(hb:HB F H nx w){blk:V3}(hg:J0 H b=some blk):
  ∀(v:Value),(∃(k:Value->Option Value),(∀ u,k u=some u)/\ldB off sh none k blk=some v)->∃ v',(loadVar t ⟨tt.blk,tt.base+off,none⟩).run P w = .ok v' w/\VR F v v':=by
 intro v ⟨k,hk,h⟩;obtain⟨dd,i,hu,hi,rfl⟩:=Q32 M;have J:=hb.get hF hg;have B:∀ c,blk.row=some c->ldC off (cond (G8 dd) (some i.size) none) none k c=some v->∃ v',(loadVar t ⟨tt.blk,tt.base+off,none⟩).run P w = .ok v' w/\VR F v v':=by
  intro c E h;unfold ldC at h
  cases hd:G8 dd with
  | false=>
   simp only[hd,cond_false] at h;rw[Z12] at h
   cases hv:c[off]? with
   | none=>rw[hv] at h;cases h
   | some u=>
    rw[hv] at h;simp only[aN,hk,aZ] at h;subst h;obtain⟨v',hc,hr⟩:=B62 J E hv;exact⟨v',by simp[loadVar,M14 hu,hd,hc],hr⟩
  | true=>
   simp only[hd,cond_true] at h
   split at h
   .rename_i l hl
    rw[V14,hk] at h;simp only[aZ] at h;subst h;obtain⟨l',L,O,Q⟩:=N36 (P:=P) J E hl;refine⟨.agg l'.toArray,?_,?_⟩
    .simp[loadVar,M14 hu,hd,J15 hi,L w rfl]
    .exact VR.agg' O
   .cases h
 cases blk with
 | map es c=>simp[ldB] at h
 | cells c sl=>exact B c rfl h
 | rom c=>exact B c rfl h
theorem Q39(off:Nat)(sh:Option Nat)(z:β)(k:Value->β)(c:List Value):
  ldC off sh z k c=z\/∃ v,ldC off sh z k c=k v/\ldC off sh none some c=some v:=by
 unfold ldC
 cases sh with
 | none=>
  dsimp only;rw[Z12,Z12]
  cases c[off]? with
  | none=>exact .inl rfl
  | some u=>exact .inr ⟨u,rfl,rfl⟩
 | some m=>
  dsimp only
  split
  .rw[V14,V14];exact .inr ⟨_,rfl,rfl⟩
  .exact .inl rfl
theorem E57(off:Nat)(sh:Option Nat)(z:β)(k:Value->β)(blk:V3):
  ldB off sh z k blk=z\/∃ v,ldB off sh z k blk=k v/\ldB off sh none some blk=some v:=by
 cases blk with
 | map es c=>exact .inl rfl
 | cells c sl=>exact Q39 off sh z k c
 | rom c=>exact Q39 off sh z k c
theorem M38(B:E8 P t=some sh)(y:X)(z:β)(k:Value->β):
  rLd y sh T H z k=z\/∃ v,rLd y sh T H z k=k v/\∀(F:FM) (x':Value) (w:World),VR F (ev T y) x'->HB F H nx w->∃ a v',x' = .pointer (some a)/\(loadVar t a).run P w = .ok v' w/\VR F v v':=by
 unfold rLd;rw[G2]
 split
 .rename_i b off hv
  rw[Y4]
  cases hg:J0 H b with
  | none=>exact .inl rfl
  | some blk=>
   dsimp only[aN];rcases E57 off sh z k blk with h | ⟨v,h,h'⟩
   .exact .inl h
   .refine .inr ⟨v,h,fun F x' w hx hb => ?_⟩
    rw[hv] at hx;obtain⟨_,tt,hF,rfl⟩:=hx.ptr_inv;obtain⟨v',hr,E⟩:=M68 (H:=H) (nx:=nx) B hF hb hg v ⟨some,fun _=>rfl,h'⟩;exact⟨_,v',rfl,hr,E⟩
 .exact .inl rfl
theorem N62(ho:o.op = .load t x)(hx:W13 n x=some y)(B:E8 P t=some sh)(z:β)(k:Value->β):
  M9 P (.ld y sh) T H z k=z\/∃ v,M9 P (.ld y sh) T H z k=k v/\RV P d n nx o T H v:=by
 rcases M38 (nx:=nx) (T:=T) (H:=H) B y z k with h | ⟨v,h,hp⟩
 .exact .inl h
 .refine .inr ⟨v,h,fun F a w ht hb => ?_⟩
  obtain⟨ad,v',he,hr,hv⟩:=hp F (a.eval x) w (evX ht hx) hb;exact⟨v',by simp[execOp,ho,he,Instr.loadAt,Instr.sureAddr,hr],hv⟩
theorem Q63{ix:Operand}{ok:Bool}{X1 I1:X}{key elem:TypeId}{ie:TypeInfo}{zero:Value}(ho:o.op = .lookup t x ix ok)(hx:W13 n x=some X1)(U:W13 n ix=some I1)(hu:P.underlying t=some (.map key elem))(hk:P.underlying key=some kd)(Q:P.info? elem=some ie)(hz:ie.zero=some zero)(O:X7 zero=true)(z:β)(k:Value->β):
  M9 P (.lk kd zero X1 I1 ok) T H z k=z\/∃ v,M9 P (.lk kd zero X1 I1 ok) T H z k=k v/\RV P d n nx o T H v:=by
 show rLk kd zero X1 I1 ok T H z k=z\/∃ v,rLk kd zero X1 I1 ok T H z k=k v/\_;unfold rLk;rw[G2,G2]
 cases E:Q9 kd (ev T I1) with
 | false=>exact .inl rfl
 | true=>
  dsimp only[cond_true];have M:∀(es:List MapEntry),(∀(F:FM) (a:Act) (w:World),OR n o F T a->HB F H nx w->∃ es':Array MapEntry,EL F es es'.toList /\
     ((a.eval x = .map none/\es' = #[])\/∃ r c,a.eval x = .map (some r)/\w.heap[r]? = some (.map es' c))) ->
    ((match dP kd (ev T I1) es 0 with
     | some (some (_,v))=>cond ok (k (.tuple ⟨[v,.bool true]⟩)) (k v)
     | some none=>cond ok (k (.tuple ⟨[zero,.bool false]⟩)) (k zero)
     | none=>z)=z\/∃ v,(match dP kd (ev T I1) es 0 with
     | some (some (_,v))=>cond ok (k (.tuple ⟨[v,.bool true]⟩)) (k v)
     | some none=>cond ok (k (.tuple ⟨[zero,.bool false]⟩)) (k zero)
     | none=>z)=k v/\RV P d n nx o T H v):=by
   intro es R
   split
   .rename_i j v hf
    refine .inr ⟨if ok then .tuple ⟨[v,.bool true]⟩ else v,by cases ok<;>rfl,fun F a w ht hb => ?_⟩;obtain⟨es',J,L⟩:=R F a w ht hb;have hi:=C11 (evX ht U) (W20 E);obtain⟨v',B,hr⟩:=(E17 (kd:=kd) (k:=ev T I1) J 0).2.2 _ _ hf;refine⟨if ok then .tuple #[v',.bool true] else v',?_,?_⟩
    .rcases L with ⟨he,rfl⟩ | ⟨r,c,he,hw⟩
     .simp[dP] at B
     .simp only[execOp,ho,Instr.lookup,aS,run_underlying hu,aM,he,M7 hw,hi,Y11 hk E _ 9999,Instr.findKey,run_underlying hk,B,bD]
    .cases ok
     .exact hr
     .exact VR.tuple' (.cons hr (.cons (.bool true) .nil))
   .rename_i hf
    refine .inr ⟨if ok then .tuple ⟨[zero,.bool false]⟩ else zero,by cases ok<;>rfl,fun F a w ht hb => ?_⟩;obtain⟨es',J,L⟩:=R F a w ht hb;have hi:=C11 (evX ht U) (W20 E);have B:=(E17 (kd:=kd) (k:=ev T I1) J 0).2.1 hf;refine⟨if ok then .tuple #[zero,.bool false] else zero,?_,?_⟩
    .rcases L with ⟨he,rfl⟩ | ⟨r,c,he,hw⟩
     .simp only[execOp,ho,Instr.lookup,aS,run_underlying hu,aM,he,hi,Y11 hk E _ 9999,Instr.findKey,run_underlying hk,B,bD,zeroValue,K8 Q,hz]
     .simp only[execOp,ho,Instr.lookup,aS,run_underlying hu,aM,he,M7 hw,hi,Y11 hk E _ 9999,Instr.findKey,run_underlying hk,B,bD,zeroValue,K8 Q,hz]
    .cases ok
     .exact C6 F zero O
     .exact VR.tuple' (.cons (C6 F zero O) (.cons (.bool false) .nil))
   .exact .inl rfl
  split
  .rename_i hv
   refine M [] (fun F a w ht _=>⟨#[],.nil,.inl ⟨?_,rfl⟩⟩);have h1:=evX ht hx;rw[hv] at h1;generalize a.eval x=q at h1
   cases h1
   rfl
  .rename_i r hv
   rw[Y4]
   cases hg:J0 H r with
   | none=>exact .inl rfl
   | some blk=>
    dsimp only[aN]
    split
    .rename_i l c
     refine M l (fun F a w ht hb => ?_);have h1:=evX ht hx;rw[hv] at h1;generalize a.eval x=q at h1
     cases h1 with
     | map hF=>
      obtain⟨_,es',hw,J⟩:=hb.get hF hg;exact⟨es',J,.inr ⟨_,_,rfl,hw⟩⟩
    .exact .inl rfl
  .exact .inl rfl
theorem M48{kd:IntKind}{sd:TypeDesc}(ho:o.op = .convert src dst x)(hx:W13 n x=some y)(h1:P.underlying dst=some (.int kd))(h2:P.underlying src=some sd)(z:β)(k:Value->β):
  M9 P (.convI kd y) T H z k=z\/∃ v,M9 P (.convI kd y) T H z k=k v/\RV P d n nx o T H v:=by
 show X34 kd y T H z k=z\/∃ v,X34 kd y T H z k=k v/\_;unfold X34;rw[G2]
 split
 .rename_i k0 m hv
  have key:RV P d n nx o T H (.int kd (kd.wrap m)):=fun F a w ht _=>by
   have h3:=evX ht hx;rw[hv] at h3;have h3:=h3.int_inv;refine⟨.int kd (kd.wrap m),?_,.int _ _⟩
   cases sd<;>simp[execOp,ho,h3,convert,run_underlying h1,run_underlying h2,Conv.intToInt]
  cases hf:Q14 kd m with
  | false=>simp only[cond_false];rw[J21];exact .inr ⟨_,rfl,key⟩
  | true=>simp only[cond_true];have hw:=Z21 hf;rw[hw] at key;exact .inr ⟨_,rfl,key⟩
 .exact .inl rfl
theorem J32(ho:o.op = .convert src dst x)(hx:W13 n x=some y)(z:β)(k:Value->β):
  M9 P (.conv y o) T H z k=z\/∃ v,M9 P (.conv y o) T H z k=k v/\RV P d n nx o T H v:=by
 rcases Z30 (P:=P) (d:=d) (n:=n) (T:=T) (xs:=[y]) (o:=o) (by simp[ho]) (by simp only[ho,eI];intro q hq;simp at hq;subst hq;exact⟨y,O2,hx⟩) z k with h | ⟨v,h,hp⟩
 .exact .inl h
 .exact .inr ⟨v,h,hp.rv nx H⟩
theorem W30:∀ {l:List Value} {bs:List UInt8},R22 l=some bs->l=(bs.map fun b=>(b.toNat:Int)).map (cD .u8)
 | [],bs,h=>by cases h;rfl
 | v :: r,bs,h=>by
  unfold R22 at h
  split at h
  .rename_i h0;cases h0
  .rename_i n r' h0
   cases h0
   cases hb:dE n 256 with
   | false=>rw[hb] at h;cases h
   | true=>
    rw[hb] at h;simp only[cond_true] at h
    split at h
    .rename_i l hl
     cases h
     rw[W30 hl];have hn:n<256:=by simpa using hb
     have e:((UInt8.ofNat n).toNat:Int)=Int.ofNat n:=by
      rw[UInt8.toNat_ofNat'];have:n%2^8=n:=bV (by simpa using hn);rw[this];rfl
     simp only[aC,e]
    .cases h
  .cases h
theorem D57(bs:List Int):((bs.map (cD .u8)).all M4)=true:=by
 rw[iE];intro v hv;obtain⟨b,_,rfl⟩:=gN.1 hv
 rfl
theorem Y55(bs:List UInt8):(bs.map fun b=>(b.toNat:Int)).foldl (fun r n=>r.push (UInt8.ofNat n.toNat)) ByteArray.empty=⟨⟨bs⟩⟩:=by
 rw[foldl_push_bytes,List.map_map];have:(bs.map ((fun n:Int=>UInt8.ofNat n.toNat) ∘ fun b:UInt8=>(b.toNat:Int)))=bs:=by
  conv=>rhs;rw[<- List.map_id bs]
  exact List.map_congr_left fun b _=>O2
 rw[this];simp[ByteArray.empty,ByteArray.emptyWithCapacity]
 rfl
theorem G57{e:TypeId}(ho:o.op = .convert src dst x)(hx:W13 n x=some y)(hs:P.underlying src=some (.slice e))(he:P.underlying e=some (.int .u8))(hd:P.underlying dst=some .string)(z:β)(k:Value->β):
  M9 P (.str y) T H z k=z\/∃ v,M9 P (.str y) T H z k=k v/\RV P d n nx o T H v:=by
 show Q53 y T H z k=z\/∃ v,Q53 y T H z k=k v/\_;unfold Q53;rw[G2]
 split
 .rename_i len cap hv
  refine .inr ⟨_,rfl,fun F a w ht hb => ?_⟩;have h3:=evX ht hx;rw[hv] at h3;have h3:=h3.sliceN_inv;refine⟨_,?_,.string _⟩;have:=run_convert_bytes_nil (P:=P) w src e hs he len cap dst hd;simp only[execOp,ho,h3,aS,this,aM]
  rfl
 .rename_i a len cap hv
  obtain⟨b,off,s⟩:=a;unfold B19
  cases s with
  | some q=>exact .inl rfl
  | none=>
   dsimp only;rw[Y4]
   cases hg:J0 H b with
   | none=>exact .inl rfl
   | some blk=>
    have B:∀ c,blk.row=some c->(match G5 len (c.drop off) with
      | some l=>spine l fun cs=>(match R22 cs with
       | some bs=>k (.string ⟨⟨bs⟩⟩)
       | none=>z)
      | none=>z)=z\/∃ v,(match G5 len (c.drop off) with
      | some l=>spine l fun cs=>(match R22 cs with
       | some bs=>k (.string ⟨⟨bs⟩⟩)
       | none=>z)
      | none=>z)=k v/\RV P d n nx o T H v:=by
     intro c J
     split
     .rename_i l hl
      rw[V14]
      split
      .rename_i bs M
       refine .inr ⟨_,rfl,fun F Q w ht hb => ?_⟩;have h3:=evX ht hx;rw[hv] at h3;obtain⟨_,t,c',hF,h3,_⟩:=h3.slice_inv;obtain⟨l',E,O,_⟩:=N36 (P:=P) (hb.get hF hg) J hl;have el:=W30 M;have e2:=J19 O (by rw[el];exact D57 _);refine⟨_,?_,.string _⟩;have L:(loadCells ⟨t.blk,t.base+off,none⟩ len).run P w = .ok ((bs.map fun b=>(b.toNat:Int)).map (cD .u8)).toArray w:=by
        rw[<- el]
        first | rw[<- e2];exact E w rfl | rw[e2];exact E w rfl
       have h4:=run_bytesToString (P:=P) w ⟨t.blk,t.base+off,none⟩ len c' _ L;rw[Y55] at h4;have h5:=run_convert_bytes_string (P:=P) w src dst e (some ⟨t.blk,t.base+off,none⟩) len c' hs he hd;simp only[execOp,ho,h3,aS,h5,h4,aM]
       rfl
      .exact .inl rfl
     .exact .inl rfl
    cases blk with
    | map es c=>exact .inl rfl
    | rom c=>exact B c rfl
    | cells c sl=>exact B c rfl
 .exact .inl rfl
end
end
section
variable {F:FM} {X1:X} {blk:V3} {c:List Value} {c' cap off size:Nat} {lo:Bool} {t:J7} {w:World} {x:Operand}
section
variable {β:Type} {P:Program} {d n nx:Nat} {o:Oper} {T:K0 Value} {H:Y0}
theorem C130{sl off cap size c':Nat}(m:Nat)(hm:m%1000=size)(hb:BR F t (.cells c sl) w)(hl:(cond (bR sl 0) (some false) (cond (bR sl m) (some (bR (off+cap*size) c.length)) none))=some lo)(hc:c'=cap\/(0<t.esz/\cap<=c'/\off+cap*t.esz=t.sz/\t.base+off+c'*t.esz<=t.rsz/\c'<=9223372036854775807)):
  cap<=c'/\(c'≠cap->lo=true/\sl=m/\t.esz=size/\0<size/\off+cap*size=t.sz/\t.base+off+c'*size<=t.rsz/\c'<=9223372036854775807):=by
 obtain⟨c1,e,h1,h2,h3,h4,h5,h6⟩:=hb;rcases hc with rfl | ⟨g1,g2,g3,g4,g5⟩
 .exact⟨aD _,fun h=>absurd rfl h⟩
 .refine⟨g2,fun _ => ?_⟩
  have B:sl≠0:=by rintro rfl;simp at h4;omega
  have:bR sl 0=false:=by
   cases hq:bR sl 0 with
   | false=>rfl
   | true=>exact absurd (dI hq) B
  rw[this] at hl;simp only[cond_false] at hl
  cases hs:bR sl m with
  | false=>rw[hs] at hl;cases hl
  | true=>
   rw[hs] at hl;simp only[cond_true,aZ] at hl;have he:=dI hs;have hz:t.esz=size:=by rw[h4,he];exact hm
   rw[hz] at g1 g3 g4;refine⟨?_,he,hz,g1,g3,g4,g5⟩;rw[<- hl];have:off+cap*size=c.length:=O0;simp[this]
theorem W54{sl:Nat}(hb:BR F t (.cells c sl) w)(hl:N8 (.cells c sl) off cap size=some lo)(B:size<1000)(hc:c'=cap\/(0<t.esz/\cap<=c'/\off+cap*t.esz=t.sz/\t.base+off+c'*t.esz<=t.rsz/\c'<=9223372036854775807)):
  cap<=c'/\(c'≠cap->lo=true/\t.esz=size/\0<size/\off+cap*size=t.sz/\t.base+off+c'*size<=t.rsz/\c'<=9223372036854775807):=
 let ⟨h1,h2⟩:=C130 size (bV B) hb hl hc
 ⟨h1,fun h=>let ⟨a,_,b⟩:=h2 h;⟨a,b⟩⟩
theorem U131{tag:Nat}(hb:BR F t blk w)(hl:C122 tag blk off cap size=some lo)(B:size<1000)(hc:c'=cap\/(0<t.esz/\cap<=c'/\off+cap*t.esz=t.sz/\t.base+off+c'*t.esz<=t.rsz/\c'<=9223372036854775807)):
  cap<=c'/\(c'≠cap->lo=true/\(∃ c,blk = .cells c (N11 tag size))/\t.esz=size/\0<size/\off+cap*size=t.sz/\t.base+off+c'*size<=t.rsz/\c'<=9223372036854775807):=by
 cases blk with
 | cells c sl=>
  obtain⟨h1,h2⟩:=C130 (N11 tag size) (K124 B) hb hl hc;exact⟨h1,fun h=>let ⟨a,b,d⟩:=h2 h;⟨a,⟨c,by rw[b]⟩,d⟩⟩
 | map es q=>simp[C122] at hl
 | rom c=>
  obtain⟨c1,e,m,h1,h2,h3,h4,h5,h6⟩:=hb;rcases hc with rfl | ⟨g1,g2,g3,g4,g5⟩
  .exact⟨aD _,fun h=>absurd rfl h⟩
  .omega
theorem J20(hb:BR F t blk w)(hl:N8 blk off cap size=some lo)(B:size<1000)(hc:c'=cap\/(0<t.esz/\cap<=c'/\off+cap*t.esz=t.sz/\t.base+off+c'*t.esz<=t.rsz/\c'<=9223372036854775807)):
  cap<=c'/\(c'≠cap->lo=true/\t.esz=size/\0<size/\off+cap*size=t.sz/\t.base+off+c'*size<=t.rsz/\c'<=9223372036854775807):=by
 cases blk with
 | cells c sl=>exact W54 hb hl B hc
 | map es q=>simp[N8] at hl
 | rom c=>
  obtain⟨c1,e,m,h1,h2,h3,h4,h5,h6⟩:=hb;rcases hc with rfl | ⟨g1,g2,g3,g4,g5⟩
  .exact⟨aD _,fun h=>absurd rfl h⟩
  .omega
theorem U63{t:TypeId}{lo hi mx:Option Operand}{L1 H1 M1:Option X}{e:TypeId}{i:TypeInfo}(ho:o.op = .slice t x lo hi mx)(hx:W13 n x=some X1)(Q:B71 n lo=some L1)(R:B71 n hi=some H1)(U:B71 n mx=some M1)(hu:P.underlying t=some (.slice e))(M:P.info? e=some i)(O:i.size<1000)(z:β)(k:Value->β):
  M9 P (.sl X1 i.size L1 H1 M1) T H z k=z\/∃ v,M9 P (.sl X1 i.size L1 H1 M1) T H z k=k v/\RV P d n nx o T H v:=by
 show rSl X1 i.size L1 H1 M1 T H z k=z\/∃ v,rSl X1 i.size L1 H1 M1 T H z k=k v/\_;unfold rSl;rw[G2,C15,C15,C15]
 split
 .rename_i len cap hv
  split
  .rename_i r hr
   rw[E7];refine .inr ⟨r,rfl,fun F Y w ht _ => ?_⟩;have h1:=evX ht hx;rw[hv] at h1;have he:=h1.sliceN_inv;obtain⟨m,hh,l,em,eh,el,hr⟩:=B23 hr;obtain⟨E,c1,c2⟩:=Z18 (P:=P) (OV.of ht Q) (OV.of ht R) (OV.of ht U) (aD cap) em eh el true w;have hm:(if (M1.map (ev T)).isNone then cap else m)=m:=by
    cases hM:M1.map (ev T) with
    | none=>simp[c1 hM]
    | some _=>simp
   rw[hm] at E;dsimp only at hr;subst hr;refine⟨.slice none (hh-l) (m-l),?_,.sliceN _ _⟩;simp only[execOp,ho,Instr.sliceAt,Instr.slice,aS,run_underlying hu,aM,he,bD,E,J15 M];simp
  .exact .inl rfl
 .rename_i b o' len cap hv
  rw[Y4]
  cases hg:J0 H b with
  | none=>exact .inl rfl
  | some blk=>
   dsimp only[aN];unfold slB
   split
   .rename_i a6 a4
    split
    .rename_i r hr
     rw[E7];refine .inr ⟨r,rfl,fun F Y w ht hb => ?_⟩;have h1:=evX ht hx;rw[hv] at h1;obtain⟨_,tt,c',hF,he,hc⟩:=h1.slice_inv;obtain⟨m,hh,l,em,eh,el,a7,a1,hr⟩:=B23 hr
     .obtain⟨hcap,L⟩:=J20 (hb.get hF hg) a4 O hc
      obtain⟨E,c1,c2⟩:=Z18 (P:=P) (OV.of ht Q) (OV.of ht R) (OV.of ht U) hcap em eh el true w;subst hr;generalize hM:(if (M1.map (ev T)).isNone then c' else m)=m' at E;refine⟨.slice (some (if m'=l then ⟨tt.blk,tt.base+o',none⟩ else ⟨tt.blk,tt.base+(o'+l*i.size),none⟩)) (hh-l) (m'-l),?_,?_⟩
      .simp only[execOp,ho,Instr.sliceAt,Instr.slice,aS,run_underlying hu,aM,he,bD,E,J15 M]
       by_cases J:m'=l<;>simp[J,X11,eH]
      .by_cases V:m'=m
       .rw[V]
        by_cases J:m=l
        .simp only[J,if_true];exact .slice hF (.inl rfl)
        .simp only[J,if_false];exact .slice hF (.inl rfl)
       .have W:M1.map (ev T)=none:=by
         cases hq:M1.map (ev T) with
         | none=>rfl
         | some q=>rw[hq] at hM;simp at hM;exact absurd hM.symm V
        rw[W] at hM;simp at hM;subst hM;have a5:=c1 W;subst a5;obtain⟨q1,q2,q3,q4,q5,q7⟩:=L V;have a0:c'≠l:=O0;simp only[a0,if_false]
        by_cases J:m=l
        .have a3:l=0:=by
          rcases cI l with h0 | h0
          .exact h0
          .exact absurd ⟨q1,W,J,O0⟩ a1
         subst a3;subst J;simp only[if_true,Nat.zero_mul,eM,Nat.sub_self,Nat.sub_zero];exact .slice hF (.inr ⟨O0,O0,by simpa using q4,by rw[q2];exact q5,q7⟩)
        .simp only[J,if_false]
         have e1:o'+l*i.size+(m-l)*i.size=o'+m*i.size:=by
          have:l*i.size+(m-l)*i.size=m*i.size:=by rw[<- dM];congr 1;omega
          omega
         have e2:o'+l*i.size+(c'-l)*i.size=o'+c'*i.size:=by
          have:l*i.size+(c'-l)*i.size=c'*i.size:=by rw[<- dM];congr 1;omega
          omega
         refine .slice hF (.inr ⟨O0,O0,by rw[q2,e1];exact q4,?_,O0⟩);rw[q2];have q6:tt.base+o'+c'*i.size<=tt.rsz:=q5;clear hc q5 q4 L;generalize c'*i.size=A at *
         generalize (c'-l)*i.size=B at *
         generalize l*i.size=D at *
         omega
    .exact .inl rfl
   .exact .inl rfl
 .rename_i b o' s len cap hv
  cases hz:(bR len 0&&bR cap 0) with
  | false=>exact .inl rfl
  | true=>
   dsimp only[cond_true]
   split
   .rename_i hr
    refine .inr ⟨_,rfl,fun F Y w ht _ => ?_⟩;have h1:=evX ht hx;rw[hv] at h1;obtain⟨m,hh,l,em,eh,el,Z⟩:=B23 hr;obtain⟨E,c1,c2⟩:=Z18 (P:=P) (OV.of ht Q) (OV.of ht R) (OV.of ht U) (aD 0) em eh el true w;dsimp only at Z;injection Z with _ e1 e2;have a2:m=0:=by
     cases hM:M1.map (ev T) with
     | none=>exact c1 hM
     | some q=>exact Nat.le_zero.1 (c2 (by rw[hM];simp))
    have hm:(if (M1.map (ev T)).isNone then 0 else m)=0:=by rw[a2];simp
    rw[hm] at E;generalize hq:Y.eval x=q at h1
    cases h1 with
    | sliceW s a=>
     refine⟨.slice (some (if 0=l then a else a.add (l*i.size))) 0 0,?_,.sliceW _ _⟩;simp only[execOp,ho,Instr.sliceAt,Instr.slice,aS,run_underlying hu,aM,hq,bD,E,J15 M,<- e1]
     by_cases hl:0=l<;>simp[hl]
   .exact .inl rfl
 .exact .inl rfl
theorem C26{c:Call}{t:TypeId}{kd:Nat}{dd:TypeDesc}(ho:o.op = .call c)(hc:c.callee = .builtin .len)(R:c.argTypes.toList=[t])(ha:c.args.toList=[x])(hx:W13 n x=some X1)(hu:P.underlying t=some dd)(L:(kd=0/\∃ e,dd = .slice e)\/(kd=1/\dd = .string)\/(kd=2/\∃ a b,dd = .map a b))(z:β)(k:Value->β):
  M9 P (.len X1 kd) T H z k=z\/∃ v,M9 P (.len X1 kd) T H z k=k v/\RV P d n nx o T H v:=by
 have O:c.argTypes = #[t]:=fB.1 (by simpa using R);have M:c.args = #[x]:=fB.1 (by simpa using ha);have B:∀(a:Act) (w:World),(execOp a.eval o).run P w=((gI #[t] o.type #[a.eval x]).run P w).andThen fun v w => .ok (.value v) w:=by
  intro a w;simp[execOp,ho,resolve,hc,invoke,builtin,O,M]
 have J:x ∈ o.op.operands:=by rw[ho];simp[eI,fL,hc,M]
 show U53 X1 kd T H z k=z\/∃ v,U53 X1 kd T H z k=k v/\_;unfold U53;rw[G2]
 split
 .rename_i a nn c' hv
  refine .inr ⟨_,rfl,fun F E w ht _ => ?_⟩;obtain⟨e,rfl⟩:∃ e,dd = .slice e:=by rcases L with ⟨_,h⟩ | ⟨h,_⟩ | ⟨h,_⟩<;>first | exact h | cases h
  have h1:=evX ht hx J;rw[hv] at h1;generalize hq:E.eval x=q at h1;refine⟨O8 (.ofNat nn),?_,.int _ _⟩;rw[B,hq]
  cases h1<;>simp[gI,run_underlying hu,goInt]
 .rename_i s hv
  rw[G1];refine .inr ⟨_,rfl,fun F E w ht _ => ?_⟩;obtain rfl:dd = .string:=by rcases L with ⟨h,_⟩ | ⟨_,h⟩ | ⟨h,_⟩<;>first | exact h | cases h
  have h1:=evX ht hx J;rw[hv] at h1;generalize hq:E.eval x=q at h1;refine⟨O8 (.ofNat s.size),?_,.int _ _⟩;rw[B,hq]
  cases h1;simp[gI,run_underlying hu,goInt]
 .rename_i hv
  refine .inr ⟨_,rfl,fun F E w ht _ => ?_⟩;obtain⟨a,b,rfl⟩:∃ a b,dd = .map a b:=by rcases L with ⟨h,_⟩ | ⟨h,_⟩ | ⟨_,h⟩<;>first | exact h | cases h
  have h1:=evX ht hx J;rw[hv] at h1;generalize hq:E.eval x=q at h1;refine⟨O8 (.ofNat 0),?_,.int _ _⟩;rw[B,hq]
  cases h1;simp[gI,run_underlying hu,goInt]
 .rename_i r hv
  rw[Y4]
  cases hg:J0 H r with
  | none=>exact .inl rfl
  | some blk=>
   dsimp only[aN]
   split
   .rename_i l cl
    rw[G1];refine .inr ⟨_,rfl,fun F E w ht hb => ?_⟩;obtain⟨a,b,rfl⟩:∃ a b,dd = .map a b:=by rcases L with ⟨h,_⟩ | ⟨h,_⟩ | ⟨_,h⟩<;>first | exact h | cases h
    have h1:=evX ht hx J;rw[hv] at h1;generalize hq:E.eval x=q at h1
    cases h1 with
    | map hF=>
     obtain⟨_,es',hw,Q⟩:=hb.get hF hg;refine⟨O8 (.ofNat l.length),?_,.int _ _⟩;rw[B,hq];have:=Q.length;simp[gI,run_underlying hu,goInt,M7 hw,this]
   .exact .inl rfl
 .exact .inl rfl
theorem U34{i:IR}(hI:W18 P n o=some (.r i))(z:β)(k:Value->β):
  M9 P i T H z k=z\/∃ v,M9 P i T H z k=k v/\RV P d n nx o T H v:=by
 have h:=(E20 hI).resolve_right O2;clear hI;unfold G19 at h
 split at h
 case h_13=>
  rename_i t x lo hi mx ho
  split at h
  .rename_i h1 h2 h3 h4 h5
   split at h
   .rename_i B
    cases hb:dE _ 1000 with
    | false=>rw[hb] at h;cases h
    | true=>rw[hb] at h;cases h;exact U63 ho h1 h2 h3 h4 h5 B (by simpa using hb) z k
   .cases h
  .split at h<;>cases h
  .cases h
  .cases h
 case h_16=>
  rename_i t x ho
  split at h
  .rename_i h1 h2;cases h;exact N62 ho h1 h2 z k
  .cases h
 case h_17=>
  rename_i t x ix ok ho
  split at h
  .rename_i h1 h2 h3
   split at h
   .rename_i h4 h5
    split at h
    .rename_i zz h6
     cases hf:X7 zz with
     | false=>rw[hf] at h;cases h
     | true=>rw[hf] at h;cases h;exact Q63 ho h1 h2 h3 h4 h5 h6 hf z k
    .cases h
   .cases h
  .cases h
 case h_18=>
  rename_i E dst x ho
  split at h
  .rename_i h1 h2 h3;cases h;exact M48 ho h1 h3 h2 z k
  .rename_i h1 h2 h3
   split at h
   .rename_i h4;cases h;exact G57 ho h1 h2 h4 h3 z k
   .cases h;exact J32 ho h1 z k
  .cases h;exact J32 ho ‹_› z k
  .cases h
 case h_26=>
  rename_i c ho
  split at h
  case h_4=>
   rename_i hc
   split at h
   .rename_i t x h1 h2
    split at h
    .cases h;rename_i g1 g2;exact C26 ho hc h1 h2 g1 g2 (.inl ⟨rfl,_,rfl⟩) z k
    .cases h;rename_i g1 g2;exact C26 ho hc h1 h2 g1 g2 (.inr (.inl ⟨rfl,rfl⟩)) z k
    .cases h;rename_i g1 g2;exact C26 ho hc h1 h2 g1 g2 (.inr (.inr ⟨rfl,_,_,rfl⟩)) z k
    .cases h
   .cases h
  all_goals first
   | (cases h;done)
   | (split at h<;>cases h;done)
   | (repeat' (first | (cases h;done) | split at h))
   | skip
  all_goals first
   | (rw[Bool.cond_eq_ite] at h;split at h<;>cases h;done)
   | (rw[bU] at h;obtain⟨_,_,h⟩:=h;cases h;done)
 all_goals first
  | (cases h;done)
  | (split at h<;>cases h;done)
  | (repeat' (first | (cases h;done) | split at h))
  | skip
 all_goals first
  | (rw[Bool.cond_eq_ite] at h;split at h<;>cases h;done)
  | (rw[bU] at h;obtain⟨_,_,h⟩:=h;cases h;done)
end
end
section
variable {P:Program}
def Q0.real(q:Nat):Q0->Value
 | .ptr => .pointer (some ⟨q,0,none⟩)
 | .slice l c => .slice (some ⟨q,0,none⟩) l c
 | .map => .map (some q)
def W55(F:FM)(b:V3)(B:Obj):Prop:=
 match b with
 | .cells c sl=>∃ c' e,B = .cells c' e (0,0)/\V77 sl e 0 0 0/\VL F c c'.toList
 | .map es k=>es=[]/\B = .map #[] k
 | .rom _=>False
def AV(P:Program)(d n:Nat)(o:Oper)(T:K0 Value)(b:V3)(y:Q0):Prop:=
 ∀(F:FM) (a:Act) (w:World),OR n o F T a->∃ B,(execOp a.eval o).run P w = .ok (.value (y.real w.heap.size)) (w.alloc B)/\W55 F b B
theorem G33{z:List Value}(hz:0<z.length):∀(len i:Nat),(Q19 z len)[i]? = if i<len*z.length then z[i%z.length]? else none
 | 0,i=>by simp[Q19]
 | len+1,i=>by
  simp only[Q19];rw[List.getElem?_append]
  by_cases h:i<z.length
  .have:i<(len+1)*z.length:=by rw[dM];omega
   simp[h,this,bV h]
  .have hm:(i-z.length)%z.length=i%z.length:=(Nat.mod_eq_sub_mod O0).symm
   rw[G33 hz len (i-z.length)];have:(i-z.length<len*z.length)<->(i<(len+1)*z.length):=by rw[dM];omega
   simp[h,this,hm]
theorem B16(z:Array Value)(len:Nat):((gG (len*z.size)).map (fun i=>z[i%z.size]!)).toList=Q19 z.toList len:=by
 rcases cI z.size with h0 | h0
 .have:z = #[]:=Array.eq_empty_of_size_eq_zero h0
  subst this;have:∀ len,Q19 ([]:List Value) len=[]:=by
   intro len;induction len with
   | zero=>rfl
   | succ n ih=>simp[Q19,ih]
  simp[this]
 .apply dH
  intro i;rw[G33 (by simpa using h0)]
  by_cases hi:i<len*z.size
  .have hm:i%z.size<z.size:=eZ _ h0
   simp[hi,hm,getElem!_pos]
  .simp[hi]
theorem VL.repeat{F:FM}{z z':List Value}(h:VL F z z'):∀ n,VL F (Q19 z n) (Q19 z' n)
 | 0 => .nil
 | n+1=>h.append (h.repeat n)
theorem W12(e:TypeId)(cells:Array Value)(w:World):(newRow e cells).run P w = .ok ⟨w.heap.size,0,none⟩ (w.alloc (.cells cells e (0,0))):=by
 simp[newRow,newObj,Sem.run]
theorem D29(e:TypeId)(v:Value)(w:World):(newVar e v).run P w = .ok ⟨w.heap.size,0,none⟩ (w.alloc (.cells v.cells e (0,0))):=W12 e v.cells w
theorem E19{t:TypeId}{i:TypeInfo}{v:Value}(hi:P.info? t=some i)(hz:i.zero=some v)(w:World):(zeroValue t).run P w = .ok v w:=by
 simp[zeroValue,K8 hi,hz]
section
variable {β:Type} {P:Program} {d n:Nat} {o:Oper} {T:K0 Value}
theorem W57{i:IA}(hI:W18 P n o=some (.a i))(z:β)(k:V3->Q0->β):
  evA i T z k=z\/∃ b y,evA i T z k=k b y/\AV P d n o T b y:=by
 have h:=(E20 hI).resolve_right O2;clear hI;unfold G19 at h
 split at h
 case h_19=>
  rename_i e ho
  cases hz:M10 P e with
  | none=>rw[hz] at h;cases h
  | some zero=>
   rw[hz] at h;obtain⟨it,v,E,M,rfl,L,R,J⟩:=X14 hz
   cases hb:C144 P e with
   | false=>
    simp only[Option.map_some,hb,cond_false] at h;cases h;simp only[evA];rw[V14];refine .inr ⟨_,_,rfl,fun F a w ht=>⟨.cells v.cells e (0,0),?_,_,_,rfl,V77.low _ O0,X12 L F⟩⟩;simp[execOp,ho,Instr.alloc,E19 E M,D29,Q0.real]
   | true=>
    simp only[Option.map_some,hb,cond_true] at h;cases h;simp only[evA];rw[V14,G1];refine .inr ⟨_,_,rfl,fun F a w ht=>⟨.cells v.cells e (0,0),?_,_,_,rfl,fun _=>⟨K143 e,fun _=>⟨rfl,rfl⟩⟩,X12 L F⟩⟩;simp[execOp,ho,Instr.alloc,E19 E M,D29,Q0.real]
 case h_20=>
  rename_i e x ho
  cases hx:W13 n x with
  | none=>rw[hx] at h;cases h
  | some y=>
   rw[hx] at h;cases h;simp only[evA];rw[G2]
   cases Y:Z0 (ev T y).cells.toList with
   | false=>exact .inl rfl
   | true=>
    dsimp only[cond_true];rw[V14];refine .inr ⟨_,_,rfl,fun F a w ht=>⟨.cells (a.eval x).cells e (0,0),?_,_,_,rfl,V77.low _ O0,(evX ht hx).cells (G28 Y)⟩⟩;simp[execOp,ho,Instr.box,D29,Q0.real]
 case h_21=>
  rename_i t len parts ho
  split at h
  .rename_i e ps hu a5
   split at h
   .rename_i zero inf hz hi
    cases hb:dD (len*inf.size) 16777216 with
    | false=>rw[hb] at h;cases h
    | true=>
     rw[hb] at h;cases h;obtain⟨it,v,E,M,rfl,L,R,J⟩:=X14 hz;rw[hi] at E;cases E;simp only[evA];rw[J45]
     split
     .rename_i cs hf
      cases Y:Z0 cs with
      | false=>exact .inl rfl
      | true=>
       dsimp only[cond_true];rw[V14];refine .inr ⟨_,_,rfl,fun F a w ht => ?_⟩;have a8:len*inf.size<=16777216:=Nat.le_of_ble_eq_true hb;have Q:v.cells.size=inf.size:=by simpa using J
       have B:∃ zz:Array Value,((len*inf.size=0/\zz = #[])\/(len*inf.size≠0/\zz=v.cells)) /\
         ((gG (len*inf.size)).map (fun i=>zz[i%zz.size]!)).toList=Q19 v.cells.toList len:=by
        by_cases h0:len*inf.size=0
        .refine⟨#[],.inl ⟨h0,rfl⟩,?_⟩
         rw[h0];have:=B16 v.cells len;rw[Q,h0] at this;simp at this ⊢;exact this
        .refine⟨v.cells,.inr ⟨h0,rfl⟩,?_⟩
         rw[<- Q];exact B16 v.cells len
       obtain⟨zz,V,O⟩:=B;obtain⟨r',hr,hl⟩:=B24 (pl':=fun k=>some (k*inf.size,inf.size)) (fun i p h=>h) (G62 ht a5 (by rw[ho];intro p hp;simp only[eI];exact fQ.2 (by simp;exact⟨p.1,by simpa using hp⟩))) (cells':=(gG (len*inf.size)).map (fun i=>zz[i%zz.size]!))
        (by rw[O];exact(X12 L F).repeat len) hf
       refine⟨.cells r' e (0,0),?_,_,_,rfl,V77.low _ O0,hl⟩;have W:¬ (len*inf.size > 2^24):=by simp;omega
       have a0:Instr.fill (fun i=>some (i*inf.size,inf.size)) ((gG (len*inf.size)).map (fun i=>zz[i%zz.size]!)) (parts.map fun(i,x)=>(i,a.eval x)).toList=some r':=by
        rw[X27];exact hr
       rcases V with ⟨h0,rfl⟩ | ⟨h0,rfl⟩
       .simp only[execOp,ho,Instr.buildSlice,aS,run_underlying hu,aM,J15 hi,W,if_false,bD]
        rw[if_pos h0];simp only[aS,bD,aM,a0,W12,Q0.real]
       .simp only[execOp,ho,Instr.buildSlice,aS,run_underlying hu,aM,J15 hi,W,if_false,bD]
        rw[if_neg h0];simp only[aS,E19 hi M,bD,aM,a0,W12,Q0.real]
     .exact .inl rfl
   .cases h
  .cases h
 case h_22=>
  rename_i t l c ho
  split at h
  .rename_i l1 c1 e a7 a2 hu
   split at h
   .rename_i zero inf hz hi
    cases hb:dD inf.bytes 100000 with
    | false=>rw[hb] at h;cases h
    | true=>
     rw[hb] at h;cases h;obtain⟨it,v,E,M,rfl,L,R,J⟩:=X14 hz;rw[hi] at E;cases E;simp only[evA];rw[G2,G2]
     split
     .rename_i lv cv a3 a1
      cases Z:(dD lv cv&&dD cv 1000000) with
      | false=>exact .inl rfl
      | true=>
       dsimp only[cond_true];rw[V14];refine .inr ⟨_,_,rfl,fun F a w ht => ?_⟩;simp only[aG,Nat.ble_eq] at Z;obtain⟨g1,g2⟩:=Z;have a4:inf.bytes<=100000:=Nat.le_of_ble_eq_true hb;have e1:=evX ht a7;have e2:=evX ht a2;rw[a3] at e1;rw[a1] at e2;have e1:=e1.int_inv;have e2:=e2.int_inv;have w1:IntKind.i64.wrap (Int.ofNat lv)=(lv:Int):=IntWalk.i64_in _ O5;have w2:IntKind.i64.wrap (Int.ofNat cv)=(cv:Int):=IntWalk.i64_in _ O5;have Q:v.cells.size=inf.size:=by simpa using J
       have B:∃ zz:Array Value,((cv*inf.size=0/\zz = #[])\/(cv*inf.size≠0/\zz=v.cells)) /\
         ((gG (cv*inf.size)).map (fun i=>zz[i%zz.size]!)).toList=Q19 v.cells.toList cv:=by
        by_cases h0:cv*inf.size=0
        .refine⟨#[],.inl ⟨h0,rfl⟩,?_⟩
         rw[h0];have:=B16 v.cells cv;rw[Q,h0] at this;simp at this ⊢;exact this
        .refine⟨v.cells,.inr ⟨h0,rfl⟩,?_⟩
         rw[<- Q];exact B16 v.cells cv
       obtain⟨zz,V,O⟩:=B;refine⟨.cells ((gG (cv*inf.size)).map (fun i=>zz[i%zz.size]!)) e (0,0),?_,_,_,rfl,V77.low _ O0,by rw[O];exact(X12 L F).repeat cv⟩;have a6:inf.bytes*cv<=100000000000:=bK (eL a4 g2) (by decide);have t1:(decide ((cv:Int)<0) || decide ((inf.bytes:Int)*(cv:Int) > 2^48))=false:=by
        have hp:(inf.bytes:Int)*(cv:Int)<=100000000000:=O0;have hq:(2:Int)^48=281474976710656:=by decide
        rw[hq,decide_eq_false O0,decide_eq_false O0]
        rfl
       have t2:¬ (lv:Int)<0:=O0;have t3:¬ (lv:Int) > (cv:Int):=O0;have U:(askRoom (cv*inf.bytes)).run P w = .ok () w:=by
        have:¬ cv*inf.bytes > roomBytes:=by
         have:cv*inf.bytes=inf.bytes*cv:=cG _ _;simp only[roomBytes];omega
        simp[askRoom,this]
       simp only[execOp,ho,Instr.makeSlice,aS,run_underlying hu,aM,e1,e2,asInt,asIntOf,bD,K8 hi,w1,w2];simp only[t1,Bool.false_or,t2,t3,decide_false,Bool.or_false,dQ,if_false,aS,gR,U,aM,J15 hi];rcases V with ⟨h0,rfl⟩ | ⟨h0,rfl⟩
       .rw[if_pos h0]
        simp only[aS,bD,aM,W12,Q0.real]
       .rw[if_neg h0]
        simp only[aS,E19 hi M,bD,aM,W12,Q0.real]
     .exact .inl rfl
   .cases h
  .cases h
 case h_23=>
  rename_i t r ho
  split at h
  .rename_i r1 mk mv hr hu
   cases h
   simp only[evA];rw[C15]
   split
   .rename_i hv
    refine .inr ⟨_,_,rfl,fun F a w ht=>⟨.map #[] 0,?_,rfl,rfl⟩⟩;rcases OV.of ht hr with ⟨_,h2⟩ | ⟨_,_,h2,_⟩
    .simp[execOp,ho,h2,Instr.makeMap,newObj,Sem.run,Q0.real]
    .rw[hv] at h2;cases h2
   .rename_i kk q hv
    refine .inr ⟨_,_,rfl,fun F a w ht=>⟨.map #[] 0,?_,rfl,rfl⟩⟩;rcases OV.of ht hr with ⟨h1,_⟩ | ⟨v1,v2,h1,h2,h3⟩
    .rw[hv] at h1;cases h1
    .rw[hv] at h1;cases h1
     have h3:=h3.int_inv;subst h3;simp[execOp,ho,h2,Instr.makeMap,run_underlying hu,asInt,asIntOf,newObj,Sem.run,Q0.real]
   .exact .inl rfl
  .cases h
 all_goals first
  | (cases h;done)
  | (split at h<;>cases h;done)
  | (repeat' (first | (cases h;done) | split at h))
  | skip
 all_goals first
  | (rw[Bool.cond_eq_ite] at h;split at h<;>cases h;done)
  | (rw[bU] at h;obtain⟨_,_,h⟩:=h;cases h;done)
end
end
section
variable {F:FM} {H:Y0} {b nx q:Nat} {old:V3} {t:J7} {w w':World}
def upd(F:FM)(q:Nat)(t:J7):FM:=fun i=>if i=q then some t else F i
theorem M19(h:F q=none)(t:J7):F.le (upd F q t):=by
 intro i u hi;unfold upd
 by_cases e:i=q
 .subst e;rw[h] at hi;cases hi
 .simp[e,hi]
theorem Y6(F:FM)(q:Nat)(t:J7):upd F q t q=some t:=by simp[upd]
theorem M5(F:FM){i:Nat}(t:J7)(h:i≠q):upd F q t i=F i:=by simp[upd,h]
theorem N2.update(hr:HR F H nx w){new:V3}(hb:b<nx)(hg:J0 H b=some old)(O:old.isRom=false)(Y:new.isRom=false)(hF:F b=some t)(h1:w'.os=w.os)(h2:w'.tape=w.tape)(h3:w'.output=w.output)(h4:w'.heap.size=w.heap.size)(h5:∀ k,k≠t.blk->w'.heap[k]? = w.heap[k]?)(hn:BR F t new w'):
  N2 F H nx w F (hs H b (some new)) nx w':=by
 have L:∀ i,J0 (hs H b (some new)) i=if i=b then some new else J0 H i:=fun i=>N7 H b i _
 have conv:∀ i bi,J0 (hs H b (some new)) i=some bi->∃ J,J0 H i=some J/\J.isRom=bi.isRom:=by
  intro i bi B;rw[L i] at B
  by_cases e:i=b
  .subst e;rw[if_pos rfl] at B;cases B;exact⟨old,hg,by rw[O,Y]⟩
  .rw[if_neg e] at B;exact⟨bi,B,rfl⟩
 refine⟨aD _,fun _ _=>rfl,h1,h2,h3,O0,?_,?_,?_,?_,?_⟩
 .intro k hk Q
  refine h5 k (fun e=>Q ⟨b,old,t,hb,hg,O,hF,e.symm⟩)
 .rintro k ⟨i,kb,ti,hi,B,R,E,rfl⟩
  obtain⟨J,g1,g2⟩:=conv i kb B;exact .inl ⟨i,J,ti,hi,g1,g2.trans R,E,rfl⟩
 .intro i hi M
  rw[L i]
  by_cases e:i=b
  .subst e;rw[hg] at M;cases M
  .rw[if_neg e];exact M
 .intro i bi B U
  rw[L i] at B
  by_cases e:i=b
  .subst e;rw[if_pos rfl] at B;cases B;rw[Y] at U;cases U
  .rw[if_neg e] at B;exact⟨hr.low B,B⟩
 .refine⟨?_,?_,hr.fresh,fun i hi=>by rw[L,if_neg O0];exact hr.top i hi,hr.gl.step (fun k hk Q=>h5 k (fun e=>Q ⟨b,old,t,hb,hg,O,hF,e.symm⟩)) (by
   rintro k ⟨i,kb,ti,hi,B,R,E,rfl⟩;obtain⟨J,g1,g2⟩:=conv i kb B;exact .inl ⟨i,J,ti,hi,g1,g2.trans R,E,rfl⟩)⟩
  .intro i kb hi B
   rw[L i] at B
   by_cases e:i=b
   .subst e;rw[if_pos rfl] at B;cases B;exact⟨t,hF,hn⟩
   .rw[if_neg e] at B
    obtain⟨ti,E,a2⟩:=hr.blk i kb hi B;refine⟨ti,E,a2.mono (fun _ _ h=>h) (h5 _ (fun e2 => ?_))⟩;rcases hr.inj i b kb old ti t hi hb B hg E hF e2 with h | h
    .exact e h
    .rw[O] at h;cases h.2
  .intro i j bi bj ti tj hi hj B a1 E a0 e
   obtain⟨J,W,ri⟩:=conv i bi B;obtain⟨Z,V,rj⟩:=conv j bj a1;rw[<- ri,<- rj];exact hr.inj i j J Z ti tj hi hj W V E a0 e
theorem N2.kill(hr:HR F H nx w)(hb:b<nx):N2 F H nx w F (hs H b none) nx w:=by
 have L:∀ i,J0 (hs H b none) i=if i=b then none else J0 H i:=fun i=>N7 H b i _
 have E:∀ i bi,J0 (hs H b none) i=some bi->J0 H i=some bi:=by
  intro i bi B;rw[L i] at B
  by_cases e:i=b
  .simp[e] at B
  .rwa [if_neg e] at B
 refine⟨aD _,fun _ _=>rfl,rfl,rfl,rfl,aD _,fun _ _ _=>rfl,?_,?_,fun i bi B _=>⟨hr.low (E i bi B),E i bi B⟩,?_⟩
 .rintro k ⟨i,kb,ti,hi,B,O,J,rfl⟩
  exact .inl ⟨i,kb,ti,hi,E i kb B,O,J,rfl⟩
 .intro i hi M
  rw[L i]
  by_cases e:i=b<;>simp[e,M]
 .refine⟨fun i kb hi B=>hr.blk i kb hi (E i kb B),?_,hr.fresh,fun i hi=>by rw[L,if_neg O0];exact hr.top i hi,hr.gl.step (fun _ _ _=>rfl) (by
   rintro k ⟨i,kb,ti,hi,B,O,J,rfl⟩;exact .inl ⟨i,kb,ti,hi,E i kb B,O,J,rfl⟩)⟩
  intro i j bi bj ti tj hi hj B R J Q e;exact hr.inj i j bi bj ti tj hi hj (E i bi B) (E j bj R) J Q e
theorem HR.name(hr:HR F H nx w){new:V3}(a2:new.isRom=false)(h5:∀ k,k≠t.blk->k<w.heap.size->w'.heap[k]? = w.heap[k]?)(U:¬ Y53 F H nx t.blk)(hn:BR (upd F nx t) t new w')(W:∀ x ∈ Q42,x.1≠t.blk):
  HR (upd F nx t) (hs H nx (some new)) (nx+1) w'/\(∀ i,i<nx->J0 H i=none->J0 (hs H nx (some new)) i=none) /\
   (∀ k,Own (upd F nx t) (hs H nx (some new)) (nx+1) k->Own F H nx k\/k=t.blk) /\
   (∀ i b,J0 (hs H nx (some new)) i=some b->b.isRom=true->i<nx/\J0 H i=some b):=by
 have Q:F nx=none:=hr.fresh nx (aD _);have a0:=M19 Q t;have L:∀ i,J0 (hs H nx (some new)) i=if i=nx then some new else J0 H i:=fun i=>N7 H nx i _
 have E:∀ i,i<nx+1->i≠nx->i<nx:=fun i h e=>O0
 have R:∀ k,Own (upd F nx t) (hs H nx (some new)) (nx+1) k->Own F H nx k\/k=t.blk:=by
  rintro k ⟨i,kb,ti,hi,B,a1,J,rfl⟩;rw[L i] at B
  by_cases e:i=nx
  .subst e;rw[Y6] at J;cases J;exact .inr rfl
  .rw[if_neg e] at B;rw[M5 F t e] at J
   exact .inl ⟨i,kb,ti,E i hi e,B,a1,J,rfl⟩
 refine⟨⟨?_,?_,?_,fun i hi=>by rw[L,if_neg O0];exact hr.top i O0,⟨hr.gl.1.step fun x hx=>h5 _ (W x hx) (hr.gl.1 x hx).1,fun x hx ho=>(R _ ho).elim (hr.gl.2 x hx) (W x hx)⟩⟩,?_,R,?_⟩
 .intro i kb hi B
  rw[L i] at B
  by_cases e:i=nx
  .subst e;rw[if_pos rfl] at B;cases B;exact⟨t,Y6 _ _ _,hn⟩
  .rw[if_neg e] at B
   obtain⟨ti,J,Z⟩:=hr.blk i kb (E i hi e) B;refine⟨ti,by rw[M5 F t e];exact J,Z.mono a0 (h5 _ (fun e2=>U ⟨i,kb,ti,E i hi e,B,J,e2⟩) Z.lt)⟩
 .intro i j bi bj ti tj hi hj B O J M e
  rw[L i] at B;rw[L j] at O
  by_cases ei:i=nx<;>by_cases ej:j=nx
  .exact .inl (by rw[ei,ej])
  .exfalso
   subst ei;rw[Y6] at J;cases J;rw[if_neg ej] at O;rw[M5 F t ej] at M;exact U ⟨j,bj,tj,E j hj ej,O,M,e.symm⟩
  .exfalso
   subst ej;rw[Y6] at M;cases M;rw[if_neg ei] at B;rw[M5 F t ei] at J;exact U ⟨i,bi,ti,E i hi ei,B,J,e⟩
  .rw[if_neg ei] at B;rw[if_neg ej] at O;rw[M5 F t ei] at J;rw[M5 F t ej] at M
   exact hr.inj i j bi bj ti tj (E i hi ei) (E j hj ej) B O J M e
 .intro i hi
  rw[M5 F t O0];exact hr.fresh i O0
 .intro i hi V
  rw[L i,if_neg O0];exact V
 .intro i bi B Y
  rw[L i] at B
  by_cases e:i=nx
  .subst e;rw[if_pos rfl] at B;cases B;rw[a2] at Y;cases Y
  .rw[if_neg e] at B;exact⟨hr.low B,B⟩
theorem N2.name{F:FM}{H:Y0}{nx:Nat}{w w':World}(hr:HR F H nx w){new:V3}(L:new.isRom=false){t:J7}(h1:w'.os=w.os)(h2:w'.tape=w.tape)(h3:w'.output=w.output)(h4:w.heap.size<=w'.heap.size)(h5:∀ k,k<w.heap.size->w'.heap[k]? = w.heap[k]?)(hn:BR (upd F nx t) t new w')(M:w.heap.size<=t.blk):
  N2 F H nx w (upd F nx t) (hs H nx (some new)) (nx+1) w':=by
 have E:¬ Y53 F H nx t.blk:=by
  rintro⟨i,kb,u,hi,hg,hF,e⟩;obtain⟨u',B,J⟩:=hr.blk i kb hi hg;rw[hF] at B;cases B;have:=J.lt;omega
 obtain⟨g1,g2,g3,g4⟩:=hr.name L (fun k _ hk=>h5 k hk) E hn (fun x hx e=>by have:=(hr.gl.1 x hx).1;omega);exact⟨O0,fun i hi=>M5 F t O0,h1,h2,h3,h4,fun k hk _=>h5 k hk,fun k hk=>(g3 k hk).imp id (fun e=>O0),g2,g4,g1⟩
theorem N2.rename(hr:HR F H nx w){new:V3}{t':J7}(hg:J0 H b=some old)(E:old.isRom=false)(R:new.isRom=false)(hF:F b=some t)(ht:t'.blk=t.blk)(h1:w'.os=w.os)(h2:w'.tape=w.tape)(h3:w'.output=w.output)(h4:w.heap.size<=w'.heap.size)(h5:∀ k,k≠t.blk->k<w.heap.size->w'.heap[k]? = w.heap[k]?)(hn:BR (upd F nx t') t' new w'):
  N2 F H nx w (upd F nx t') (hs (hs H b none) nx (some new)) (nx+1) w':=by
 have hb:b<nx:=hr.hb.lt hF;have hk:=N2.kill hr hb;have J:¬ Y53 F (hs H b none) nx t'.blk:=by
  rintro⟨i,kb,u,hi,B,Q,e⟩;rw[N7] at B
  by_cases ei:i=b
  .simp[ei] at B
  .rw[if_neg ei] at B
   rcases hr.inj i b kb old u t hi hb B hg Q hF O0 with h | h
   .exact ei h
   .rw[E] at h;cases h.2
 obtain⟨g1,g2,g3,g4⟩:=hk.hr.name R (fun k hk M=>h5 k O0 M) J hn (fun x hx e=>hr.gl.2 x hx ⟨b,old,t,hb,hg,E,hF,O0⟩);refine⟨O0,fun i hi=>M5 F t' O0,h1,h2,h3,h4,?_,?_,?_,fun i bi B O=>hk.rom i bi (g4 i bi B O).2 O,g1⟩
 .intro k hk J
  exact h5 k (fun e=>J ⟨b,old,t,hb,hg,E,hF,e.symm⟩) hk
 .intro k M
  rcases g3 k M with h | h
  .exact hk.own k h
  .exact .inl ⟨b,old,t,hb,hg,E,hF,O0⟩
 .intro i hi L
  exact g2 i hi (hk.keep i hi L)
theorem Y14(w:World)(B:Obj)(k:Nat)(h:k<w.heap.size):(w.alloc B).heap[k]? = w.heap[k]? := RowKit.Below.heap_alloc w B k h
theorem E16(w:World)(B:Obj):(w.alloc B).heap[w.heap.size]? = some B:=by
 show(w.heap.push B)[w.heap.size]? = some B;simp
theorem N2.new(hr:HR F H nx w){b:V3}{J:Obj}(hn:W55 F b J):
  ∃ t,t.blk=w.heap.size/\t.base=0/\N2 F H nx w (upd F nx t) (hs H nx (some b)) (nx+1) (w.alloc J):=by
 have B:F nx=none:=hr.fresh nx (aD _)
 cases b with
 | cells c sl=>
  obtain⟨c',e,rfl,L,E⟩:=hn;refine⟨⟨w.heap.size,0,c.length,sl%1000,c'.size⟩,rfl,rfl,N2.name hr rfl rfl rfl rfl O2 (fun k hk=>Y14 w _ k hk) ?_ (aD _)⟩;refine⟨c',e,E16 w _,⟨rfl,L.cells E⟩,rfl,rfl,by have:=E.length;simp at this;simp[this],?_⟩;have hl:=E.length;simp only[bW];rw[gJ O0];exact E.mono (M19 B _)
 | map es k=>
  obtain⟨rfl,rfl⟩:=hn;refine⟨⟨w.heap.size,0,0,0,0⟩,rfl,rfl,N2.name hr rfl rfl rfl rfl O2 (fun k hk=>Y14 w _ k hk) ?_ (aD _)⟩;exact⟨rfl,#[],E16 w _,.nil⟩
 | rom c=>exact hn.elim
theorem Q0.vr(h:F q=some t)(hb:t.base=0)(y:Q0):VR F (y.val q) (y.real t.blk):=by
 cases y with
 | ptr=>have:=VR.ptr (o:=0) h;rw[hb] at this;exact this
 | slice l c=>have:=VR.slice (o:=0) (n:=l) (c:=c) (c':=c) h (.inl rfl);rw[hb] at this;exact this
 | map=>exact VR.map h
theorem M39{α:Type}(L vs:List α)(base o n:Nat)(h:o+vs.length<=n)(h2:base+n<=L.length):
  ((L.take (base+o)++vs++L.drop (base+o+vs.length)).drop base).take n=((L.drop base).take n).take o++vs++((L.drop base).take n).drop (o+vs.length):=by
 apply dH;intro j;have e1:min (base+o) L.length=base+o:=O0;have e2:min o (min n (L.length-base))=o:=O0;simp only[aX,dB,List.getElem?_append,bH,cK,List.length_drop,e1,e2]
 by_cases hj:j<n
 .by_cases h3:j<o
  .have a1:base+j<base+o+vs.length:=O0
   have a2:base+j<base+o:=O0;have a3:j<o+vs.length:=O0;simp[hj,h3,a1,a3]
  .by_cases h4:j<o+vs.length
   .have a1:base+j<base+o+vs.length:=O0
    have a2:¬ base+j<base+o:=O0;have a3:base+j-(base+o)=j-o:=O0;simp[hj,h3,h4,a1,a3]
   .have a1:¬ base+j<base+o+vs.length:=O0
    have a3:base+o+vs.length+(base+j-(base+o+vs.length))=base+(o+vs.length+(j-(o+vs.length))):=O0;have a4:o+vs.length+(j-(o+vs.length))<n:=O0;simp[hj,h4,a1,a3,a4]
 .have a1:¬ j<o:=O0
  have a2:¬ j<o+vs.length:=O0;have a3:¬ o+vs.length+(j-(o+vs.length))<n:=O0;simp[hj,a2,a3]
theorem K14{l l':List Value}(h:VL F l l')(h1:Z0 l=true):∀ v ∈ l',v.oneCell'=true:=by
 induction h with
 | nil=>intro v hv;cases hv
 | cons hv _ ih=>
  intro u hu;rcases aU.1 hu with rfl | hu
  .cases hv<;>first | rfl | (simp[Z0] at h1;done)
  .refine ih ?_ u hu
   cases hv<;>first | exact h1 | (simp[Z0] at h1;done)
theorem M20{β:Type}{F:FM}{H:Y0}{nx:Nat}{b o':Nat}{vs:List Value}(s':Option Nat)(z:β)(k:Y0->β):
  U12 H ⟨b,o',s'⟩ vs z k=z\/∃ H',U12 H ⟨b,o',s'⟩ vs z k=k H'/\∀(F:FM) (P:Program) (w:World) (t:J7) (B:List Value),HR F H nx w->F b=some t->VL F vs B->(∀ v ∈ B,v.oneCell'=true) ->
   ∃ w',(storeCells ⟨t.blk,t.base+o',none⟩ B).run P w = .ok () w'/\N2 F H nx w F H' nx w':=by
 unfold U12
 cases s' with
 | some q=>exact .inl rfl
 | none=>
  dsimp only;rw[Y4]
  cases hg:J0 H b with
  | none=>exact .inl rfl
  | some blk=>
   cases blk with
   | map es c=>exact .inl rfl
   | rom c=>exact .inl rfl
   | cells c sl=>
    dsimp only[aN]
    cases hb:dD (o'+vs.length) c.length with
    | false=>exact .inl rfl
    | true=>
     dsimp only[cond_true];rw[V14,G4];refine .inr ⟨_,rfl,fun F P w t B hr hF M L => ?_⟩;have R:o'+vs.length<=c.length:=Nat.le_of_ble_eq_true hb;have Q:=hr.hb.lt hF;obtain⟨c',e,h1,⟨h2,O⟩,h3,h4,h5,h6⟩:=hr.hb.get hF hg;have E:=M.length;have J:=run_storeCells_at P t.blk (t.base+o') e B 0 c' w h1 (by simp only[eM];omega) L;refine⟨_,J,N2.update hr Q hg rfl rfl hF rfl rfl rfl O2 (fun k hk=>setRow_other w _ k _ hk) ?_⟩;refine⟨_,e,setRow_heap w t.blk c' _ e (0,0) h1,⟨?_,O⟩,?_,h4,?_,?_⟩
     .simp;omega
     .simp;omega
     .simp;omega
     .have e1:(c.take o'++vs++c.drop (o'+vs.length)).length=c.length:=by simp;omega
      rw[e1];simp only[eM];have U:c'.toList.length=c'.size:=O2;rw[M39 c'.toList B t.base o' c.length O0 O0];rw[<- E];exact((h6.take o').append M).append (h6.drop _)
end
section
variable {F:FM} {P:Program} {Q:Exit->Act->World->Prop} {V1:X} {a:Act} {c r:Nat} {kd:TypeDesc} {l l':List MapEntry} {o:Oper} {t:TypeId} {v:Value} {w w':World}
def EV(P:Program)(d n:Nat)(o:Oper)(T:K0 Value)(H:Y0)(nx:Nat)(v:Value)(H':Y0)(nx':Nat):Prop:=
 ∀(F:FM) (a:Act) (w:World) (K:Act->World->Prop) (Q:Exit->Act->World->Prop),OR n o F T a->HR F H nx w ->
  (∀ v' F' w',VR F' v v'->N2 F H nx w F' H' nx' w'->K (a.put o.dst v') w')->o.wp P a w K Q
def Enters (P : Program) (f : FuncId) : Prop := ∃ fn c, P.funcs[f]? = some fn /\ fn.body = some c /\ (fn.name == "runtime.NumGoroutine") = false
def CS(P:Program)(f:FuncId)(args:List Value)(H:Y0)(nx:Nat)(v:Value)(H':Y0)(nx':Nat):Prop:=
 Enters P f/\∀(F:FM) (B:List Value) (w:World),HR F H nx w->VL F args B ->
  Calls P f B.toArray w fun e w'=>∃ v' F',e = .returned v'/\VR F' v v'/\N2 F H nx w F' H' nx' w'
def E11{β:Type}(P:Program)(call:Z3 β):Prop:=
 ∀ f args H nx (z:β) k,call f args H nx z k=z\/∃ v H' nx',call f args H nx z k=k v H' nx'/\CS P f args H nx v H' nx'
theorem VR.undef(F:FM):VR F Go.undef Go.undef:=VR.tuple' .nil
theorem V25{K:Act->World->Prop}(h:(execOp a.eval o).run P w = .ok (.value v) w')(hk:K (a.put o.dst v) w'):o.wp P a w K Q:=by
 unfold Oper.wp;rw[h];exact hk
theorem J24{K:Act->World->Prop}(h:(execOp a.eval o).run P w = .ok .skip w')(hk:K (a.put o.dst Go.undef) w'):o.wp P a w K Q:=by
 unfold Oper.wp;rw[h];exact hk
theorem N57 {f:FuncId} (he:Enters P f) (args:Array Value) (w:World):(callFunc f args).run P w = .ok (.enter f args) w:=by
 obtain⟨fn,c,h1,h2,h3⟩:=he
 have B : ¬ fn.name = "runtime.NumGoroutine" := by simpa using h3
 simp[callFunc,program,Sem.run,h1,h2,B]
section
variable {β:Type} {P:Program} {d n nx:Nat} {o:Oper} {T:K0 Value} {H:Y0}
theorem Y54{c:Call}{f:Operand}{y:X}{ys:List X}(ho:o.op = .call c)(hc:c.callee = .value f)(hf:W13 n f=some y)(O:U7 n c.args.toList=some ys){call:Z3 β}(E:E11 P call)(z:β)(k:Value->Y0->Nat->β):
  D6 (.call y ys) call T H nx z k=z\/∃ v H' nx',D6 (.call y ys) call T H nx z k=k v H' nx'/\EV P d n o T H nx v H' nx':=by
 show E41 y ys call T H nx z k=z\/∃ v H' nx',E41 y ys call T H nx z k=k v H' nx'/\_;unfold E41;rw[G2]
 split
 .rename_i g first cap hv
  rw[C22,V14];rcases E g (first++ys.map (ev T)++cap) H nx z k with h | ⟨v,H',nx',h,he,hcs⟩
  .exact .inl h
  .refine .inr ⟨v,H',nx',h,fun F a w K Q ht hr hk => ?_⟩
   have h1:=evX ht hf (by rw[ho];simp[eI,fL,hc]);rw[hv] at h1;have h2:=W48 ht O (by rw[ho];intro q hq;simp[eI,fL,hc];exact .inr (by simpa using hq));generalize hq:a.eval f=q at h1
   cases h1 with
   | @func _ x x' y' y'' e1 e2 e3 e4=>
    have hx:VL F first x'.toList:=VL.ofArr e1 e2;have hy:VL F cap y''.toList:=VL.ofArr e3 e4;have B:=hcs F (x'.toList++c.args.toList.map a.eval++y''.toList) w hr ((hx.append h2).append hy);unfold Oper.wp;have L:(x'.toList++c.args.toList.map a.eval++y''.toList).toArray=x'++c.args.map a.eval++y'':=by
     apply fB.1;simp
    rw[L] at B;have J:(execOp a.eval o).run P w = .ok (.enter g (x'++c.args.map a.eval++y'')) w:=by
     simp only[execOp,ho,resolve,hc,hq,Deferred.ofValue,aS,bD,aM,invoke];exact N57 he _ w
    rw[J];simp only[Oper.upon];refine B.mono fun e w' ⟨v',F',e1,R,M⟩ => ?_
    subst e1;exact hk v' F' w' R M
 .exact .inl rfl
theorem W63{x v:Operand}{X1:X}{i:TypeInfo}(ho:o.op = .store t x v)(hx:W13 n x=some X1)(hv:W13 n v=some V1)(hi:P.info? t=some i)(call:Z3 β)(z:β)(k:Value->Y0->Nat->β):
  D6 (.st X1 V1 i.size) call T H nx z k=z\/∃ u H' nx',D6 (.st X1 V1 i.size) call T H nx z k=k u H' nx'/\EV P d n o T H nx u H' nx':=by
 show eSt X1 V1 i.size call T H nx z k=z\/∃ u H' nx',eSt X1 V1 i.size call T H nx z k=k u H' nx'/\_;unfold eSt;rw[G2,G2]
 split
 .rename_i a L
  obtain⟨b,o',s'⟩:=a
  cases hb:(bR (ev T V1).cells.toList.length i.size&&Z0 (ev T V1).cells.toList) with
  | false=>exact .inl rfl
  | true=>
   dsimp only[cond_true];rw[aG] at hb;rcases M20 (F:=fun _=>none) (H:=H) (nx:=nx) (b:=b) (o':=o') (vs:=(ev T V1).cells.toList) s' z (fun H=>k undef H nx) with h | ⟨H',h,hp⟩
   .exact .inl h
   .refine .inr ⟨undef,H',nx,h,fun F M w K Q ht hr hk => ?_⟩
    have h1:=evX ht hx;rw[L] at h1;obtain⟨rfl,tt,hF,he⟩:=h1.ptr_inv;have h2:=(evX ht hv).cells (G28 hb.2);obtain⟨w',B,J⟩:=hp F P w tt _ hr hF h2 (K14 h2 hb.2);have E:(M.eval v).cells.size=i.size:=by
     have a:=dI hb.1;have b:=h2.length;simp at a b;omega
    refine J24 (w':=w') ?_ (hk undef F w' (VR.undef F) J);simp only[execOp,ho,Instr.storeAt,he,Instr.sureAddr,aS,bD,aM,storeVar,J15 hi,E,ne_eq,not_true,if_false,B]
 .exact .inl rfl
theorem W25{kd:TypeDesc}{k:Value}:∀ {es:List MapEntry} {j i:Nat} {v:Value},dP kd k es j=some (some (i,v))->j<=i/\∃ e,es[i-j]? = some e/\Instr.sameNow kd k e.key=some true
 | [],j,i,v,h=>by simp[dP] at h
 | e :: es,j,i,v,h=>by
  simp only[dP] at h
  cases hs:Instr.sameNow kd k e.key with
  | none=>simp[hs] at h
  | some q=>
   cases q with
   | true=>
    simp[hs] at h;obtain⟨rfl,rfl⟩:=h;exact⟨aD _,e,O2,hs⟩
   | false=>
    simp only[hs] at h;obtain⟨h1,e',h2,h3⟩:=W25 h;refine⟨O0,e',?_,h3⟩;have:i-j=(i-(j+1))+1:=O0;rw[this];simpa using h2
theorem Z64{a b:Value}(h:Instr.sameNow kd a b=some true):Instr.sameBits 10000 b a=true:=by
 unfold Instr.sameNow at h
 split at h
 .split at h
  .rename_i e2;subst e2;simp at h;subst h;simp[Instr.sameBits]
  .cases h
 .simp only[aZ] at h
  rw[beq_toListBytes] at h;simp only[Instr.sameBits];rw[beq_toListBytes];simp at h;simp[h]
 .simp at h;subst h;simp[Instr.sameBits]
 .cases h
theorem K25{α:Type}:∀(l:List α) (i:Nat) (b:α),R26 l i b=l.set i b
 | [],i,b=>by cases i<;>rfl
 | a :: l,0,b=>rfl
 | a :: l,i+1,b=>by simp[R26,K25 l i b]
theorem EL.set{F:FM}{l l':List MapEntry}(h:EL F l l'){k v v':Value}(hk:M4 k=true)(hv:VR F v v'):∀ {i:Nat} {e e':MapEntry},l[i]? = some e->l'[i]? = some e'->EL F (l.set i ⟨k,v,e.born⟩) (l'.set i ⟨k,v',e'.born⟩)/\e.born=e'.born/\e.key=e'.key:=by
 induction h with
 | nil=>intro i e e' h;simp at h
 | @cons k0 u u' b m m' hk0 hu t ih=>
  intro i e e' h1 h2
  cases i with
  | zero=>
   simp at h1 h2;subst h1;subst h2;exact⟨.cons hk hv t,rfl,rfl⟩
  | succ i=>
   obtain⟨g1,g2⟩:=ih (by simpa using h1) (by simpa using h2);exact⟨.cons hk0 hu g1,g2⟩
theorem EL.snoc(h:EL F l l'){k v':Value}{b:Nat}(hk:M4 k=true)(hv:VR F v v'):EL F (l++[⟨k,v,b⟩]) (l'++[⟨k,v',b⟩]):=by
 induction h with
 | nil=>exact .cons hk hv .nil
 | cons B hu _ ih=>exact .cons B hu ih
theorem EL.get(h:EL F l l'){i:Nat}{e:MapEntry}(hi:l[i]? = some e):∃ e',l'[i]? = some e':=by
 have:=h.length;have hl:i<l.length:=by
  rcases aW i l.length with g | g
  .exact g
  .simp[aT g] at hi
 exact⟨l'[i],by simp[<- this,hl]⟩
theorem R15{es:Array MapEntry}(h:w.heap[r]? = some (.map es c))(o:Obj):(setObj r o).run P w = .ok () { w with heap:=w.heap.setIfInBounds r o }:=by
 simp[setObj,Sem.run,h]
theorem K31(hr:HR F H nx w){t:J7}{B:V3}{es:List MapEntry}{es':Array MapEntry}(hF:F r=some t)(hg:J0 H r=some B)(E:B.isRom=false)(J:t.base=0)(L:EL F es es'.toList):
  N2 F H nx w F (hs H r (some (.map es c))) nx { w with heap:=w.heap.setIfInBounds t.blk (.map es' c) }:=by
 have M:=(hr.hb.get hF hg).lt;refine N2.update hr (hr.hb.lt hF) hg E rfl hF rfl rfl rfl O2 (fun k hk => ?_) ⟨J,es',?_,L⟩
 .simp[Array.getElem?_setIfInBounds_ne (eT hk)]
 .simp[M]
theorem V41{m key v:Operand}{M1 K1:X}{kt et:TypeId}{W:Op}(ho:o.op=W)(a0:W = .mapUpdate t m key v\/W = .insert t m key v)(hm:W13 n m=some M1)(hk:W13 n key=some K1)(hv:W13 n v=some V1)(hu:P.underlying t=some (.map kt et))(R:P.underlying kt=some kd)(call:Z3 β)(z:β)(k:Value->Y0->Nat->β):
  D6 (.upd kd M1 K1 V1) call T H nx z k=z\/∃ u H' nx',D6 (.upd kd M1 K1 V1) call T H nx z k=k u H' nx'/\EV P d n o T H nx u H' nx':=by
 have om:m ∈ o.op.operands/\key ∈ o.op.operands/\v ∈ o.op.operands:=by
  rcases a0 with rfl | rfl<;>rw[ho]<;>simp[eI]
 show U54 kd M1 K1 V1 call T H nx z k=z\/∃ u H' nx',U54 kd M1 K1 V1 call T H nx z k=k u H' nx'/\_;unfold U54;rw[G2,G2,G2]
 split
 .rename_i r a6
  rw[Y4]
  cases hg:J0 H r with
  | none=>exact .inl rfl
  | some blk=>
   dsimp only[aN];unfold G52
   split
   .rename_i es clock
    cases L:Q9 kd (ev T K1) with
    | false=>exact .inl rfl
    | true=>
     dsimp only[cond_true];have U:∀(F:FM) (a:Act) (w:World),OR n o F T a->HR F H nx w->∃ tt es',F r=some tt/\a.eval m = .map (some tt.blk)/\tt.base=0/\w.heap[tt.blk]? = some (.map es' clock)/\EL F es es'.toList/\a.eval key=ev T K1/\VR F (ev T V1) (a.eval v):=by
      intro F a w ht hr;have h1:=evX ht hm om.1;rw[a6] at h1;generalize a.eval m=q at h1
      cases h1 with
      | @map _ tt hF=>
       obtain⟨O,es',hw,E⟩:=hr.hb.get hF hg;exact⟨tt,es',hF,rfl,O,hw,E,C11 (evX ht hk om.2.1) (W20 L),evX ht hv om.2.2⟩
     split
     .rename_i i u Y
      split
      .rename_i e a2
       rw[V14,G4];refine .inr ⟨undef,_,nx,rfl,fun F a w K Q ht hr M => ?_⟩;obtain⟨tt,es',hF,he,O,hw,E,a1,Z⟩:=U F a w ht hr;rw[Q8] at a2;obtain⟨e',B⟩:=E.get a2;obtain⟨g1,g2,g3⟩:=E.set (W20 L) Z a2 B;obtain⟨u',J,_⟩:=(E17 (kd:=kd) (k:=ev T K1) E 0).2.2 _ _ Y;obtain⟨_,e2,q1,q2⟩:=W25 J;have hq:e2=e':=by simp at q1;rw[<- cL] at q1;rw[B] at q1;exact(fA q1).symm
       subst hq;have a5:(es'.modify i fun q=>{ q with key:=ev T K1,val:=a.eval v }).toList=es'.toList.set i ⟨ev T K1,a.eval v,e2.born⟩:=by
        apply dH;intro j;simp only[cL,Array.getElem?_modify,cQ]
        by_cases a3:i=j
        .subst a3
         have a7:i<es'.size:=by
          rcases aW i es'.size with g | g
          .exact g
          .simp[g] at B
         rw[cL] at B;have hb:=(Array.getElem?_eq_some_iff.1 B).2;simp[a7,hb]
        .simp[a3]
       have V:=K31 (c:=clock) hr hF hg rfl O (es:=R26 es i ⟨ev T K1,ev T V1,e.born⟩) (es':=es'.modify i fun q=>{ q with key:=ev T K1,val:=a.eval v }) (by rw[K25,a5];exact g1);refine J24 ?_ (M undef F _ (VR.undef F) V);have a8:=Z64 q2;have a4:(((es'[i]?).map (·.key)).getD (ev T K1))=e2.key:=by
        rw[cL] at B;simp[B]
       rcases a0 with rfl | rfl<;>simp only[execOp,ho,Instr.mapUpdate,aS,run_underlying hu,aM,he,M7 hw,a1,Y11 R L _ 9999,Instr.findKey,run_underlying R,J,bD,a4,Instr.keyThatStays,a8,if_true,R15 hw]
      .exact .inl rfl
     .rename_i Y
      rw[V14,G1,G4];refine .inr ⟨undef,_,nx,rfl,fun F a w K Q ht hr M => ?_⟩;obtain⟨tt,es',hF,he,O,hw,E,a1,Z⟩:=U F a w ht hr;have J:=(E17 (kd:=kd) (k:=ev T K1) E 0).2.1 Y;have V:=K31 (c:=clock+1) hr hF hg rfl O (es:=es++[⟨ev T K1,ev T V1,clock⟩]) (es':=es'.push ⟨ev T K1,a.eval v,clock⟩) (by simpa using E.snoc (W20 L) Z);refine J24 ?_ (M undef F _ (VR.undef F) V);rcases a0 with rfl | rfl<;>simp only[execOp,ho,Instr.mapUpdate,aS,run_underlying hu,aM,he,M7 hw,a1,Y11 R L _ 9999,Instr.findKey,run_underlying R,J,bD,R15 hw]
     .exact .inl rfl
   .exact .inl rfl
 .exact .inl rfl
end
end
section
variable {P:Program} {ar:Array Value} {base:Option Addr} {c' m sLen:Nat} {i:TypeInfo} {new:List Value} {ud:TypeDesc} {w:World} {x':Value}
theorem W29(F:FM):∀(l:List UInt8),VL F (l.map fun b=>cD .u8 b.toNat) (l.map fun b=>cD .u8 b.toNat)
 | [] => .nil
 | b :: l => .cons (.int _ _) (W29 F l)
theorem R21{β:Type}{H:Y0}{nx size:Nat}{x:Value}(z:β)(k:List Value->β):
  Z5 H size m x z k=z\/∃ l,Z5 H size m x z k=k l/\∀(F:FM) (P:Program) (x':Value) (w:World),VR F x x'->HB F H nx w->∃ l',(∀ w2:World,w2.heap=w.heap->(eC size m x').run P w2 = .ok l'.toArray w2)/\VL F l l':=by
 unfold Z5
 split
 .rename_i a len cap
  unfold B19;obtain⟨b,o,s⟩:=a
  cases s with
  | some q=>exact .inl rfl
  | none=>
   dsimp only;rw[Y4]
   cases hg:J0 H b with
   | none=>exact .inl rfl
   | some blk=>
    have B:∀ c,blk.row=some c->((match G5 (m*size) (c.drop o) with
      | some l=>spine l k
      | none=>z)=z\/∃ l,(match G5 (m*size) (c.drop o) with
      | some l=>spine l k
      | none=>z)=k l/\∀(F:FM) (P:Program) (x':Value) (w:World),VR F (.slice (some ⟨b,o,none⟩) len cap) x'->HB F H nx w->∃ l',(∀ w2:World,w2.heap=w.heap->(eC size m x').run P w2 = .ok l'.toArray w2)/\VL F l l'):=by
     intro c E
     split
     .rename_i l hl
      rw[V14];refine .inr ⟨l,rfl,fun F P x' w hx hb => ?_⟩;obtain⟨_,t,c',hF,rfl,_⟩:=hx.slice_inv;obtain⟨l',J,M,_⟩:=N36 (P:=P) (hb.get hF hg) E hl;exact⟨l',fun w2 L=>by simp[eC,J w2 L],M⟩
     .exact .inl rfl
    cases blk with
    | map es c=>exact .inl rfl
    | rom c=>exact B c rfl
    | cells c sl=>exact B c rfl
 .refine .inr ⟨[],rfl,fun F P x' w hx _=>⟨[],fun w2 _ => ?_,.nil⟩⟩
  have:=hx.sliceN_inv;subst this;simp[eC]
 .rename_i s
  rw[C20];refine .inr ⟨_,rfl,fun F P x' w hx _=>⟨_,fun w2 _ => ?_,W29 F _⟩⟩
  cases hx
  simp[eC];apply fB.1;simp[List.extract_eq_take_drop]
 .exact .inl rfl
theorem Y16{F:FM}{x:Value}(h:Y45 x=some m)(hx:VR F x x')(w:World):(gH x').run P w = .ok m w:=by
 unfold Y45 at h
 split at h
 .cases h;cases hx<;>simp[gH]
 .cases h;cases hx;simp[gH]
 .cases h
theorem R55(B c:Nat)(h:c<B):Builtin.nextslicecap B c<=2*B+1000:=by
 unfold Builtin.nextslicecap
 split
 .omega
 .split
  .omega
  .have E:∀ r q,q<=2*B+1000->(q<B->q+(q+768)/4<=2*B+1000)->Builtin.growBy B r q<=2*B+1000:=by
    intro r
    induction r with
    | zero=>intro q hq _;exact hq
    | succ r ih=>
     intro q hq hg;simp only[Builtin.growBy]
     split
     .exact hq
     .exact ih _ (hg O0) (fun h=>O0)
   exact E 4 c O0 O0
theorem E49(m:Nat)(w:World):(askRoom m).run P w = .ok () w:=by
 unfold askRoom
 split
 .rfl
 .rfl
theorem G37(z:Array Value)(m:Nat):(fV z m).size=m*z.size:=by simp[fV]
section
variable {β:Type} {P:Program} {d n nx:Nat} {o:Oper} {T:K0 Value} {H:Y0}
theorem Z17{t u e:TypeId}{L:Array TypeId}(h0:L[0]? = some t)(h1:L[1]? = some u)(hu:P.underlying t=some (.slice e))(M:P.underlying u=some ud)(O:∀ k,ud ≠ .int k)(hi:P.info? e=some i)(Q:ar[0]? = some (.slice base sLen c'))(R:ar[1]? = some x')(J:(gH x').run P w = .ok m w)(B:(eC i.size m x').run P w = .ok new.toArray w)(E:sLen+m<=c')(ty:TypeId):
  (gE L ty ar).run P w=match base with
   | none => .ok (.slice none (sLen+m) c') w
   | some a=>((storeCells (a.add (sLen*i.size)) new).run P w).andThen fun _ w' => .ok (.slice (some a) (sLen+m) c') w':=by
 cases base with
 | none=>
  cases ud<;>first | exact absurd rfl (O _) | simp only[gE,h0,h1,Q,R,aS,run_underlying hu,run_underlying M,aM,J15 hi,bD,J,dQ,if_false,E,Bool.not_false,if_true,B]
 | some a=>
  cases ud<;>first | exact absurd rfl (O _) | simp only[gE,h0,h1,Q,R,aS,run_underlying hu,run_underlying M,aM,J15 hi,bD,J,dQ,if_false,E,Bool.not_false,if_true,B]
theorem K37{t u e:TypeId}{zv:Value}{E:Array TypeId}(h0:E[0]? = some t)(h1:E[1]? = some u)(hu:P.underlying t=some (.slice e))(Z:P.underlying u=some ud)(R:∀ k,ud ≠ .int k)(hi:P.info? e=some i)(Y:i.zero=some zv)(U:ar[0]? = some (.slice base sLen c'))(W:ar[1]? = some x'){w:World}(Q:(gH x').run P w = .ok m w)(O:c'<sLen+m)(a1:(2*(sLen+m)+1000)*i.bytes<=281474976710656)(a2:sLen+m<=1000000000){L:List Value}(M:∀ q,(eC i.size sLen (.slice base sLen c')).run P { w with drawn:=q } = .ok L.toArray { w with drawn:=q })(J:∀ q,(eC i.size m x').run P { w with drawn:=q } = .ok new.toArray { w with drawn:=q })(ty:TypeId):
  ∃ B,(sLen+m<=B/\B<=9223372036854775807)/\(gE E ty ar).run P w =
   .ok (.slice (some ⟨w.heap.size,0,none⟩) (sLen+m) B) (({ w with drawn:=w.drawn+1 }:World).alloc (.cells (L.toArray++new.toArray++fV zv.cells (B-(sLen+m))) e (0,0))):=by
 refine⟨(sLen+m)+w.tape w.drawn (.appendCap (sLen+m) c' e)%(2^63-(sLen+m)),⟨Nat.le_add_right _ _,by
  have:=eZ (w.tape w.drawn (.appendCap (sLen+m) c' e)) (show 0<2^63-(sLen+m) by omega);omega⟩,?_⟩
 have n1:¬ (sLen+m<=c'):=O0;have n2:¬ (((sLen+m:Nat):Int) > IntKind.i64.max):=by
  have:IntKind.i64.max=9223372036854775807:=by decide
  rw[this];omega
 have n3:¬ (Builtin.nextslicecap (sLen+m) c'*i.bytes > 2^48):=by
  have h:=dS i.bytes (R55 (sLen+m) c' O);have e:2^48=281474976710656:=by decide
  rw[e];omega
 have a0:(choose (.appendCap (sLen+m) c' e)).run P w = .ok ((sLen+m)+w.tape w.drawn (.appendCap (sLen+m) c' e)%(2^63-(sLen+m))) { w with drawn:=w.drawn+1 }:=by
  simp[choose,Sem.run,Question.forced,Question.cut]
 have V:∀ w,(zeroValue e).run P w = .ok zv w:=fun w=>E19 hi Y w
 cases ud<;>first | exact absurd rfl (R _) | (
  simp only[gE,h0,h1,U,W,aS,run_underlying hu,run_underlying Z,aM,J15 hi,bD,Q,dQ,if_false,n1,K8 hi,n2,false_and,n3,a0,E49,M,Bool.not_false,if_true,J,V,W12])
theorem X24{c:Call}{s x:Operand}{t u:TypeId}{tl:List TypeId}{xl:List Operand}(ho:o.op = .call c)(hc:c.callee = .builtin .append)(E:c.argTypes.toList=t :: u :: tl)(ha:c.args.toList=s :: x :: xl)(a:Act)(w:World):
  ∃ B:Array TypeId,∃ ar:Array Value,B[0]? = some t/\B[1]? = some u/\ar[0]? = some (a.eval s)/\ar[1]? = some (a.eval x) /\
   (execOp a.eval o).run P w=((gE B o.type ar).run P w).andThen fun v w => .ok (.value v) w:=by
 refine⟨c.argTypes,c.args.map a.eval,?_,?_,?_,?_,?_⟩
 .rw[<- cL,E];rfl
 .rw[<- cL,E];rfl
 .rw[fT,<- cL,ha];rfl
 .rw[fT,<- cL,ha];rfl
 .simp[execOp,ho,resolve,hc,invoke,builtin]
end
end
section
variable {F:FM} {H:Y0} {new new' old:List Value} {w:World}
theorem X58{nx:Nat}(hr:HR F H nx w){J:List Value}(R:VL F old J)(Q:VL F new new'){E size B tag:Nat}{zv:Value}{e:TypeId}(q:Nat)(L:size<1000)(V:tag=0\/tag=e+1)(M:(old++new).length=E*size)(U:0<size)(hz:zv.cells.size=size)(hcap:E<=B)(W:B<=9223372036854775807):
  ∃ F',N2 F H nx w F' (hs H nx (some (.cells (old++new) (N11 tag size)))) (nx+1) (({ w with drawn:=q }:World).alloc (.cells (J.toArray++new'.toArray++fV zv.cells (B-E)) e (0,0))) /\
   VR F' (.slice (some ⟨nx,0,none⟩) E E) (.slice (some ⟨w.heap.size,0,none⟩) E B):=by
 have O:F nx=none:=hr.fresh nx (aD _);have Z:(B-E)*size=B*size-E*size:=Nat.sub_mul _ _ _;have Y:E*size<=B*size:=dS _ hcap;refine⟨upd F nx ⟨w.heap.size,0,E*size,size,B*size⟩,?_,?_⟩
 .refine N2.name hr rfl rfl rfl rfl O2 (fun k hk=>Y14 _ _ k hk) ?_ (aD _)
  have hl:=(R.append Q).length;refine⟨_,e,E16 _ _,⟨?_,B147 L U V⟩,M.symm,(K124 L).symm,by rw[M];simp;omega,?_⟩
  .simp only[Array.size_append,G37,hz]
   simp at hl M;simp;omega
  .have hd:((J.toArray++new'.toArray++fV zv.cells (B-E)).toList.drop 0).take (old++new).length=J++new':=by
    rw[bW,Array.toList_append,Array.toList_append];simp only[];rw[hl];exact List.take_left
   show VL _ (old++new) ((List.drop 0 _).take _);rw[hd];exact(R.append Q).mono (M19 O _)
 .have:=VR.slice (F:=upd F nx ⟨w.heap.size,0,E*size,size,B*size⟩) (b:=nx) (o:=0) (n:=E) (c:=E) (c':=B) (Y6 F nx _) (.inr ⟨U,hcap,O2,O2,W⟩)
  exact this
theorem B46{nx:Nat}(P:Program)(hr:HR F H nx w){b o':Nat}{t:J7}{c:List Value}{size tag:Nat}(J:size<1000)(hg:J0 H b=some (.cells c (N11 tag size)))(hF:F b=some t){B m cap':Nat}{new':List Value}(U:G5 (B*size) (c.drop o')=some old)(M:VL F new new')(W:∀ v ∈ new',v.oneCell'=true)(E:(old++new).length=(B+m)*size)(V:0<size)(Q:B+m<=cap')(R:t.base+o'+cap'*size<=t.rsz)(Z:cap'<=9223372036854775807):
  ∃ F' w',(storeCells ⟨t.blk,t.base+o'+B*size,none⟩ new').run P w = .ok () w'/\N2 F H nx w F' (hs (hs H b none) nx (some (.cells (old++new) (N11 tag size)))) (nx+1) w' /\
   VR F' (.slice (some ⟨nx,0,none⟩) (B+m) (B+m)) (.slice (some ⟨t.blk,t.base+o',none⟩) (B+m) cap'):=by
 have L:F nx=none:=hr.fresh nx (aD _);obtain⟨eo,el⟩:=E31 U;obtain⟨c',e,h1,⟨h2,a0⟩,h3,h4,h5,h6⟩:=hr.hb.get hF hg;have aa:=M.length;have a8:new.length=m*size:=by simp[el] at E;rw[dM] at E;omega
 have a5:(B+m)*size<=cap'*size:=dS _ Q;have a6:(B+m)*size=B*size+m*size:=dM _ _ _;have a9:c'.toList.length=c'.size:=O2;have O:=run_storeCells_at P t.blk (t.base+o'+B*size) e new' 0 c' w h1 (by simp only[eM];omega) W;simp only[eM] at O;refine⟨upd F nx ⟨t.blk,t.base+o',(B+m)*size,size,t.rsz⟩,_,O,?_,?_⟩
 .refine N2.rename hr hg rfl rfl hF rfl rfl rfl rfl O2 (fun k hk _=>setRow_other w _ k _ hk) ?_
  refine⟨_,e,setRow_heap w t.blk c' _ e (0,0) h1,⟨?_,a0.pos (by rw[K124 J];exact V)⟩,E.symm,(K124 J).symm,?_,?_⟩
  .simp;omega
  .rw[E];dsimp only;omega
  .rw[E]
   have hs:=M39 c'.toList new' (t.base+o') (B*size) ((B+m)*size) O0 O0;show VL _ _ ((List.drop (t.base+o') (_:Array Value).toList).take _);rw[List.toList_toArray,hs];have Y:((c'.toList.drop (t.base+o')).take ((B+m)*size)).drop (B*size+new'.length)=[]:=by
    apply List.drop_eq_nil_of_le;simp;omega
   rw[Y,gV];have a3:VL F old ((((c'.toList.drop t.base).take c.length).drop o').take (B*size)):=by rw[eo];exact(h6.drop o').take _
   have a7:B*size<=c.length-o':=by
    have hh:=el;rw[eo] at hh;simp at hh;omega
   have a4:(((c'.toList.drop t.base).take c.length).drop o').take (B*size)=((c'.toList.drop (t.base+o')).take ((B+m)*size)).take (B*size):=by
    apply dH;intro j;simp only[aX,dB]
    by_cases hj:j<B*size
    .have a1:o'+j<c.length:=O0
     have a2:j<(B+m)*size:=O0;simp[hj,a1,a2,eH]
    .simp[hj]
   rw[<- a4];exact(a3.append M).mono (M19 L _)
 .have:=VR.slice (F:=upd F nx ⟨t.blk,t.base+o',(B+m)*size,size,t.rsz⟩) (b:=nx) (o:=0) (n:=B+m) (c:=B+m) (c':=cap') (Y6 F nx _) (.inr ⟨V,Q,O2,by simpa using R,Z⟩)
  exact this
end
section
variable {S1 X1:X} {c:Call} {e t u:TypeId} {i:TypeInfo} {s x:Operand} {tl:List TypeId} {ud:TypeDesc} {xl:List Operand}
theorem B49{H:Y0}{size m b o' len cap:Nat}{s:Option Nat}{z:Option (List Value)}{l:List Value}(h:Z5 H size m (.slice (some ⟨b,o',s⟩) len cap) none some=some l):
  s=none/\∃ blk c,J0 H b=some blk/\blk.row=some c/\G5 (m*size) (c.drop o')=some l:=by
 unfold Z5 B19 at h
 cases s with
 | some q=>simp at h
 | none=>
  dsimp only at h;rw[Y4] at h
  cases hg:J0 H b with
  | none=>simp[hg] at h
  | some blk=>
   rw[hg] at h
   cases blk with
   | map es c=>simp at h
   | cells c sl=>
    dsimp only[aN] at h
    split at h
    .rename_i l' hl
     rw[V14] at h
     cases h
     exact⟨rfl,_,c,rfl,rfl,hl⟩
    .cases h
   | rom c=>
    dsimp only[aN] at h
    split at h
    .rename_i l' hl
     rw[V14] at h
     cases h
     exact⟨rfl,_,c,rfl,rfl,hl⟩
    .cases h
theorem X26{β:Type}(H:Y0)(size m:Nat)(x:Value)(z:β)(k:List Value->β):Z5 H size m x z k=(Z5 H size m x none some).elim z k:=by
 unfold Z5
 split
 .unfold B19
  split
  .rw[Y4,Y4]
   cases J0 H _ with
   | none=>rfl
   | some blk=>
    cases blk with
    | map es c=>rfl
    | cells c sl=>
     dsimp only[aN]
     split
     .rw[V14,V14];rfl
     .rfl
    | rom c=>
     dsimp only[aN]
     split
     .rw[V14,V14];rfl
     .rfl
  .rfl
 .rfl
 .rw[C20,C20];rfl
 .rfl
section
variable {β:Type} {P:Program} {d n nx:Nat} {o:Oper} {T:K0 Value} {H:Y0}
theorem B130{z0:List Value}(ho:o.op = .call c)(hc:c.callee = .builtin .append)(a9:c.argTypes.toList=t :: u :: tl)(ha:c.args.toList=s :: x :: xl)(hs:W13 n s=some S1)(hx:W13 n x=some X1)(hu:P.underlying t=some (.slice e))(a8:P.underlying u=some ud)(aa:∀ k,ud ≠ .int k)(bh:M10 P e=some z0)(hi:P.info? e=some i)(b0:0<i.size)(O:i.size<1000){tag:Nat}(ax:tag=0\/tag=e+1)(call:Z3 β)(z:β)(k:Value->Y0->Nat->β):
  D6 (.appT S1 X1 tag i.size i.bytes) call T H nx z k=z\/∃ v H' nx',D6 (.appT S1 X1 tag i.size i.bytes) call T H nx z k=k v H' nx'/\EV P d n o T H nx v H' nx':=by
 have a3:s ∈ o.op.operands:=by rw[ho];simp only[eI,fL,hc];exact fQ.2 (by simp[ha])
 have Y:x ∈ o.op.operands:=by rw[ho];simp only[eI,fL,hc];exact fQ.2 (by simp[ha])
 obtain⟨it,zv,ap,bm,bf,bp,b8,aw⟩:=X14 bh;rw[hi] at ap;cases ap;have bg:zv.cells.size=i.size:=by rw[bf] at aw;simpa using aw
 show(W4 T S1 fun vs=>W4 T X1 fun vx=>M128 tag H nx i.size i.bytes vs vx z k)=z\/∃ v H' nx',(W4 T S1 fun vs=>W4 T X1 fun vx=>M128 tag H nx i.size i.bytes vs vx z k)=k v H' nx'/\_;rw[G2,G2];unfold M128
 split
 .rename_i base B J m a1 ad
  rw[G1]
  cases hb:(dD ((2*(B+m)+1000)*i.bytes) 281474976710656&&dD (B+m) 1000000000) with
  | false=>exact .inl rfl
  | true=>
   dsimp only[cond_true];simp only[aG,Nat.ble_eq] at hb;obtain⟨b7,b9⟩:=hb;have am:=R21 (H:=H) (nx:=nx) (size:=i.size) (m:=m) (x:=ev T X1) (none:Option (List Value)) some;rw[X26]
   cases aq:Z5 H i.size m (ev T X1) none some with
   | none=>exact .inl rfl
   | some new=>
    have R:∀(F:FM) (P:Program) (x':Value) (w:World),VR F (ev T X1) x'->HB F H nx w->∃ l',(∀ w2:World,w2.heap=w.heap->(eC i.size m x').run P w2 = .ok l'.toArray w2)/\VL F new l':=by
     rcases am with h | ⟨l,h,hp⟩
     .rw[aq] at h;cases h
     .rw[aq] at h;cases h;exact hp
    dsimp only[aN]
    cases au:Z0 new with
    | false=>exact .inl rfl
    | true=>
     dsimp only[cond_true]
     cases Z:dD (B+m) J with
     | true=>
      dsimp only[cond_true];have Z:B+m<=J:=Nat.le_of_ble_eq_true Z;unfold C42
      split
      .cases bq:bR m 0 with
       | false=>exact .inl rfl
       | true=>
        refine .inr ⟨_,_,_,rfl,fun F a w K Q ht hr hk => ?_⟩;have h1:=evX ht hs a3;rw[a1] at h1;have he:=h1.sliceN_inv;obtain⟨U,a2,V⟩:=R F P (a.eval x) w (evX ht hx Y) hr.hb;obtain⟨ao,ar,q0,q1,q2,q3,a0⟩:=X24 (P:=P) ho hc a9 ha a w;rw[he] at q2;have L:=Z17 q0 q1 hu a8 aa hi q2 q3 (Y16 ad (evX ht hx Y) w) (a2 w rfl) Z o.type;refine V25 (v := .slice none (B+m) J) (w':=w) ?_ (hk _ F w (.sliceN _ _) (N2.refl hr));rw[a0,L];rfl
      .rename_i b o'
       rw[G1];rcases M20 (F:=fun _=>none) (H:=H) (nx:=nx) (b:=b) (o':=o'+B*i.size) (vs:=new) none z (fun H'=>k (.slice (some ⟨b,o',none⟩) (B+m) J) H' nx) with h | ⟨H',h,hp⟩
       .exact .inl h
       .refine .inr ⟨_,H',nx,h,fun F a w K Q ht hr hk => ?_⟩
        have h1:=evX ht hs a3;rw[a1] at h1;obtain⟨_,tt,c',hF,he,a4⟩:=h1.slice_inv;have bn:J<=c':=by rcases a4 with h | ⟨_,h,_⟩<;>omega
        obtain⟨U,a2,V⟩:=R F P (a.eval x) w (evX ht hx Y) hr.hb;obtain⟨ao,ar,q0,q1,q2,q3,a0⟩:=X24 (P:=P) ho hc a9 ha a w;rw[he] at q2;have L:=Z17 q0 q1 hu a8 aa hi q2 q3 (Y16 ad (evX ht hx Y) w) (a2 w rfl) O0 o.type;obtain⟨w',ah,W⟩:=hp F P w tt U hr hF V (K14 V au);refine V25 (v := .slice (some ⟨tt.blk,tt.base+o',none⟩) (B+m) c') (w':=w') ?_ (hk _ F w' (.slice hF a4) W);rw[a0,L];dsimp only;rw[X11,eH,ah]
        rfl
      .exact .inl rfl
     | false=>
      dsimp only[cond_false];have b1:¬ B+m<=J:=fun h=>by rw[Nat.ble_eq_true_of_le h] at Z;cases Z
      rw[X26];have af:=R21 (H:=H) (nx:=nx) (size:=i.size) (m:=B) (x:=ev T S1) (none:Option (List Value)) some
      cases a7:Z5 H i.size B (ev T S1) none some with
      | none=>exact .inl rfl
      | some aj=>
       have ag:∀(F:FM) (P:Program) (x':Value) (w:World),VR F (ev T S1) x'->HB F H nx w->∃ l',(∀ w2:World,w2.heap=w.heap->(eC i.size B x').run P w2 = .ok l'.toArray w2)/\VL F aj l':=by
        rcases af with h | ⟨l,h,hp⟩
        .rw[a7] at h;cases h
        .rw[a7] at h;cases h;exact hp
       dsimp only[aN];rw[V14]
       cases ab:bR (aj++new).length ((B+m)*i.size) with
       | false=>exact .inl rfl
       | true=>
        dsimp only[cond_true];have ab:=dI ab;have a6:∀(F:FM) (a:Act) (w:World) (K:Act->World->Prop) (Q:Exit->Act->World->Prop) (H2:Y0),OR n o F T a->HR F H nx w->N2 F H nx w F H2 nx w ->
          (∀ E c',a.eval s = .slice E B c'->∃ az,a.eval s = .slice E B az/\az<B+m) ->
          (∀ v' F' w',VR F' (.slice (some ⟨nx,0,none⟩) (B+m) (B+m)) v'->N2 F H nx w F' (Go.Clo.hs H2 nx (some (.cells (aj++new) (N11 tag i.size)))) (nx+1) w'->K (a.put o.dst v') w')->o.wp P a w K Q:=by
         intro F a w K Q H2 ht hr ae ba hk;have h0:=evX ht hs a3;have h1:=h0;rw[a1] at h1;have al:∃ E c',a.eval s = .slice E B c':=by
          generalize a.eval s=qq at h1
          cases h1<;>exact⟨_,_,rfl⟩
         obtain⟨E,c0,bc⟩:=al;obtain⟨c',he,be⟩:=ba E c0 bc;obtain⟨av,b4,b6⟩:=ag F P (a.eval s) w h0 hr.hb;obtain⟨U,a2,V⟩:=R F P (a.eval x) w (evX ht hx Y) hr.hb;have bl:∀ q,(eC i.size B (.slice E B c')).run P { w with drawn:=q } = .ok av.toArray { w with drawn:=q }:=by
          intro q;rw[<- he];exact b4 _ rfl
         have b3:∀ q,(eC i.size m (a.eval x)).run P { w with drawn:=q } = .ok U.toArray { w with drawn:=q }:=fun q=>a2 _ rfl
         obtain⟨ao,ar,q0,q1,q2,q3,a0⟩:=X24 (P:=P) ho hc a9 ha a w;rw[he] at q2;obtain⟨b2,⟨hcap,b5⟩,L⟩:=K37 q0 q1 hu a8 aa hi bm q2 q3 (Y16 ad (evX ht hx Y) w) be b7 b9 bl b3 o.type;obtain⟨F',W,an⟩:=X58 (e:=e) (zv:=zv) ae.hr b6 V (w.drawn+1) O ax ab b0 bg hcap b5;exact V25 (by rw[a0,L];rfl) (hk _ F' _ an (ae.trans W))
        unfold Q128
        split
        .unfold V115
         rw[G1,G1,G4];refine .inr ⟨_,_,_,rfl,fun F a w K Q ht hr hk=>a6 F a w K Q H ht hr (N2.refl hr) ?_ hk⟩;intro E c' he;have h1:=evX ht hs a3;rw[a1] at h1;have M:=h1.sliceN_inv;rw[M] at he;cases he;exact⟨_,M,O0⟩
        .rename_i b o'
         rw[Y4]
         cases hg:J0 H b with
         | none=>exact .inl rfl
         | some blk=>
          dsimp only[aN]
          split
          .rename_i a5
           unfold V115;rw[G1,G1,G4];refine .inr ⟨_,_,_,rfl,fun F a w K Q ht hr hk=>a6 F a w K Q H ht hr (N2.refl hr) ?_ hk⟩;intro E c' he;have h1:=evX ht hs a3;rw[a1] at h1;obtain⟨_,tt,c2,hF,M,a4⟩:=h1.slice_inv;rw[M] at he;cases he
           .obtain⟨_,ai⟩:=U131 (hr.hb.get hF hg) a5 O a4
            have:c'=J:=by
             rcases Nat.decEq c' J with h | h
             .have:=(ai h).1;cases this
             .exact h
            exact⟨_,M,O0⟩
          .rename_i a5
           rw[G4];unfold V115;rw[G1,G1,G4];refine .inr ⟨_,_,_,rfl,fun F a w K Q ht hr hk => ?_⟩;have h1:=evX ht hs a3;rw[a1] at h1;obtain⟨_,tt,c2,hF,M,a4⟩:=h1.slice_inv
           by_cases bd:c2<B+m
           .refine a6 F a w K Q _ ht hr (N2.kill hr (hr.hb.lt hF)) ?_ hk
            intro E c' he;rw[M] at he;cases he;exact⟨_,M,bd⟩
           .cases blk with
            | map es q=>simp[C122] at a5
            | rom cc=>simp[C122] at a5
            | cells cc sl=>
             obtain⟨_,ai⟩:=U131 (hr.hb.get hF hg) a5 O a4;obtain⟨_,⟨_,al⟩,g2,g3,g4,g5,g6⟩:=ai O0
             cases al
             rw[a1] at a7;obtain⟨_,bo,br,ay,ak,bk⟩:=B49 (z:=none) a7;rw[hg] at ay;cases ay;cases ak;obtain⟨U,a2,V⟩:=R F P (a.eval x) w (evX ht hx Y) hr.hb;obtain⟨F',w',ah,W,an⟩:=B46 P hr O hg hF bk V (K14 V au) ab b0 O0 g5 g6;obtain⟨ao,ar,q0,q1,q2,q3,a0⟩:=X24 (P:=P) ho hc a9 ha a w;rw[M] at q2;have L:=Z17 q0 q1 hu a8 aa hi q2 q3 (Y16 ad (evX ht hx Y) w) (a2 w rfl) O0 o.type;refine V25 (v := .slice (some ⟨tt.blk,tt.base+o',none⟩) (B+m) c2) (w':=w') ?_ (hk _ F' w' an W);rw[a0,L];dsimp only;rw[X11,ah]
             rfl
          .exact .inl rfl
        .exact .inl rfl
 .exact .inl rfl
theorem Z58{z0:List Value}(ho:o.op = .call c)(hc:c.callee = .builtin .append)(M:c.argTypes.toList=t :: u :: tl)(ha:c.args.toList=s :: x :: xl)(hs:W13 n s=some S1)(hx:W13 n x=some X1)(hu:P.underlying t=some (.slice e))(O:P.underlying u=some ud)(E:∀ k,ud ≠ .int k)(J:M10 P e=some z0)(hi:P.info? e=some i)(L:0<i.size)(B:i.size<1000)(call:Z3 β)(z:β)(k:Value->Y0->Nat->β):
  D6 (.app S1 X1 i.size i.bytes) call T H nx z k=z\/∃ v H' nx',D6 (.app S1 X1 i.size i.bytes) call T H nx z k=k v H' nx'/\EV P d n o T H nx v H' nx':=
 B130 (tag:=0) ho hc M ha hs hx hu O E J hi L B (.inl rfl) call z k
end
end
section
variable {X1:X} {c:Call} {d n:Nat} {e t:TypeId} {x:Operand} {β:Type}
section
variable {β:Type} {P:Program} {d n nx:Nat} {o:Oper} {T:K0 Value} {H:Y0}
theorem C52{s:Operand}{tl:List TypeId}{xl:List Operand}{S1:X}{i:TypeInfo}(ho:o.op = .call c)(hc:c.callee = .builtin .copy)(a4:c.argTypes.toList=t :: tl)(ha:c.args.toList=s :: x :: xl)(hs:W13 n s=some S1)(hx:W13 n x=some X1)(hu:P.underlying t=some (.slice e))(hi:P.info? e=some i)(call:Z3 β)(z:β)(k:Value->Y0->Nat->β):
  D6 (.copy S1 X1 i.size) call T H nx z k=z\/∃ v H' nx',D6 (.copy S1 X1 i.size) call T H nx z k=k v H' nx'/\EV P d n o T H nx v H' nx':=by
 have R:s ∈ o.op.operands:=by rw[ho];simp only[eI,fL,hc];exact fQ.2 (by simp[ha])
 have J:x ∈ o.op.operands:=by rw[ho];simp only[eI,fL,hc];exact fQ.2 (by simp[ha])
 have V:∀(a:Act) (w:World),(execOp a.eval o).run P w=((Builtin.copy_ c.argTypes o.type (c.args.map a.eval)).run P w).andThen fun v w => .ok (.value v) w:=by
  intro a w;simp[execOp,ho,resolve,hc,invoke,builtin]
 have q0:c.argTypes[0]? = some t:=by rw[<- cL,a4];rfl
 have q1:∀ a:Act,(c.args.map a.eval)[0]? = some (a.eval s):=fun a=>by rw[fT,<- cL,ha];rfl
 have q2:∀ a:Act,(c.args.map a.eval)[1]? = some (a.eval x):=fun a=>by rw[fT,<- cL,ha];rfl
 show B41 S1 X1 i.size call T H nx z k=z\/∃ v H' nx',B41 S1 X1 i.size call T H nx z k=k v H' nx'/\_;unfold B41;rw[G2,G2]
 split
 .rename_i base B cap m Z W
  rw[G1];have a5:=R21 (H:=H) (nx:=nx) (size:=i.size) (m:=Nat.min m B) (x:=ev T X1) (none:Option (List Value)) some;rw[X26]
  cases O:Z5 H i.size (Nat.min m B) (ev T X1) none some with
  | none=>exact .inl rfl
  | some cs=>
   have U:∀(F:FM) (P:Program) (x':Value) (w:World),VR F (ev T X1) x'->HB F H nx w->∃ l',(∀ w2:World,w2.heap=w.heap->(eC i.size (Nat.min m B) x').run P w2 = .ok l'.toArray w2)/\VL F cs l':=by
    rcases a5 with h | ⟨l,h,hp⟩
    .rw[O] at h;cases h
    .rw[O] at h;cases h;exact hp
   dsimp only[aN]
   cases a3:Z0 cs with
   | false=>exact .inl rfl
   | true=>
    dsimp only[cond_true]
    split
    .refine .inr ⟨_,_,_,rfl,fun F a w K Q ht hr hk => ?_⟩
     have h1:=evX ht hs R;rw[Z] at h1;have he:=h1.sliceN_inv;obtain⟨Y,M,L⟩:=U F P (a.eval x) w (evX ht hx J) hr.hb;refine V25 (v:=O8 (.ofNat (Nat.min m B))) (w':=w) ?_ (hk _ F w (.int _ _) (N2.refl hr));rw[V];have E:=q1 a;rw[he] at E;simp only[Builtin.copy_,q0,E,q2 a,aS,run_underlying hu,aM,Y16 W (evX ht hx J) w,J15 hi,M w rfl,bD,goInt]
     rfl
    .rename_i a0
     obtain⟨b,o',s'⟩:=a0
     cases s' with
     | some s0=>exact .inl (by unfold U12;rfl)
     | none=>
     rcases M20 (F:=fun _=>none) (H:=H) (nx:=nx) (b:=b) (o':=o') (vs:=cs) none z (fun H=>k (O8 (.ofNat (Nat.min m B))) H nx) with h | ⟨H',h,hp⟩
     .exact .inl h
     .refine .inr ⟨_,H',nx,h,fun F a w K Q ht hr hk => ?_⟩
      have h1:=evX ht hs R;rw[Z] at h1;obtain⟨_,tt,c',hF,he,_⟩:=h1.slice_inv;obtain⟨Y,M,L⟩:=U F P (a.eval x) w (evX ht hx J) hr.hb;obtain⟨w',a2,a1⟩:=hp F P w tt Y hr hF L (K14 L a3);refine V25 (v:=O8 (.ofNat (Nat.min m B))) (w':=w') ?_ (hk _ F w' (.int _ _) a1);rw[V];have E:=q1 a;rw[he] at E;simp only[Builtin.copy_,q0,E,q2 a,aS,run_underlying hu,aM,Y16 W (evX ht hx J) w,J15 hi,M w rfl,bD,goInt,a2]
      rfl
 .exact .inl rfl
theorem D55{kt et:TypeId}(ho:o.op = .call c)(hc:c.callee = .builtin .clear)(M:c.argTypes.toList=[t])(ha:c.args.toList=[x])(hx:W13 n x=some X1)(hu:P.underlying t=some (.map kt et))(call:Z3 β)(z:β)(k:Value->Y0->Nat->β):
  D6 (.clrM X1) call T H nx z k=z\/∃ v H' nx',D6 (.clrM X1) call T H nx z k=k v H' nx'/\EV P d n o T H nx v H' nx':=by
 have E:x ∈ o.op.operands:=by rw[ho];simp only[eI,fL,hc];exact fQ.2 (by simp[ha])
 have J:∀(a:Act) (w:World),(execOp a.eval o).run P w=((fX c.argTypes o.type (c.args.map a.eval)).run P w).andThen fun v w => .ok (.value v) w:=by
  intro a w;simp[execOp,ho,resolve,hc,invoke,builtin]
 have q0:c.argTypes[0]? = some t:=by rw[<- cL,M];rfl
 have q1:∀ a:Act,(c.args.map a.eval)[0]? = some (a.eval x):=fun a=>by rw[fT,<- cL,ha];rfl
 show Y42 X1 call T H nx z k=z\/∃ v H' nx',Y42 X1 call T H nx z k=k v H' nx'/\_;unfold Y42;rw[G2]
 split
 .rename_i hv
  refine .inr ⟨undef,H,nx,rfl,fun F a w K Q ht hr hk => ?_⟩;have h1:=evX ht hx E;rw[hv] at h1;have he:a.eval x = .map none:=by
   generalize a.eval x=q at h1
   cases h1;rfl
  refine V25 (v := .tuple #[]) (w':=w) ?_ (hk _ F w (VR.undef F) (N2.refl hr));rw[J];have B:=q1 a;rw[he] at B;simp only[fX,q0,B,aS,run_underlying hu,aM,bD]
 .rename_i r hv
  rw[Y4]
  cases hg:J0 H r with
  | none=>exact .inl rfl
  | some blk=>
   dsimp only[aN]
   split
   .rename_i es clock
    rw[G4];refine .inr ⟨undef,_,nx,rfl,fun F a w K Q ht hr hk => ?_⟩;have h1:=evX ht hx E;rw[hv] at h1;obtain⟨tt,hF,he⟩:∃ tt,F r=some tt/\a.eval x = .map (some tt.blk):=by
     generalize a.eval x=q at h1
     cases h1 with
     | map hF=>exact⟨_,hF,rfl⟩
    obtain⟨O,es',hw,R⟩:=hr.hb.get hF hg;have L:=K31 (c:=clock) hr hF hg rfl O (es:=[]) (es' := #[]) .nil;refine V25 (v := .tuple #[]) ?_ (hk _ F _ (VR.undef F) L);rw[J];have B:=q1 a;rw[he] at B;simp only[fX,q0,B,aS,run_underlying hu,aM,bD,M7 hw,R15 hw]
   .exact .inl rfl
 .exact .inl rfl
theorem M53{zero:List Value}(ho:o.op = .call c)(hc:c.callee = .builtin .clear)(Z:c.argTypes.toList=[t])(ha:c.args.toList=[x])(hx:W13 n x=some X1)(hu:P.underlying t=some (.slice e))(hz:M10 P e=some zero)(call:Z3 β)(z:β)(k:Value->Y0->Nat->β):
  D6 (.clrS X1 zero) call T H nx z k=z\/∃ v H' nx',D6 (.clrS X1 zero) call T H nx z k=k v H' nx'/\EV P d n o T H nx v H' nx':=by
 have E:x ∈ o.op.operands:=by rw[ho];simp only[eI,fL,hc];exact fQ.2 (by simp[ha])
 have J:∀(a:Act) (w:World),(execOp a.eval o).run P w=((fX c.argTypes o.type (c.args.map a.eval)).run P w).andThen fun v w => .ok (.value v) w:=by
  intro a w;simp[execOp,ho,resolve,hc,invoke,builtin]
 have q0:c.argTypes[0]? = some t:=by rw[<- cL,Z];rfl
 have q1:∀ a:Act,(c.args.map a.eval)[0]? = some (a.eval x):=fun a=>by rw[fT,<- cL,ha];rfl
 obtain⟨it,zv,V,a0,rfl,R,a1,a2⟩:=X14 hz;show W42 X1 zv.cells.toList call T H nx z k=z\/∃ v H' nx',W42 X1 zv.cells.toList call T H nx z k=k v H' nx'/\_;unfold W42;rw[G2]
 split
 .rename_i m cp hv
  refine .inr ⟨undef,H,nx,rfl,fun F a w K Q ht hr hk => ?_⟩;have h1:=evX ht hx E;rw[hv] at h1;have he:=h1.sliceN_inv;refine V25 (v := .tuple #[]) (w':=w) ?_ (hk _ F w (VR.undef F) (N2.refl hr));rw[J];have B:=q1 a;rw[he] at B;simp only[fX,q0,B,aS,run_underlying hu,aM,bD]
 .rename_i b o' m cp hv
  cases hm:bR m 0 with
  | true=>
   have L:m=0:=dI hm;subst L;refine .inr ⟨undef,H,nx,rfl,fun F a w K Q ht hr hk => ?_⟩;have h1:=evX ht hx E;rw[hv] at h1;obtain⟨_,tt,c',hF,he,_⟩:=h1.slice_inv;refine V25 (v := .tuple #[]) (w':=w) ?_ (hk _ F w (VR.undef F) (N2.refl hr));rw[J];have B:=q1 a;rw[he] at B;simp only[fX,q0,B,aS,run_underlying hu,aM,bD]
  | false=>
   have L:m≠0:=fun e=>by subst e;simp at hm
   simp only[cond_false]
   cases W:Z0 (Q19 zv.cells.toList m) with
   | false=>exact .inl rfl
   | true=>
    simp only[cond_true];rcases M20 (F:=fun _=>none) (H:=H) (nx:=nx) (b:=b) (o':=o') (vs:=Q19 zv.cells.toList m) none z (fun H=>k undef H nx) with h | ⟨H',h,hp⟩
    .exact .inl h
    .refine .inr ⟨_,H',nx,h,fun F a w K Q ht hr hk => ?_⟩
     have h1:=evX ht hx E;rw[hv] at h1;obtain⟨_,tt,c',hF,he,_⟩:=h1.slice_inv;have O:VL F (Q19 zv.cells.toList m) (Q19 zv.cells.toList m):=VL.repeat (X12 R F) m;obtain⟨w',U,M⟩:=hp F P w tt _ hr hF O (K14 O W);refine V25 (v := .tuple #[]) (w':=w') ?_ (hk _ F w' (VR.undef F) M);rw[J];have B:=q1 a;rw[he] at B;have Y:(fV zv.cells m).toList=Q19 zv.cells.toList m:=B16 zv.cells m;obtain⟨m',rfl⟩:∃ m',m=m'+1:=⟨m-1,O0⟩
     simp only[fX,q0,B,aS,run_underlying hu,aM,bD,E19 V a0,Y,U]
 .exact .inl rfl
theorem C60 {i : IE} (hI : W18 P n o = some (.e i)) {call : Z3 β} (hcall : E11 P call) (z : β) (k : Value -> Y0 -> Nat -> β) :
    D6 i call T H nx z k = z \/ ∃ v H' nx', D6 i call T H nx z k = k v H' nx' /\ EV P d n o T H nx v H' nx' := by
  have h := (E20 hI).resolve_right (by simp)
  clear hI
  unfold G19 at h
  split at h
  case h_24 =>
    rename_i t x v ho
    split at h
    · rename_i h1 h2 h3; cases h; exact W63 ho h1 h2 h3 call z k
    · cases h
  case h_25 =>
    rename_i t m key v ho
    split at h
    · rename_i h1 h2 h3 h4
      cases hk : P.underlying _ with
      | none => rw [hk] at h; cases h
      | some kd => rw [hk] at h; cases h; exact V41 ho (.inl rfl) h1 h2 h3 h4 hk call z k
    · cases h
  case h_28 =>
    rename_i t m key v ho
    split at h
    · rename_i h1 h2 h3 h4
      cases hk : P.underlying _ with
      | none => rw [hk] at h; cases h
      | some kd => rw [hk] at h; cases h; exact V41 ho (.inr rfl) h1 h2 h3 h4 hk call z k
    · cases h
  case h_26 =>
    rename_i c ho
    split at h
    case h_1 =>
      rename_i f hc
      split at h
      · rename_i h1 h2; cases h; exact Y54 ho hc h1 h2 hcall z k
      · cases h
    case h_2 =>
      rename_i hc
      split at h
      · rename_i t u tl s x xl h1 h2
        split at h
        · rename_i g1 g2 g3 g4
          split at h
          · rename_i z0 inf g5 g6
            split at h
            · cases h
            · rename_i hud
              cases hb : (Nat.blt 0 inf.size && Nat.blt inf.size 1000) with
              | false => rw [hb] at h; cases h
              | true =>
                rw [hb] at h
                simp only [Bool.and_eq_true] at hb
                simp only [cond_true] at h
                split at h
                · cases h; exact B130 ho hc h1 h2 g1 g2 g3 g4 (fun k' e => hud k' e) g5 g6 (by simpa using hb.1) (by simpa using hb.2) (.inr rfl) call z k
                · cases h; exact Z58 ho hc h1 h2 g1 g2 g3 g4 (fun k' e => hud k' e) g5 g6 (by simpa using hb.1) (by simpa using hb.2) call z k
          · cases h
        · cases h
      · cases h
    case h_3 =>
      rename_i hc
      split at h
      · rename_i t tl s x xl h1 h2
        split at h
        · rename_i g1 g2 g3
          cases hk : P.info? _ with
          | none => rw [hk] at h; cases h
          | some inf => rw [hk] at h; cases h; exact C52 ho hc h1 h2 g1 g2 g3 hk call z k
        · cases h
      · cases h
    all_goals first
      | (cases h; done)
      | (split at h <;> cases h; done)
      | (rename_i hc; split at h
         · rename_i t x h1 h2
           split at h
           · rename_i g1 g2; cases h; exact D55 ho hc h1 h2 g1 g2 call z k
           · rename_i g1 g2
             cases hz : M10 P _ with
             | none => rw [hz] at h; cases h
             | some zero => rw [hz] at h; cases h; exact M53 ho hc h1 h2 g1 g2 hz call z k
           · cases h
         · cases h
         done)
      | (repeat' (first | (cases h; done) | split at h))
      | skip
    all_goals first
      | (rw [Bool.cond_eq_ite] at h; split at h <;> cases h; done)
      | (rw [Option.map_eq_some_iff] at h; obtain ⟨_, _, h⟩ := h; cases h; done)
  all_goals first
    | (cases h; done)
    | (split at h <;> cases h; done)
    | (repeat' (first | (cases h; done) | split at h))
    | skip
  all_goals first
    | (rw [Bool.cond_eq_ite] at h; split at h <;> cases h; done)
    | (rw [Option.map_eq_some_iff] at h; obtain ⟨_, _, h⟩ := h; cases h; done)
end
theorem TR.put{d:Nat}{F:FM}{T:K0 Value}{n:Nat}{a:Act}(ht:TR d F T n a.tmps){t:Nat}(E:t<n){v v':Value}(hv:VR F v v'):TR d F (ts d T t v) n (a.put (some t) v').tmps:=by
 have B:∀ j,j<n->j<2^d:=fun j hj=>aO hj ht.le
 refine⟨U16 d T t v ht.wf,by simp[Act.put,ht.size],ht.le,fun j hj => ?_⟩;rw[K21 d T t j v ht.wf (B t E) (B j hj)]
 by_cases e:j=t
 .subst e
  simp[Act.put,ht.size,hj];exact hv
 .have:=ht.get j hj
  simp only[e,if_false];have e2:(a.put (some t) v').tmps.getD j undef=a.tmps.getD j undef:=by
   simp[Act.put,Array.getElem?_setIfInBounds_ne (eT e)]
  rw[e2];exact this
def U8(n:Nat)(W:List Nat)(T T':K0 Value):Prop:=∀ j,j<n->j ∉ W->(tg T' j).getD undef=(tg T j).getD undef
theorem U8.refl(n:Nat)(W:List Nat)(T:K0 Value):U8 n W T T:=fun _ _ _=>rfl
theorem U8.trans{n:Nat}{W W':List Nat}{T T1 T2:K0 Value}(h:U8 n W T T1)(h':U8 n W' T1 T2):U8 n (W++W') T T2:=fun j hj hn=>by
 rw[dN] at hn;exact(h' j hj (fun h=>hn (.inr h))).trans (h j hj (fun h=>hn (.inl h)))
theorem U8.mono{W W':List Nat}{T T1:K0 Value}(h:U8 n W T T1)(hs:∀ j ∈ W,j ∈ W'):U8 n W' T T1:=fun j hj hn=>h j hj (fun hh=>hn (hs j hh))
theorem Z66{t:Nat}{T:K0 Value}(hn:n<=2^d)(ht:t<n)(hw:WF d T)(v:Value):U8 n [t] T (ts d T t v):=fun j hj B=>by
 rw[K21 d T t j v hw O0 O0,if_neg (by simpa using B)]
theorem R14{dst:Option Nat}{v:Value}{T:K0 Value}(k:K0 Value->β):
  ∃ T',E4 d dst v T k=k T'/\(WF d T->WF d T'/\∀ n,n<=2^d->(∀ t,dst=some t->t<n)->U8 n dst.toList T T')/\∀(F:FM) (n:Nat) (a:Act) (v':Value),(∀ t,dst=some t->t<n)->TR d F T n a.tmps->VR F v v'->TR d F T' n (a.put dst v').tmps:=by
 cases dst with
 | none=>exact⟨T,rfl,fun h=>⟨h,fun n _ _=>U8.refl _ _ _⟩,fun F n a v' _ ht _=>ht⟩
 | some t=>
  refine⟨ts d T t v,Z15 d T t v k,fun h=>⟨U16 d T t v h,fun n hn B=>Z66 hn (B t rfl) h v⟩,fun F n a v' B ht hv=>ht.put (B t rfl) hv⟩
def GR(g:Option (Nat × Bool))(F:FM)(T:K0 Value)(a:Act):Prop:=∀ t B,g=some (t,B)->t<a.tmps.size/\VR F ((tg T t).getD undef) (a.tmps.getD t undef)
theorem B28{ops:List Oper}{o:Oper}{g:Option (Nat × Bool)}(hg:W16 n ops o.guard=some g)(T:K0 Value)(z L no:β):
  V8 g T z L no=z\/(V8 g T z L no=L/\∀(F:FM) (a:Act),GR g F T a->fE o (yielded ops.toArray a.tmps)=true) \/
  (V8 g T z L no=no/\∀(F:FM) (a:Act),GR g F T a->fE o (yielded ops.toArray a.tmps)=false):=by
 cases J:o.guard with
 | none=>
  rw[J] at hg;simp[W16] at hg;subst hg;exact .inr (.inl ⟨rfl,fun F a _=>by simp[fE,J]⟩)
 | some jw=>
  obtain⟨j,B⟩:=jw;rw[J] at hg;simp only[W16] at hg
  cases hj:R8 ops j with
  | none=>simp[hj] at hg
  | some oj=>
   cases hd:oj.dst with
   | none=>simp[hj,hd] at hg
   | some t=>
    simp only[hj,hd] at hg
    cases hb:dE t n with
    | false=>rw[hb] at hg;cases hg
    | true=>
     rw[hb] at hg;cases hg;have hy:∀(F:FM) (a:Act),GR (some (t,B)) F T a->∃ v',VR F ((tg T t).getD undef) v'/\yielded ops.toArray a.tmps j=(match v' with | .bool b=>some b | _=>none):=by
      intro F a ht;obtain⟨M,E⟩:=ht t B rfl;refine⟨a.tmps.getD t undef,E,?_⟩;rw[Q8] at hj;simp only[yielded,List.getElem?_toArray,hj,Option.bind_some,hd,Array.getElem?_eq_getElem M];have:a.tmps.getD t undef=a.tmps[t]:=by simp[M]
      rw[this]
      cases a.tmps[t]<;>rfl
     unfold V8;dsimp only;rw[J11]
     cases hv:tg T t with
     | none=>
      refine .inr (.inr ⟨rfl,fun F a ht => ?_⟩);obtain⟨v',E,he⟩:=hy F a ht;rw[hv] at E
      cases E
      simp[fE,J,he]
     | some v=>
      dsimp only[aN]
      split
      .rename_i b
       rw[E14];have key:∀(F:FM) (a:Act),GR (some (t,B)) F T a->fE o (yielded ops.toArray a.tmps)=cond b B (!B):=by
        intro F a ht;obtain⟨v',E,he⟩:=hy F a ht;rw[hv] at E;have:=VR.bool_inv E;subst this;simp only[fE,J,he]
        cases b<;>cases B<;>rfl
       cases hc:cond b B (!B) with
       | true=>exact .inr (.inl ⟨rfl,fun F a ht=>by rw[key F a ht,hc]⟩)
       | false=>exact .inr (.inr ⟨rfl,fun F a ht=>by rw[key F a ht,hc]⟩)
      .exact .inl rfl
      .rename_i O Q
       refine .inr (.inr ⟨rfl,fun F a ht => ?_⟩);obtain⟨v',E,he⟩:=hy F a ht;rw[hv] at E;simp only[Option.getD_some] at E;have:∀ b,v' ≠ .bool b:=by
        intro b hb;subst hb
        cases E
        .exact Q _ rfl
        .exact O b rfl
       simp only[fE,J,he]
       cases v'<;>first | rfl | exact absurd rfl (this _)
end
section
variable {n:Nat} {o:Oper} {ops:List Oper} {s:S}
theorem D8(a:Act)(dst:Option Tmp)(v:Value):(a.put dst v).defers=a.defers:=by cases dst<;>rfl
theorem E63{t:Option Tmp}{r:Option Nat}(h:E42 n t=some r):r=t/\∀ q,t=some q->q<n:=by
 cases t with
 | none=>simp[E42] at h;exact⟨h.symm,fun q hq=>by cases hq⟩
 | some t=>
  simp only[E42] at h
  cases hb:dE t n with
  | false=>rw[hb] at h;cases h
  | true=>rw[hb] at h;cases h;exact⟨rfl,fun q hq=>by cases hq;simpa using hb⟩
theorem M16{P:Program}(h:K16 P n ops o=some s):W16 n ops o.guard=some s.guard/\s.dst=o.dst/\(∀ q,o.dst=some q->q<n)/\W18 P n o=some s.i:=by
 unfold K16 at h
 split at h
 .rename_i g d i h1 h2 h3
  cases h
  obtain⟨e1,e2⟩:=E63 h2;exact⟨h1,e1,e2,h3⟩
 .cases h
theorem TR.gr{d:Nat}{F:FM}{T:K0 Value}{a:Act}(ht:TR d F T n a.tmps){g:Option (Nat × Bool)}(hg:W16 n ops o.guard=some g):GR g F T a:=by
 intro t J e;subst e;have E:t<n:=by
  cases B:o.guard with
  | none=>rw[B] at hg;simp[W16] at hg
  | some jw=>
   obtain⟨j,w⟩:=jw;rw[B] at hg;simp only[W16] at hg
   split at hg
   .split at hg
    .rename_i t' _
     cases hb:dE t' n with
     | false=>rw[hb] at hg;cases hg
     | true=>rw[hb] at hg;cases hg;simpa using hb
    .cases hg
   .cases hg
 exact⟨by rw[ht.size];exact E,ht.get t E⟩
def E69(P:Program)(d n:Nat)(ops:List Oper)(o:Oper)(T:K0 Value)(H:Y0)(nx:Nat)(T':K0 Value)(H':Y0)(nx':Nat):Prop:=
 ∀(F:FM) (a:Act) (w:World) (K:Act->World->Prop) (Q:Exit->Act->World->Prop),TR d F T n a.tmps->HR F H nx w ->
  (∀ F' a' w',TR d F' T' n a'.tmps->N2 F H nx w F' H' nx' w'->a'.defers=a.defers->K a' w') ->
  if fE o (yielded ops.toArray a.tmps) then o.wp P a w K Q\/(o.asks P a w/\LetsOut Q) else K (a.put o.dst undef) w
section
variable {β:Type} {P:Program} {d n:Nat} {ops:List Oper}
theorem R53(hs:K16 P n ops o=some s)(hn:n<=2^d){call:Z3 β}(O:E11 P call)(T:K0 Value)(H:Y0)(nx:Nat)(z:β)(k:K0 Value->Y0->Nat->β):
  U18 P d call s T H nx z k=z\/∃ T' H' nx',U18 P d call s T H nx z k=k T' H' nx'/\(WF d T->WF d T'/\U8 n s.dst.toList T T')/\E69 P d n ops o T H nx T' H' nx':=by
 obtain⟨hg,hd,E,hi⟩:=M16 hs;obtain⟨g,dst,i⟩:=s;dsimp only at hg hd hi;subst hd;show V8 g T z (V30 i P d o.dst call T H nx z k) (E4 d o.dst undef T fun T=>k T H nx)=z\/∃ T' H' nx',V8 g T z (V30 i P d o.dst call T H nx z k) (E4 d o.dst undef T fun T=>k T H nx)=k T' H' nx'/\_;rcases B28 hg T z (V30 i P d o.dst call T H nx z k) (E4 d o.dst undef T fun T=>k T H nx) with e | ⟨e,hw⟩ | ⟨e,hw⟩
 .exact .inl e
 .rw[e]
  cases i with
  | p i=>
   show C54 i P d o.dst call T H nx z k=z\/∃ T' H' nx',C54 i P d o.dst call T H nx z k=k T' H' nx'/\_;unfold C54;rcases K61 (P:=P) (d:=d) (T:=T) hi z (fun v=>E4 d o.dst v T fun T=>k T H nx) with h | ⟨v,h,hp⟩
   .exact .inl h
   .obtain⟨T',J,B,hT⟩:=R14 (d:=d) (dst:=o.dst) (v:=v) (T:=T) (fun T=>k T H nx)
    refine .inr ⟨T',H,nx,by rw[h,J],fun h=>⟨(B h).1,(B h).2 n hn E⟩,fun F a w K Q ht hr hk => ?_⟩;rw[if_pos (hw F a (ht.gr hg))];obtain⟨v',L,hv⟩:=hp F a w (ht.or o);exact .inl (V25 L (hk F _ w (hT F n a v' E ht hv) (N2.refl hr) (D8 a _ _)))
  | r i=>
   show K56 i P d o.dst call T H nx z k=z\/∃ T' H' nx',K56 i P d o.dst call T H nx z k=k T' H' nx'/\_;unfold K56;rcases U34 (P:=P) (d:=d) (T:=T) (H:=H) (nx:=nx) hi z (fun v=>E4 d o.dst v T fun T=>k T H nx) with h | ⟨v,h,hp⟩
   .exact .inl h
   .obtain⟨T',J,B,hT⟩:=R14 (d:=d) (dst:=o.dst) (v:=v) (T:=T) (fun T=>k T H nx)
    refine .inr ⟨T',H,nx,by rw[h,J],fun h=>⟨(B h).1,(B h).2 n hn E⟩,fun F a w K Q ht hr hk => ?_⟩;rw[if_pos (hw F a (ht.gr hg))];obtain⟨v',L,hv⟩:=hp F a w (ht.or o) hr.hb;exact .inl (V25 L (hk F _ w (hT F n a v' E ht hv) (N2.refl hr) (D8 a _ _)))
  | a i=>
   show Z42 i P d o.dst call T H nx z k=z\/∃ T' H' nx',Z42 i P d o.dst call T H nx z k=k T' H' nx'/\_;unfold Z42
   .rcases W57 (P:=P) (d:=d) (T:=T) hi z (J36 d o.dst T H nx k) with h | ⟨b,y,h,hp⟩
    .exact .inl h
    .unfold J36 at h
     rw[G4,G1,E7] at h;obtain⟨T',J,B,hT⟩:=R14 (d:=d) (dst:=o.dst) (v:=y.val nx) (T:=T) (fun T=>k T (Go.Clo.hs H nx (some b)) (nx+1));rw[J] at h;refine .inr ⟨T',_,nx+1,h,fun h=>⟨(B h).1,(B h).2 n hn E⟩,fun F a w K Q ht hr hk => ?_⟩;rw[if_pos (hw F a (ht.gr hg))];obtain⟨U,L,R⟩:=hp F a w (ht.or o);obtain⟨t,e1,e2,M⟩:=N2.new hr R;have hv:VR (upd F nx t) (y.val nx) (y.real w.heap.size):=by rw[<- e1];exact Q0.vr (Y6 F nx t) e2 y
     exact .inl (V25 L (hk _ _ _ (hT _ n a _ E (ht.mono (M.fle hr)) hv) M (D8 a _ _)))
  | e i=>
   show N53 i P d o.dst call T H nx z k=z\/∃ T' H' nx',N53 i P d o.dst call T H nx z k=k T' H' nx'/\_;unfold N53;rcases C60 (P:=P) (d:=d) (T:=T) (H:=H) (nx:=nx) hi O z (fun v H nx=>E4 d o.dst v T fun T=>k T H nx) with h | ⟨v,H',nx',h,hp⟩
   .exact .inl h
   .obtain⟨T',J,B,hT⟩:=R14 (d:=d) (dst:=o.dst) (v:=v) (T:=T) (fun T=>k T H' nx')
    refine .inr ⟨T',H',nx',by rw[h,J],fun h=>⟨(B h).1,(B h).2 n hn E⟩,fun F a w K Q ht hr hk => ?_⟩;rw[if_pos (hw F a (ht.gr hg))];refine .inl (hp F a w K Q (ht.or o) hr fun v' F' w' hv M => ?_);exact hk F' _ w' (hT F' n a v' E (ht.mono (M.fle hr)) hv) M (D8 a _ _)
 .rw[e]
  obtain⟨T',J,B,hT⟩:=R14 (d:=d) (dst:=o.dst) (v:=undef) (T:=T) (fun T=>k T H nx);refine .inr ⟨T',H,nx,J,fun h=>⟨(B h).1,(B h).2 n hn E⟩,fun F a w K Q ht hr hk => ?_⟩;rw[if_neg (by simp[hw F a (ht.gr hg)])];exact hk F _ w (hT F n a undef E ht (VR.undef F)) (N2.refl hr) (D8 a _ _)
def Q10:List S->List Nat
 | []=>[]
 | s :: l=>s.dst.toList++Q10 l
theorem D37(hn:n<=2^d){call:Z3 β}(E:E11 P call)(z:β)(k:K0 Value->Y0->Nat->β):∀(suf:List Oper) (l:List S) (i:Nat),R3 P n ops suf=some l->(∀ j,j<suf.length->suf[j]? = ops[i+j]?)->∀(T:K0 Value) (H:Y0) (nx:Nat),
  C9 P d call z k l T H nx=z\/∃ T' H' nx',C9 P d call z k l T H nx=k T' H' nx'/\(WF d T->WF d T'/\U8 n (Q10 l) T T') /\
   ∀(F:FM) (a:Act) (w:World) (Q:Exit->Act->World->Prop) (B:List Nat),TR d F T n a.tmps->HR F H nx w ->
    (∀ F' a' w',TR d F' T' n a'.tmps->N2 F H nx w F' H' nx' w'->a'.defers=a.defers->wpOps P ops.toArray Q B a' w')->wpOps P ops.toArray Q (List.range' i suf.length++B) a w
 | [],l,i,h,_,T,H,nx=>by
  simp[R3] at h;subst h;exact .inr ⟨T,H,nx,rfl,fun h=>⟨h,U8.refl _ _ _⟩,fun F a w Q B ht hr hk=>by simpa using hk F a w ht (N2.refl hr) rfl⟩
 | o :: suf,l,i,h,hsuf,T,H,nx=>by
  simp only[R3] at h
  cases hs:K16 P n ops o with
  | none=>simp[hs] at h
  | some s=>cases hl:R3 P n ops suf with
   | none=>simp[hs,hl] at h
   | some l'=>
    simp[hs,hl] at h;subst h;show U18 P d call s T H nx z (C9 P d call z k l')=z\/∃ T' H' nx',U18 P d call s T H nx z (C9 P d call z k l')=k T' H' nx'/\_;rcases R53 (d:=d) hs hn E T H nx z (C9 P d call z k l') with h1 | ⟨T1,H1,nx1,h1,hw1,hok⟩
    .exact .inl h1
    .rw[h1]
     rcases D37 hn E z k suf l' (i+1) hl (fun j hj=>by have:=hsuf (j+1) O5;simpa [eH,Nat.add_comm 1 j] using this) T1 H1 nx1 with h2 | ⟨T2,H2,nx2,h2,hw2,hp⟩
     .exact .inl h2
     .refine .inr ⟨T2,H2,nx2,h2,fun h=>⟨(hw2 (hw1 h).1).1,(hw1 h).2.trans (hw2 (hw1 h).1).2⟩,fun F a w Q B ht hr hk => ?_⟩
      simp only[cV,List.range'_succ,dL];rw[wpOps_cons];unfold wpOp;have ho:ops.toArray[i]? = some o:=by have:=hsuf 0 O2;simpa using this.symm
      simp only[ho];refine hok F a w _ Q ht hr fun F' a' w' O J R => ?_
      exact hp F' a' w' Q B O J.hr fun F2 a2 w2 U M L=>hk F2 a2 w2 U (J.trans M) (L.trans R)
theorem W58(hn:n<=2^d){call:Z3 β}(B:E11 P call)(z:β)(k:K0 Value->Y0->Nat->β)(suf:List Oper)(l:List S)(i:Nat)(h:R3 P n ops suf=some l)(E:∀ j,suf[j]? = ops[i+j]?)(T:K0 Value)(H:Y0)(nx:Nat):
  C9 P d call z k l T H nx=z\/∃ T' H' nx',C9 P d call z k l T H nx=k T' H' nx'/\(WF d T->WF d T'/\U8 n (Q10 l) T T') /\
   ∀(F:FM) (a:Act) (w:World) (Q:Exit->Act->World->Prop),TR d F T n a.tmps->HR F H nx w ->
    (∀ F' a' w',TR d F' T' n a'.tmps->N2 F H nx w F' H' nx' w'->a'.defers=a.defers->Q .normal a' w')->wpOps P ops.toArray Q (List.range' i suf.length) a w:=by
 rcases D37 hn B z k suf l i h (fun j _=>E j) T H nx with h1 | ⟨T',H',nx',h1,h2,h3⟩
 .exact .inl h1
 .exact .inr ⟨T',H',nx',h1,h2,fun F a w Q ht hr hk=>by simpa using h3 F a w Q [] ht hr hk⟩
end
end
section
variable {i:Nat} {listed:Array Bool} {ops:List Oper}
theorem V40{β:Type}:∀(ops:List Oper) (acc:List Nat) (f:List Nat->β),∃ ml,D26 acc ops f=f (acc++ml)/\ml.length=ops.length /\
  ∀ i o,ops[i]? = some o->ml[i]? = some (Q1 (acc++ml.take i) o.after.toList 0)
 | [],acc,f=>⟨[],by simp[D26],rfl,fun i o h=>by simp at h⟩
 | o :: ops,acc,f=>by
  obtain⟨ml,h1,h2,h3⟩:=V40 ops (acc++[Q1 acc o.after.toList 0]) f;refine⟨Q1 acc o.after.toList 0 :: ml,by simp[D26,G1,h1],by simp[h2],fun i o' hi => ?_⟩
  cases i with
  | zero=>simp at hi;subst hi;simp
  | succ i=>simpa using h3 i o' (by simpa using hi)
theorem Z55(ops:List Oper):(U1 ops).length=ops.length/\∀ i o,ops[i]? = some o->(U1 ops)[i]? = some (Q1 ((U1 ops).take i) o.after.toList 0):=by
 obtain⟨ml,h1,h2,h3⟩:=V40 ops [] id;have:U1 ops=ml:=by unfold U1;rw[h1];simp
 rw[this];exact⟨h2,fun i o hi=>by simpa using h3 i o hi⟩
theorem E26:∀(es:List Edge) (acc:List Nat) (m j:Nat),(Q1 acc es m).testBit j=true->m.testBit j=true\/∃ e ∈ es,fH .any e=true/\(e.on=j\/∃ x,acc[e.on]? = some x/\x.testBit j=true)
 | [],acc,m,j,h => .inl h
 | e :: es,acc,m,j,h=>by
  simp only[Q1] at h
  cases hb:fH .any e with
  | false=>
   rw[hb] at h;rcases E26 es acc m j h with h | ⟨e',he',hx⟩
   .exact .inl h
   .exact .inr ⟨e',by simp[he'],hx⟩
  | true=>
   rw[hb] at h;rcases E26 es acc _ j h with h | ⟨e',he',hx⟩
   .simp only[aV,cO] at h
    rcases h with (h | h) | h
    .exact .inl h
    .rw[aR] at h
     exact .inr ⟨e,O2,hb,.inl (by simpa using h)⟩
    .refine .inr ⟨e,O2,hb,.inr ?_⟩
     rw[Q8] at h
     cases hx:acc[e.on]? with
     | none=>rw[hx] at h;simp at h
     | some x=>rw[hx] at h;exact⟨x,rfl,h⟩
   .exact .inr ⟨e',by simp[he'],hx⟩
theorem G46{j:Nat}(h:D2 (U1 ops) i j=true):
  ∃ o e,ops[i]? = some o/\e ∈ o.after/\fH .any e=true/\(e.on=j\/(e.on<i/\D2 (U1 ops) e.on j=true)):=by
 obtain⟨h1,h2⟩:=Z55 ops;unfold D2 at h;rw[Q8] at h
 cases hm:(U1 ops)[i]? with
 | none=>rw[hm] at h;cases h
 | some m=>
  rw[hm] at h;dsimp only at h;have hi:i<ops.length:=by
   rcases aW i ops.length with g | g
   .exact g
   .simp[h1,g] at hm
  have ho:ops[i]? = some ops[i]:=by simp[hi]
  have:=h2 i _ ho;rw[hm] at this
  cases this
  rcases E26 _ _ _ _ h with h | ⟨e,he,hb,hx⟩
  .simp at h
  .refine⟨ops[i],e,ho,by simpa using he,hb,?_⟩
   rcases hx with hx | ⟨x,hx,hxb⟩
   .exact .inl hx
   .have B:e.on<i:=by
     rcases aW e.on i with g | g
     .exact g
     .simp[aX,Nat.not_lt.2 g] at hx
    refine .inr ⟨B,?_⟩;simp[B] at hx;unfold D2;rw[Q8,hx];exact hxb
structure R12 (ops:List Oper) (i:Nat) (o:Oper):Prop where
 one:∀ j oj d,ops[j]? = some oj->oj.dst=some d->i≠j->o.dst≠some d/\(d ∈ J17 ops o->D2 (U1 ops) i j=true\/D2 (U1 ops) j i=true)
 self:∀ d,o.dst=some d->d ∉ J17 ops o
 edge:∀ e ∈ o.after,fH .any e=true->e.on<i
theorem D28{ops:List Oper}:∀(suf:List Oper) (i0:Nat),E13 (U1 ops) ops suf i0=true->∀ k o,suf[k]? = some o->R12 ops (i0+k) o
 | [],i0,_,k,o,hk=>by simp at hk
 | o :: suf,i0,h,k,o',hk=>by
  simp only[E13,aG] at h;obtain⟨⟨⟨⟨h1,h2⟩,h3⟩,h4⟩,h5⟩:=h
  cases k with
  | succ k=>
   have:=D28 suf (i0+1) h5 k o' (by simpa using hk);rwa [show i0+1+k=i0+(k+1) by omega] at this
  | zero=>
   simp at hk;subst hk;refine⟨fun j oj d hj hd B => ?_,fun d hd => ?_,fun e he hb => ?_⟩
   .rw[iE] at h1
    have:=h1 (oj,j) (by
     rw[List.mem_iff_getElem?];exact⟨j,by simp[List.getElem?_zipIdx,hj]⟩)
    simp only[hd,cO,aG] at this;rcases this with this | ⟨g1,g2⟩
    .exact absurd (dI this) B
    .refine⟨fun e => ?_,fun hm => ?_⟩
     .rw[e] at g1;simp at g1
     .rcases g2 with (g2 | g2) | g2
      .simp[hm] at g2
      .exact .inl g2
      .exact .inr g2
   .rw[hd] at h3
    simpa using h3
   .rw[iE] at h4
    have:=h4 e (by simpa using he);simp[hb] at this;simpa using this
theorem V36(E:∀ i o,ops[i]? = some o->R12 ops i o):∀(i j:Nat),D2 (U1 ops) i j=true->j<i:=by
 intro i
 induction i using gB with
 | _ i ih=>
  intro j h;obtain⟨o,e,ho,he,hb,hx⟩:=G46 h;have B:=(E i o ho).edge e he hb;rcases hx with rfl | ⟨_,hx⟩
  .exact B
  .have:=ih e.on B j hx
   omega
def J61(ops:List Oper)(D:Nat->Bool):Prop:=∀ i o,ops[i]? = some o->D i=true->∀ e ∈ o.after,fH .any e=true->D e.on=true
theorem Y33(J:∀ i o,ops[i]? = some o->R12 ops i o){D:Nat->Bool}(hc:J61 ops D):∀(i j:Nat),(∀ o,ops[i]? = some o->∀ e ∈ o.after,fH .any e=true->D e.on=true)->D2 (U1 ops) i j=true->D j=true:=by
 intro i
 induction i using gB with
 | _ i ih=>
  intro j hd h;obtain⟨o,e,ho,he,hb,hx⟩:=G46 h;have B:=(J i o ho).edge e he hb;have hl:=hd o ho e he hb;rcases hx with rfl | ⟨_,hx⟩
  .exact hl
  .exact ih e.on B j (fun o' M e' L E=>hc e.on o' M hl e' L E) hx
theorem K35{ops:Array Oper}(h:i ∈ Region.ready .any ops listed):i<ops.size/\listed.getD i true=false/\∀ o,ops[i]? = some o->∀ e ∈ o.after,fH .any e=true->listed.getD e.on false=true:=by
 simp only[Region.ready,dA,cW,aG,cJ] at h;obtain⟨h1,h2,h3⟩:=h;refine⟨h1,h2,fun o ho e he hb => ?_⟩;rw[ho] at h3;simp only[Option.map_some,Option.getD_some,Array.all_eq_true_iff_forall_mem] at h3;have:=h3 e he;simpa [hb] using this
theorem N54{ops:Array Oper}(hs:listed.size=ops.size)(E:∀ i o,ops[i]? = some o->∀ e ∈ o.after,fH .any e=true->e.on<i)(h:Region.ready .any ops listed=[]):∀ i,i<ops.size->listed.getD i false=true:=by
 intro i
 induction i using gB with
 | _ i ih=>
  intro hi
  cases hl:listed.getD i false with
  | true=>rfl
  | false=>
   exfalso;have B:i ∈ Region.ready .any ops listed:=by
    simp only[Region.ready,dA,cW,aG,cJ];refine⟨hi,?_,?_⟩
    .have J:i<listed.size:=O0
     simp[J] at hl ⊢;exact hl
    .have ho:ops[i]? = some ops[i]:=by simp[hi]
     rw[ho];simp only[Option.map_some,Option.getD_some,Array.all_eq_true_iff_forall_mem];intro e he
     cases hb:fH .any e with
     | false=>rfl
     | true=>
      have L:=E i _ ho e he hb;have:=ih e.on L O0;rw[this];rfl
   rw[h] at B
   cases B
end
section
variable {F:FM} {nx:Nat} {w:World}
theorem HR.sub{H H':Y0}(hr:HR F H nx w)(hs:∀ i b,J0 H' i=some b->J0 H i=some b):HR F H' nx w:=
 ⟨fun i b hi hg=>hr.blk i b hi (hs i b hg),fun i j bi bj ti tj hi hj gi gj=>hr.inj i j bi bj ti tj hi hj (hs i bi gi) (hs j bj gj),hr.fresh,fun i hi=>by
  cases hg:J0 H' i with
  | none=>rfl
  | some b=>exact absurd (hs i b hg) (by rw[hr.top i hi];simp),hr.gl.step (fun _ _ _=>rfl) (fun b ⟨i,k,t,hi,hg,B,hF,e⟩ => .inl ⟨i,k,t,hi,hs i k hg,B,hF,e⟩)⟩
theorem N2.beside{X E:Y0}{F':FM}{W:Y0}{nx':Nat}{w':World}(hr:HR F X nx w)(M:∀ i b,i<nx->J0 E i=some b->J0 X i=some b)(B:N2 F E nx w F' W nx' w'){X':Y0}(hX:∀ i,J0 X' i=if i<nx/\J0 E i=none/\(J0 X i).isSome=true then J0 X i else J0 W i):
  N2 F X nx w F' X' nx' w':=by
 have V:∀ b,Own F E nx b->Own F X nx b:=by
  rintro b ⟨i,k,t,hi,hg,U,hF,e⟩;exact⟨i,k,t,hi,M i k hi hg,U,hF,e⟩
 have Q:∀ i b,i<nx->J0 E i=none->J0 X i=some b->∃ t,F i=some t/\F' i=some t/\t.blk<w.heap.size/\¬ Own F E nx t.blk/\BR F' t b w':=by
  intro i b hi hn hg;obtain⟨t,hF,hb⟩:=hr.blk i b hi hg;have L:¬ Own F E nx t.blk:=by
   rintro⟨j,k,u,hj,Z,U,a4,e⟩;rcases hr.inj j i k b u t hj hi (M j k hj Z) hg a4 hF e with this | this
   .subst this
    rw[hn] at Z;cases Z
   .rw[U] at this;cases this.1
  have O:F' i=some t:=by rw[B.ext i hi];exact hF
  refine⟨t,hF,O,hb.lt,L,hb.mono (fun q u hq => ?_) (B.frame _ hb.lt L)⟩;rcases aW q nx with g | g
  .rw[B.ext q g];exact hq
  .rw[hr.fresh q g] at hq;cases hq
 have Y:∀ b,Own F' X' nx' b->Own F X nx b\/w.heap.size<=b:=by
  rintro b ⟨i,k,t,hi,hg,U,hF,rfl⟩;rw[hX i] at hg
  split at hg
  .rename_i hc
   obtain⟨h1,h2,_⟩:=hc;obtain⟨t',a3,O,_⟩:=Q i k h1 h2 hg;rw[O] at hF;cases hF;exact .inl ⟨i,k,t,h1,hg,U,a3,rfl⟩
  .exact(B.own _ ⟨i,k,t,hi,hg,U,hF,rfl⟩).imp (V _) id
 refine⟨B.le,B.ext,B.os,B.tape,B.output,B.size,fun b hb L=>B.frame b hb (fun h=>L (V b h)),Y,?_,?_,?_⟩
 .intro i hi hn
  have a8:J0 E i=none:=by
   cases hg:J0 E i with
   | none=>rfl
   | some b=>rw[M i b hi hg] at hn;cases hn
  rw[hX i,if_neg (by simp[hn])];exact B.keep i hi a8
 .intro i b hg a5
  rw[hX i] at hg
  split at hg
  .rename_i hc;exact⟨hc.1,hg⟩
  .obtain⟨h1,h2⟩:=B.rom i b hg a5
   exact⟨h1,M i b h1 h2⟩
 .refine⟨?_,?_,B.hr.fresh,fun i hi=>by rw[hX i,if_neg (by have:=B.le;omega)];exact B.hr.top i hi,hr.gl.step (fun b hb L=>B.frame b hb (fun h=>L (V b h))) Y⟩
  .intro i b hi hg
   rw[hX i] at hg
   split at hg
   .rename_i hc
    obtain⟨t,_,O,_,_,hb⟩:=Q i b hc.1 hc.2.1 hg;exact⟨t,O,hb⟩
   .exact B.hr.blk i b hi hg
  ·
   have a2:∀ i j bi bj ti tj,i<nx->j<nx'->J0 E i=none->J0 X i=some bi->J0 W j=some bj->F' i=some ti->F' j=some tj->ti.blk=tj.blk->¬ (j<nx/\J0 E j=none/\(J0 X j).isSome=true)->bi.isRom=true/\bj.isRom=true:=by
    intro i j bi bj ti tj hi hj hn gi gj fi fj e J;obtain⟨t,hF,O,aa,L,_⟩:=Q i bi hi hn gi;rw[O] at fi;cases fi;have a1:bj.isRom=true:=by
     cases a9:bj.isRom with
     | true=>rfl
     | false=>
      exfalso;rcases B.own tj.blk ⟨j,bj,tj,hj,gj,a9,fj,rfl⟩ with h | h
      .rw[<- e] at h;exact L h
      .omega
    refine⟨?_,a1⟩
    cases a6:bi.isRom with
    | true=>rfl
    | false=>
     exfalso;obtain⟨h1,h2⟩:=B.rom j bj gj a1;have a0:F j=some tj:=by rw[<- B.ext j h1];exact fj
     rcases hr.inj i j bi bj _ tj hi h1 gi (M j bj h1 h2) hF a0 e with h | h
     .subst h;rw[hn] at h2;cases h2
     .rw[a6] at h;cases h.1
   intro i j bi bj ti tj hi hj gi gj fi fj e;rw[hX i] at gi;rw[hX j] at gj
   split at gi<;>split at gj
   .rename_i R J
    have a7:F i=some ti:=by rw[<- B.ext i R.1];exact fi
    have a0:F j=some tj:=by rw[<- B.ext j J.1];exact fj
    exact hr.inj i j bi bj ti tj R.1 J.1 gi gj a7 a0 e
   .rename_i R J
    exact .inr (a2 i j bi bj ti tj R.1 hj R.2.1 gi gj fi fj e J)
   .rename_i R J
    exact .inr (a2 j i bj bi tj ti J.1 hi J.2.1 gj gi fj fi e.symm R).symm
   .exact B.hr.inj i j bi bj ti tj hi hj gi gj fi fj e
theorem N2.addAt{F0:FM}{H0:Y0}{N:Nat}{w0:World}{X:Y0}(E:N2 F0 H0 N w0 F X nx w){q:Nat}(hq:q<nx)(hN:N<=q)(hF:F q=none){b:V3}{L:Obj}(hn:W55 F b L):
  ∃ t,t.blk=w.heap.size/\t.base=0/\N2 F0 H0 N w0 (upd F q t) (hs X q (some b)) nx (w.alloc L):=by
 have hr:=E.hr;have J:∀ i,J0 (hs X q (some b)) i=if i=q then some b else J0 X i:=fun i=>N7 X q i _
 have a0:b.isRom=false:=by cases b<;>first | rfl | exact hn.elim
 have Q:∀ t:J7,t.blk=w.heap.size->BR (upd F q t) t b (w.alloc L)->N2 F0 H0 N w0 (upd F q t) (hs X q (some b)) nx (w.alloc L):=by
  intro t ht hb;have Y:=M19 hF t;refine⟨E.le,fun i hi=>by rw[M5 F t O0];exact E.ext i hi,E.os,E.tape,E.output,bK E.size O2,?_,?_,?_,?_,?_⟩
  .intro k hk Z
   rw[Y14 w L k (aO hk E.size)];exact E.frame k hk Z
  .rintro k ⟨i,kb,u,hi,hg,V,B,rfl⟩
   rw[J i] at hg
   by_cases e:i=q
   .subst e;rw[Y6] at B;cases B;exact .inr (by rw[ht];exact E.size)
   .rw[if_neg e] at hg;rw[M5 F t e] at B
    exact E.own _ ⟨i,kb,u,hi,hg,V,B,rfl⟩
  .intro i hi R
   rw[J i,if_neg O0];exact E.keep i hi R
  .intro i bi hg U
   rw[J i] at hg
   by_cases e:i=q
   .subst e;rw[if_pos rfl] at hg;cases hg;rw[a0] at U;cases U
   .rw[if_neg e] at hg;exact E.rom i bi hg U
  .refine⟨?_,?_,?_,fun i hi=>by rw[J,if_neg O0];exact hr.top i hi,hr.gl.step (fun k hk _=>Y14 w L k hk) (by
    rintro k ⟨i,kb,u,hi,hg,V,B,rfl⟩;rw[J i] at hg
    by_cases e:i=q
    .subst e;rw[Y6] at B;cases B;exact .inr O0
    .rw[if_neg e] at hg;rw[M5 F t e] at B
     exact .inl ⟨i,kb,u,hi,hg,V,B,rfl⟩)⟩
   .intro i kb hi hg
    rw[J i] at hg
    by_cases e:i=q
    .subst e;rw[if_pos rfl] at hg;cases hg;exact⟨t,Y6 _ _ _,hb⟩
    .rw[if_neg e] at hg
     obtain⟨u,B,M⟩:=hr.blk i kb hi hg;exact⟨u,by rw[M5 F t e];exact B,M.mono Y (Y14 w L _ M.lt)⟩
   .intro i j bi bj ti tj hi hj gi gj fi fj e
    rw[J i] at gi;rw[J j] at gj
    by_cases ei:i=q<;>by_cases ej:j=q
    .exact .inl (by rw[ei,ej])
    .exfalso
     subst ei;rw[Y6] at fi;cases fi;rw[if_neg ej] at gj;rw[M5 F t ej] at fj;obtain⟨u,W,a1⟩:=hr.blk j bj hj gj;rw[fj] at W;cases W;have:=a1.lt;omega
    .exfalso
     subst ej;rw[Y6] at fj;cases fj;rw[if_neg ei] at gi;rw[M5 F t ei] at fi;obtain⟨u,B,M⟩:=hr.blk i bi hi gi;rw[fi] at B;cases B;have:=M.lt;omega
    .rw[if_neg ei] at gi;rw[if_neg ej] at gj;rw[M5 F t ei] at fi;rw[M5 F t ej] at fj
     exact hr.inj i j bi bj ti tj hi hj gi gj fi fj e
   .intro i hi
    rw[M5 F t O0];exact hr.fresh i hi
 cases b with
 | cells c sl=>
  obtain⟨c',e,rfl,a2,O⟩:=hn;refine⟨⟨w.heap.size,0,c.length,sl%1000,c'.size⟩,rfl,rfl,Q _ rfl ?_⟩;refine⟨c',e,E16 w _,⟨rfl,a2.cells O⟩,rfl,rfl,by have:=O.length;simp at this;simp[this],?_⟩;have hl:=O.length;simp only[bW];rw[gJ O0];exact O.mono (M19 hF _)
 | map es k=>
  obtain⟨rfl,rfl⟩:=hn;exact⟨⟨w.heap.size,0,0,0,0⟩,rfl,rfl,Q _ rfl ⟨rfl,#[],E16 w _,.nil⟩⟩
 | rom c=>exact hn.elim
def J5(N:Nat)(p:Nat->Bool)(q:Nat):List (Nat × V3)->Option V3
 | []=>none
 | (j,b) :: l=>if N+j=q/\p j=true then some b else J5 N p q l
def X8(N:Nat)(p:Nat->Bool)(H:Y0):List (Nat × V3)->Y0
 | []=>H
 | (j,b) :: l=>X8 N p (cond (p j) (hs H (N+j) (some b)) H) l
def X17(L:Nat):List (Nat × V3)->Prop
 | []=>True
 | (j,_) :: l=>j<L/\(∀ q ∈ l,q.1≠j)/\X17 L l
theorem Y38{N:Nat}{p:Nat->Bool}{j:Nat}:∀ {l:List (Nat × V3)},(∀ q ∈ l,q.1≠j)->J5 N p (N+j) l=none
 | [],_=>rfl
 | (j',b) :: l,h=>by
  have h1:j'≠j:=h (j',b) O2;simp only[J5];rw[if_neg (by rintro⟨e,_⟩;exact h1 O0)];exact Y38 fun q hq=>h q (by simp[hq])
theorem Y10{N L:Nat}{p:Nat->Bool}:∀ {l:List (Nat × V3)} {H:Y0},X17 L l->∀ q,J0 (X8 N p H l) q=(J5 N p q l).or (J0 H q)
 | [],H,_,q=>by simp[X8,J5]
 | (j,b) :: l,H,hk,q=>by
  obtain⟨h1,h2,h3⟩:=hk;simp only[X8,J5]
  cases hp:p j with
  | false=>
   rw[Y10 h3 q];simp
  | true=>
   rw[Y10 h3 q];simp only[cond_true];rw[N7]
   by_cases e:q=N+j
   .subst e
    rw[Y38 h2];simp
   .have e':¬ (N+j=q):=fun h=>e h.symm
    simp[e,e']
theorem W11{N:Nat}{p:Nat->Bool}{q:Nat}{b:V3}:∀ {l:List (Nat × V3)},J5 N p q l=some b->∃ j,(j,b) ∈ l/\N+j=q/\p j=true
 | [],h=>by simp[J5] at h
 | (j,b') :: l,h=>by
  simp only[J5] at h
  split at h
  .rename_i hc;cases h;exact⟨j,O2,hc.1,hc.2⟩
  .obtain⟨j',h1,h2⟩:=W11 h
   exact⟨j',by simp[h1],h2⟩
theorem N15{N L:Nat}{p:Nat->Bool}{j:Nat}{b:V3}:∀ {l:List (Nat × V3)},X17 L l->(j,b) ∈ l->p j=true->J5 N p (N+j) l=some b
 | (j',b') :: l,hk,hm,hp=>by
  obtain⟨_,h2,h3⟩:=hk;simp only[J5];rcases aU.1 hm with e | hm
  .cases e;simp[hp]
  .have:j≠j':=h2 (j,b) hm
   rw[if_neg (by rintro⟨e,_⟩;omega)];exact N15 h3 hm hp
theorem Q18{β:Type}{ms:List Nat}{N i:Nat}{es:List Nat}(f:Y0->β):∀(as:List (Nat × V3)) (H:Y0),U13 ms N es i H f as=f (X8 N (fun j=>D2 ms i j && !Y3 ms es j) H as)
 | [],H=>rfl
 | (j,b) :: as,H=>by
  simp only[U13,X8];rcases Bool.eq_false_or_eq_true (D2 ms i j && !Y3 ms es j) with h | h
  .rw[h];simp only[cond_true];rw[G4,Q18 f as]
  .rw[h];simp only[cond_false];rw[Q18 f as H]
theorem N23{β:Type}{ms:List Nat}{N:Nat}{es:List Nat}(f:Y0->β):∀(as:List (Nat × V3)) (H:Y0),Z13 ms N es H f as=f (X8 N (fun j => !Y3 ms es j) H as)
 | [],H=>rfl
 | (j,b) :: as,H=>by
  simp only[Z13,X8];rcases Bool.eq_false_or_eq_true (Y3 ms es j) with h | h
  .rw[h];simp only[cond_true,Bool.not_true,cond_false];rw[N23 f as H]
  .rw[h];simp only[cond_false,Bool.not_false,cond_true];rw[G4,N23 f as]
end
inductive Inf where
 | u
 | p
 | r (i:IR)
 | a (b:V3)
 | e (H:Y0) (nx:Nat)
structure D3 where
 T:K0 Value
 v:Value
 inf:Inf
def D1:List D3->List Nat
 | []=>[]
 | r :: l=>match r.inf with
  | .e _ _=>l.length :: D1 l
  | _=>D1 l
def B3:List D3->List (Nat × V3)
 | []=>[]
 | r :: l=>match r.inf with
  | .a b=>(l.length,b) :: B3 l
  | _=>B3 l
def hR(H0:Y0):List D3->Y0
 | []=>H0
 | r :: l=>match r.inf with
  | .e H _=>H
  | _=>hR H0 l
def nR(n0:Nat):List D3->Nat
 | []=>n0
 | r :: l=>match r.inf with
  | .e _ nx=>nx
  | _=>nR n0 l
def W6(H0:Y0):List D3->List Y0
 | []=>[]
 | r :: l=>match r.inf with
  | .e _ _=>hR H0 l :: W6 H0 l
  | _=>W6 H0 l
def G6:List D3->List Rd
 | []=>[]
 | r :: l=>match r.inf with
  | .r i=>⟨l.length,i,r.T,r.v⟩ :: G6 l
  | _=>G6 l
def C10(ops:List Oper)(T0:K0 Value):List D3->Nat->Value
 | [],t=>(tg T0 t).getD undef
 | r :: l,t=>if (ops[l.length]?).bind (·.dst)=some t then r.v else C10 ops T0 l t
structure M63 (P:Program) (d n:Nat) (ops:List Oper) (N:Nat) (H0:Y0) (n0:Nat) (T0:K0 Value) (r:D3) (l:List D3) (o:Oper) (s:S):Prop where
 ho:ops[l.length]? = some o
 hs:K16 P n ops o=some s
 hT:∀ t,t<n->(tg r.T t).getD undef=C10 ops T0 l t
 what:match r.inf with
  | .u=>r.v=undef/\∀ F a,GR s.guard F r.T a->fE o (yielded ops.toArray a.tmps)=false
  | .p=>(∀ F a,GR s.guard F r.T a->fE o (yielded ops.toArray a.tmps)=true)/\PV P d n o r.T r.v
  | .r i=>(∀ F a,GR s.guard F r.T a->fE o (yielded ops.toArray a.tmps)=true)/\s.i = .r i
  | .a b=>(∀ F a,GR s.guard F r.T a->fE o (yielded ops.toArray a.tmps)=true)/\∃ y,AV P d n o r.T b y/\r.v=y.val (N+l.length)
  | .e H' nx'=>(∀ F a,GR s.guard F r.T a->fE o (yielded ops.toArray a.tmps)=true) /\
    EV P d n o r.T (X8 N (fun j=>D2 (U1 ops) l.length j && !Y3 (U1 ops) (D1 l) j) (hR H0 l) (B3 l)) (nR n0 l) r.v H' nx'/\∀ e ∈ D1 l,D2 (U1 ops) l.length e=true
def B11(P:Program)(d n:Nat)(ops:List Oper)(N:Nat)(H0:Y0)(n0:Nat)(T0:K0 Value):List D3->Prop
 | []=>True
 | r :: l=>(∃ o s,M63 P d n ops N H0 n0 T0 r l o s)/\B11 P d n ops N H0 n0 T0 l
section
variable {β:Type} {P:Program} {d n:Nat} {ops:List Oper} {N:Nat} {H0:Y0} {n0:Nat} {T0:K0 Value}
theorem Q22{rc:List D3}{T:K0 Value}{o:Oper}(ho:ops[rc.length]? = some o)(hn:n<=2^d)(hw:WF d T)(hT:∀ t,t<n->(tg T t).getD undef=C10 ops T0 rc t)(B:∀ q,o.dst=some q->q<n)(v:Value)(inf:Inf)(k:K0 Value->β):
  ∃ T',E4 d o.dst v T k=k T'/\WF d T'/\∀ t,t<n->(tg T' t).getD undef=C10 ops T0 (⟨T,v,inf⟩ :: rc) t:=by
 cases hd:o.dst with
 | none=>
  refine⟨T,rfl,hw,fun t ht => ?_⟩;rw[hT t ht];simp[C10,ho,hd]
 | some q=>
  have hq:=B q hd;refine⟨ts d T q v,Z15 d T q v k,U16 d T q v hw,fun t ht => ?_⟩;rw[K21 d T q t v hw (aO hq hn) (aO ht hn)];simp only[C10,ho,hd,Option.bind_some]
  by_cases e:t=q
  .subst e;simp
  .have e':¬ (some q=some t):=by simp;exact fun h=>e h.symm
   rw[if_neg e,if_neg e'];exact hT t ht
theorem N55(call:Z3 β)(ms:List Nat)(z:β)(k:K0 Value->Y0->Nat->List Y0->List Nat->List (Nat × V3)->List Rd->β)(g:Option (Nat × Bool))(dst:Option Nat)(op:I)(l:List S)(i:Nat)(T:K0 Value)(H:Y0)(nx:Nat)(Ms:List Y0)(es:List Nat)(as:List (Nat × V3))(rs:List Rd):
  Z4 P d call ms N z k (⟨g,dst,op⟩ :: l) i T H nx Ms es as rs=V8 g T z
  (match op with
   | .p op=>X4 P op T z fun v=>E4 d dst v T fun T=>Z4 P d call ms N z k l (i+1) T H nx Ms es as rs
   | .r op=>U13 ms N es i H (fun h=>M9 P op T h z fun v=>E4 d dst v T fun T'=>Z4 P d call ms N z k l (i+1) T' H nx Ms es as (⟨i,op,T,v⟩ :: rs)) as
   | .a op=>evA op T z fun b y=>M2 (N+i) fun q=>M0 (y.val q) fun v=>E4 d dst v T fun T=>Z4 P d call ms N z k l (i+1) T H nx Ms es ((i,b) :: as) rs
   | .e op=>cond (es.all fun e=>D2 ms i e)
    (U13 ms N es i H (fun h=>D6 op call T h nx z fun v H' nx=>E4 d dst v T fun T=>Z4 P d call ms N z k l (i+1) T H' nx (H :: Ms) (i :: es) as rs) as) z)
  (E4 d dst undef T fun T=>Z4 P d call ms N z k l (i+1) T H nx Ms es as rs):=rfl
theorem U32{call:Z3 β}(L:E11 P call)(hn:n<=2^d)(z:β)(k:K0 Value->Y0->Nat->List Y0->List Nat->List (Nat × V3)->List Rd->β):
  ∀(suf:List Oper) (l:List S) (rc:List D3) (T:K0 Value),R3 P n ops suf=some l->(∀ j,j<suf.length->suf[j]? = ops[rc.length+j]?)->B11 P d n ops N H0 n0 T0 rc->WF d T->(∀ t,t<n->(tg T t).getD undef=C10 ops T0 rc t) ->
  Z4 P d call (U1 ops) N z k l rc.length T (hR H0 rc) (nR n0 rc) (W6 H0 rc) (D1 rc) (B3 rc) (G6 rc)=z \/
  ∃ B T',B.length=rc.length+suf.length/\B11 P d n ops N H0 n0 T0 B/\WF d T'/\(∀ t,t<n->(tg T' t).getD undef=C10 ops T0 B t) /\
   Z4 P d call (U1 ops) N z k l rc.length T (hR H0 rc) (nR n0 rc) (W6 H0 rc) (D1 rc) (B3 rc) (G6 rc)=k T' (hR H0 B) (nR n0 B) (W6 H0 B) (D1 B) (B3 B) (G6 B)
 | [],l,rc,T,h,_,hall,hw,hT=>by
  simp[R3] at h;subst h;exact .inr ⟨rc,T,rfl,hall,hw,hT,by simp[Z4]⟩
 | o :: suf,l,rc,T,h,hsuf,hall,hw,hT=>by
  simp only[R3] at h
  cases hs:K16 P n ops o with
  | none=>simp[hs] at h
  | some s=>cases hl:R3 P n ops suf with
   | none=>simp[hs,hl] at h
   | some l'=>
    simp[hs,hl] at h;subst h;have ho:ops[rc.length]? = some o:=by have:=hsuf 0 O2;simpa using this.symm
    have M:∀(inf:Inf) (v:Value) j,j<suf.length->suf[j]? = ops[((⟨T,v,inf⟩:D3) :: rc).length+j]? := fun inf v j hj=>by
     have:=hsuf (j+1) O5;simp at this ⊢;rw[this];congr 1;omega
    obtain⟨hg,hd,E,hi⟩:=M16 hs;obtain⟨g,dst,i⟩:=s;dsimp only at hg hd hi;subst hd;have next:∀(inf:Inf) (v:Value) (T':K0 Value),(∃ o s,M63 P d n ops N H0 n0 T0 ⟨T,v,inf⟩ rc o s)->WF d T'->(∀ t,t<n->(tg T' t).getD undef=C10 ops T0 (⟨T,v,inf⟩ :: rc) t) ->
      Z4 P d call (U1 ops) N z k l' (rc.length+1) T' (hR H0 (⟨T,v,inf⟩ :: rc)) (nR n0 (⟨T,v,inf⟩ :: rc)) (W6 H0 (⟨T,v,inf⟩ :: rc)) (D1 (⟨T,v,inf⟩ :: rc)) (B3 (⟨T,v,inf⟩ :: rc)) (G6 (⟨T,v,inf⟩ :: rc))=z \/
      ∃ B J,B.length=rc.length+(o :: suf).length/\B11 P d n ops N H0 n0 T0 B/\WF d J/\(∀ t,t<n->(tg J t).getD undef=C10 ops T0 B t) /\
       Z4 P d call (U1 ops) N z k l' (rc.length+1) T' (hR H0 (⟨T,v,inf⟩ :: rc)) (nR n0 (⟨T,v,inf⟩ :: rc)) (W6 H0 (⟨T,v,inf⟩ :: rc)) (D1 (⟨T,v,inf⟩ :: rc)) (B3 (⟨T,v,inf⟩ :: rc)) (G6 (⟨T,v,inf⟩ :: rc))=k J (hR H0 B) (nR n0 B) (W6 H0 B) (D1 B) (B3 B) (G6 B):=by
     intro inf v T' hf Q R;rcases U32 L hn z k suf l' (⟨T,v,inf⟩ :: rc) T' hl (M inf v) ⟨hf,hall⟩ Q R with h | ⟨B,J,h1,h2,h3,h4,h5⟩
     .exact .inl h
     .exact .inr ⟨B,J,by simp at h1 ⊢;omega,h2,h3,h4,h5⟩
    rw[N55];rcases B28 hg T z _ _ with e | ⟨e,hw1⟩ | ⟨e,hw1⟩
    .exact .inl e
    .rw[e]
     cases i with
     | p ip=>
      dsimp only;rcases K61 (P:=P) (d:=d) (T:=T) hi z _ with h | ⟨v,h,hp⟩
      .exact .inl h
      .rw[h]
       obtain⟨T',e1,e2,e3⟩:=Q22 (T0:=T0) ho hn hw hT E v .p (fun T=>Z4 P d call (U1 ops) N z k l' (rc.length+1) T (hR H0 rc) (nR n0 rc) (W6 H0 rc) (D1 rc) (B3 rc) (G6 rc));rw[e1];exact next .p v T' ⟨o,_,ho,hs,hT,hw1,hp⟩ e2 e3
     | r ir=>
      dsimp only;rw[Q18];rcases U34 (P:=P) (d:=d) (nx:=0) (T:=T) (H:=X8 N (fun j=>D2 (U1 ops) rc.length j && !Y3 (U1 ops) (D1 rc) j) (hR H0 rc) (B3 rc)) hi z _ with h | ⟨v,h,hp⟩
      .exact .inl h
      .rw[h]
       obtain⟨T',e1,e2,e3⟩:=Q22 (T0:=T0) ho hn hw hT E v (.r ir) (fun T'=>Z4 P d call (U1 ops) N z k l' (rc.length+1) T' (hR H0 rc) (nR n0 rc) (W6 H0 rc) (D1 rc) (B3 rc) (⟨rc.length,ir,T,v⟩ :: G6 rc));rw[e1];exact next (.r ir) v T' ⟨o,_,ho,hs,hT,hw1,rfl⟩ e2 e3
     | a ia=>
      dsimp only;rcases W57 (P:=P) (d:=d) (T:=T) hi z _ with h | ⟨b,y,h,hp⟩
      .exact .inl h
      .rw[h,G1,Y5]
       obtain⟨T',e1,e2,e3⟩:=Q22 (T0:=T0) ho hn hw hT E (y.val (N+rc.length)) (.a b) (fun T=>Z4 P d call (U1 ops) N z k l' (rc.length+1) T (hR H0 rc) (nR n0 rc) (W6 H0 rc) (D1 rc) ((rc.length,b) :: B3 rc) (G6 rc));rw[e1];exact next (.a b) _ T' ⟨o,_,ho,hs,hT,hw1,y,hp,rfl⟩ e2 e3
     | e ie=>
      dsimp only
      cases O:(D1 rc).all fun e=>D2 (U1 ops) rc.length e with
      | false=>exact .inl rfl
      | true=>
       dsimp only[cond_true];rw[Q18];rcases C60 (P:=P) (d:=d) (T:=T) (nx:=nR n0 rc) (H:=X8 N (fun j=>D2 (U1 ops) rc.length j && !Y3 (U1 ops) (D1 rc) j) (hR H0 rc) (B3 rc)) hi L z _ with h | ⟨v,H',nx',h,hp⟩
       .exact .inl h
       .rw[h]
        obtain⟨T',e1,e2,e3⟩:=Q22 (T0:=T0) ho hn hw hT E v (.e H' nx') (fun T=>Z4 P d call (U1 ops) N z k l' (rc.length+1) T H' nx' (hR H0 rc :: W6 H0 rc) (rc.length :: D1 rc) (B3 rc) (G6 rc));rw[e1];exact next (.e H' nx') v T' ⟨o,_,ho,hs,hT,hw1,hp,fun e he=>by rw[iE] at O;exact O e he⟩ e2 e3
    .rw[e]
     obtain⟨T',e1,e2,e3⟩:=Q22 (T0:=T0) ho hn hw hT E undef .u (fun T=>Z4 P d call (U1 ops) N z k l' (rc.length+1) T (hR H0 rc) (nR n0 rc) (W6 H0 rc) (D1 rc) (B3 rc) (G6 rc));rw[e1];exact next .u undef T' ⟨o,_,ho,hs,hT,rfl,hw1⟩ e2 e3
end
section
variable {a b:Value} {β:Type}
theorem U71{a b:Value}:∀(n:Nat),(∀ a b,veq n a b=true->a=b)/\(∀ a b,D25 n a b=true->a=b):=by
 intro n
 induction n with
 | zero=>exact⟨fun a b h=>by simp[veq] at h,fun a b h=>by simp[D25] at h⟩
 | succ n ih=>
  obtain⟨E,B⟩:=ih;refine⟨fun a b h => ?_,fun a b h => ?_⟩
  .unfold veq at h
   split at h
   .simp at h;rw[h]
   .rw[aG,Q26] at h;rw[J33 h.1];simp at h;rw[h.2]
   .rw[aG] at h;have:=dI h.2;simp at h;rw[h.1,this]
   .simp at h;rw[h]
   .simp at h;rw[h]
   .rw[aG,aG] at h
    have e1:=dI h.1.2;have e2:=dI h.2;simp at h;rw[h.1.1,e1,e2]
   .simp at h;rw[h]
   .rfl
   .rfl
   .rw[aG,aG] at h
    have e1:=fB.1 (B _ _ h.1.2);have e2:=fB.1 (B _ _ h.2);simp at h;rw[h.1.1,e1,e2]
   .rw[aG] at h
    rw[dI h.1,E _ _ h.2]
   .rw[fB.1 (B _ _ h)]
   .rw[fB.1 (B _ _ h)]
   .cases h
  .unfold D25 at h
   split at h
   .rfl
   .rw[aG] at h
    rw[E _ _ h.1,B _ _ h.2]
   .cases h
theorem B69{n:Nat}(h:veq n a b=true):a=b:=(U71 (a:=a) (b:=b) n).1 a b h
theorem K19:∀ {l:List D3} {e:Nat},e ∈ D1 l->e<l.length
 | [],e,h=>by simp[D1] at h
 | r :: l,e,h=>by
  simp only[D1] at h
  split at h
  .rcases aU.1 h with rfl | h
   .simp
   .have:=K19 h;simp;omega
  .have:=K19 h;simp;omega
theorem Q13:∀(l:List D3),X17 l.length (B3 l)
 | []=>trivial
 | r :: l=>by
  have ih:=Q13 l;have up:∀ {m:List (Nat × V3)} {a b:Nat},a<=b->X17 a m->X17 b m:=by
   intro m
   induction m with
   | nil=>intros;trivial
   | cons x m B=>intro a b E h;obtain⟨h1,h2,h3⟩:=h;exact⟨O0,h2,B E h3⟩
  have low:∀ {m:List (Nat × V3)} {a:Nat},X17 a m->∀ q ∈ m,q.1<a:=by
   intro m
   induction m with
   | nil=>intro a _ q hq;cases hq
   | cons x m B=>
    intro a h q hq;obtain⟨h1,h2,h3⟩:=h;rcases aU.1 hq with rfl | hq
    .exact h1
    .exact B h3 q hq
  simp only[B3]
  split
  .refine⟨O2,fun q hq => ?_,up O2 ih⟩
   have:=low ih q hq;omega
  .exact up O2 ih
theorem Z37{P:Program}{ms:List Nat}{N:Nat}{as:List (Nat × V3)}{r:Rd}{H0:Y0}:∀(rc:List D3) (B:List Nat),E22 P ms N as r (D1 rc) (W6 H0 rc) (hR H0 rc) B=true->∀(pre l':List D3),rc=pre++l' ->
  (∀ e,e ∈ D1 rc->e ∉ D1 l'->D2 ms r.i e=false)->(∀ e ∈ B,D2 ms r.i e=false)->(∀ e ∈ D1 l',D2 ms e r.i=false) ->
  M9 P r.r r.T (X8 N (fun j=>D2 ms r.i j && !Y3 ms (D1 l') j) (hR H0 l') as) false (fun v=>veq 64 v r.v)=true
 | rc,B,h,[],l',e,_,h2,h3=>by
  simp at e;subst e;rw[E22.eq_def] at h;rw[aG] at h;have c1:((D1 rc).any (fun e=>D2 ms e r.i) || B.any (fun e=>D2 ms r.i e))=false:=by
   rw[Bool.or_eq_false_iff];refine⟨?_,?_⟩
   .rw[List.any_eq_false];intro x hx;simp[h3 x hx]
   .rw[List.any_eq_false];intro x hx;simp[h2 x hx]
  have:=h.1;rw[c1] at this;simp only[cond_false] at this;rw[Q18] at this;exact this
 | [],B,h,p :: pre,l',e,_,_,_=>by simp at e
 | r0 :: l,B,h,p :: pre,l',e,h1,h2,h3=>by
  simp at e;obtain⟨rfl,rfl⟩:=e
  cases E:r0.inf with
  | e H' nx'=>
   simp only[D1,W6,hR,E] at h;rw[E22.eq_def] at h;rw[aG] at h;have hb:=h.2;dsimp only at hb;have J:D2 ms r.i (pre++l').length=false:=h1 _ (by simp[D1,E]) (fun hm=>by have:=K19 hm;simp at this;omega);rw[J] at hb;simp only[cond_false] at hb;refine Z37 (pre++l') _ hb pre l' rfl (fun e he hn=>h1 e (by simp[D1,E,he]) hn) ?_ h3;intro e he;rcases aU.1 he with rfl | he
   .exact J
   .exact h2 e he
  | _=>
   simp only[D1,W6,hR,E] at h;exact Z37 (pre++l') B h pre l' rfl (fun e he hn=>h1 e (by simp[D1,E,he]) hn) h2 h3
def R41(P:Program)(d n:Nat)(ops:List Oper)(N:Nat)(H0:Y0)(rc:List D3):Prop:=
 ∀ r ∈ G6 rc,∀(pre l':List D3),rc=pre++l'->(∀ e,e ∈ D1 rc->e ∉ D1 l'->D2 (U1 ops) r.i e=false)->(∀ e ∈ D1 l',D2 (U1 ops) e r.i=false) ->
  ∀(nx:Nat) (o:Oper),W18 P n o=some (.r r.r)->RV P d n nx o r.T (X8 N (fun j=>D2 (U1 ops) r.i j && !Y3 (U1 ops) (D1 l') j) (hR H0 l') (B3 rc)) r.v
def W34(P:Program)(B:E12 β):Prop:=∀(d n:Nat) (ops:List Oper) (N:Nat) (H0:Y0) (rc:List D3) (y z:β),
 B (U1 ops) N (B3 rc) (G6 rc) (D1 rc) (W6 H0 rc) (hR H0 rc) y z=z \/
 (B (U1 ops) N (B3 rc) (G6 rc) (D1 rc) (W6 H0 rc) (hR H0 rc) y z=y/\R41 P d n ops N H0 rc)
theorem Z67(P:Program):W34 (β:=β) P (D43 P):=by
 intro d n ops N H0 rc y z;unfold D43
 cases J:(G6 rc).all fun r=>E22 P (U1 ops) N (B3 rc) r (D1 rc) (W6 H0 rc) (hR H0 rc) [] with
 | false=>exact .inl rfl
 | true=>
  refine .inr ⟨rfl,fun r hr pre l' E h1 h2 nx o hc => ?_⟩;have B:=Z37 rc [] (iE.1 J r hr) pre l' E h1 O2 h2;rcases U34 (P:=P) (d:=d) (n:=n) (nx:=nx) (o:=o) (T:=r.T) (H:=X8 N (fun j=>D2 (U1 ops) r.i j && !Y3 (U1 ops) (D1 l') j) (hR H0 l') (B3 rc)) hc false (fun v=>veq 64 v r.v) with h | ⟨v,h,hrv⟩
  .rw[h] at B;cases B
  .rw[h] at B
   have L:=B69 B;rw[<- L];exact hrv
def W9(ops:List Oper)(T0:K0 Value)(D:Nat->Bool):List D3->Nat->Value
 | [],t=>(tg T0 t).getD undef
 | r :: l,t=>if D l.length=true/\(ops[l.length]?).bind (·.dst)=some t then r.v else W9 ops T0 D l t
theorem Y37{ops:List Oper}{T0:K0 Value}{D:Nat->Bool}{t:Nat}:∀ {l:List D3},(∀ j,j<l.length->(ops[j]?).bind (·.dst)=some t->D j=true)->W9 ops T0 D l t=C10 ops T0 l t
 | [],_=>rfl
 | r :: l,h=>by
  simp only[W9,C10]
  by_cases hd:(ops[l.length]?).bind (·.dst)=some t
  .have:=h l.length O2 hd
   simp[hd,this]
  .rw[if_neg (fun hc=>hd hc.2),if_neg hd]
   exact Y37 fun j hj=>h j O5
theorem Y39{ops:List Oper}{T0:K0 Value}{D:Nat->Bool}{t:Nat}{l:List D3}:∀ {pre:List D3},(∀ j,l.length<=j->j<(pre++l).length->(ops[j]?).bind (·.dst)=some t->D j=false)->W9 ops T0 D (pre++l) t=W9 ops T0 D l t
 | [],_=>rfl
 | r :: pre,h=>by
  simp only[dL,W9];rw[if_neg]
  .exact Y39 fun j h1 h2 h3=>h j h1 (by simp at h2 ⊢;omega) h3
  .rintro⟨h1,h2⟩
   have:=h (pre++l).length O2 O2 h2;rw[h1] at this;cases this
theorem Z45{ops:List Oper}{T0:K0 Value}{D D':Nat->Bool}{i:Nat}(hD:∀ j,D' j=if j=i then true else D j){r:D3}{l:List D3}(hl:l.length=i){t:Nat}(B:∀ j,j≠i->(ops[i]?).bind (·.dst)=some t->(ops[j]?).bind (·.dst)≠some t)(J:D i=false):
  ∀ {pre:List D3},W9 ops T0 D' (pre++r :: l) t=if (ops[i]?).bind (·.dst)=some t then r.v else W9 ops T0 D (pre++r :: l) t
 | []=>by
  simp only[eR,W9,hl,J];have h1:D' i=true:=by simp[hD]
  have h2:W9 ops T0 D' l t=W9 ops T0 D l t:=by
   have:∀ m:List D3,m.length<=i->W9 ops T0 D' m t=W9 ops T0 D m t:=by
    intro m
    induction m with
    | nil=>intro _;rfl
    | cons x m ih=>
     intro hm;simp at hm;simp only[W9];have:D' m.length=D m.length:=by rw[hD,if_neg O0]
     rw[this,ih O0]
   exact this l O0
  simp[h1,h2]
 | p :: pre=>by
  have ih:=Z45 hD hl B J (pre:=pre) (T0:=T0) (r:=r);simp only[dL,W9];have E:(pre++r :: l).length≠i:=by simp;omega
  have:D' (pre++r :: l).length=D (pre++r :: l).length:=by rw[hD,if_neg E]
  rw[this,ih]
  by_cases hi:(ops[i]?).bind (·.dst)=some t
  .have:=B _ E hi
   rw[if_pos hi,if_neg (fun hc=>this hc.2),if_pos hi]
  .rw[if_neg hi,if_neg hi]
theorem B11.suf{P:Program}{d n:Nat}{ops:List Oper}{N:Nat}{H0:Y0}{n0:Nat}{T0:K0 Value}:∀ {pre l:List D3},B11 P d n ops N H0 n0 T0 (pre++l)->B11 P d n ops N H0 n0 T0 l
 | [],_,h=>h
 | _ :: _,_,h=>B11.suf h.2
theorem V46:∀ {rc:List D3} {i:Nat},i<rc.length->∃ pre r l,rc=pre++r :: l/\l.length=i
 | [],i,h=>by simp at h
 | r :: l,i,h=>by
  by_cases e:l.length=i
  .exact⟨[],r,l,rfl,e⟩
  .obtain⟨pre,r',l',h1,h2⟩:=V46 (rc:=l) (i:=i) (by simp at h;omega)
   exact⟨r :: pre,r',l',by rw[h1];rfl,h2⟩
end
section
variable {b:V3} {i t:Nat} {l pre pre0:List D3} {o:Oper} {r:D3}
theorem G17{B l':List D3}{r':D3}(h:pre++r :: l=B++r' :: l')(hl:l.length=l'.length):r=r'/\l=l':=by
 have h2:(r :: l)=(r' :: l'):=by
  have:=congrArg (fun x=>x.drop (pre.length)) h;have hp:pre.length=B.length:=by have:=congrArg List.length h;simp at this;omega
  simp at this;rw[hp] at this;simpa using this
 cases h2;exact⟨rfl,rfl⟩
theorem E18:∀ {rc:List D3} {j:Nat} {b:V3},(j,b) ∈ B3 rc->∃ pre r l,rc=pre++r :: l/\l.length=j/\r.inf = .a b
 | [],j,b,h=>by simp[B3] at h
 | r :: l,j,b,h=>by
  have B:(j,b) ∈ B3 l->∃ pre r' l',r :: l=pre++r' :: l'/\l'.length=j/\r'.inf = .a b:=by
   intro h;obtain⟨pre,r',l',h1,h2,h3⟩:=E18 h;exact⟨r :: pre,r',l',by rw[h1];rfl,h2,h3⟩
  simp only[B3] at h
  split at h
  .rename_i b' hb
   rcases aU.1 h with e | h
   .cases e;exact⟨[],r,l,rfl,rfl,hb⟩
   .exact B h
  .exact B h
theorem U64{pre:List D3}{r:D3}(h:r.inf = .a b):(l.length,b) ∈ B3 (pre++r :: l):=by
 induction pre with
 | nil=>simp[B3,h]
 | cons x pre ih=>
  simp only[dL,B3]
  split
  .exact eJ _ ih
  .exact ih
theorem V66{j:Nat}(h:(j,b) ∈ B3 (pre++l))(hj:j<l.length):(j,b) ∈ B3 l:=by
 induction pre with
 | nil=>exact h
 | cons x pre ih=>
  simp only[dL,B3] at h
  split at h
  .rcases aU.1 h with e | h
   .cases e;simp at hj;omega
   .exact ih h
  .exact ih h
theorem X69{q:Nat × V3}(h:q ∈ B3 l):q ∈ B3 (pre++l):=by
 induction pre with
 | nil=>exact h
 | cons x pre ih=>
  simp only[dL,B3]
  split
  .exact eJ _ ih
  .exact ih
theorem Y28:∀ {rc:List D3} {e:Nat},e ∈ D1 rc->∃ pre r l H nx,rc=pre++r :: l/\l.length=e/\r.inf = .e H nx
 | [],e,h=>by simp[D1] at h
 | r :: l,e,h=>by
  have B:e ∈ D1 l->∃ pre r' l' H nx,r :: l=pre++r' :: l'/\l'.length=e/\r'.inf = .e H nx:=by
   intro h;obtain⟨pre,r',l',H,nx,h1,h2,h3⟩:=Y28 h;exact⟨r :: pre,r',l',H,nx,by rw[h1];rfl,h2,h3⟩
  simp only[D1] at h
  split at h
  .rename_i H nx hb
   rcases aU.1 h with rfl | h
   .exact⟨[],r,l,H,nx,rfl,rfl,hb⟩
   .exact B h
  .exact B h
theorem N47{q:Nat}(h:q ∈ D1 l):q ∈ D1 (pre++l):=by
 induction pre with
 | nil=>exact h
 | cons x pre ih=>
  simp only[dL,D1]
  split
  .exact eJ _ ih
  .exact ih
theorem X66{e:Nat}(h:e ∈ D1 (pre++l))(hj:e<l.length):e ∈ D1 l:=by
 induction pre with
 | nil=>exact h
 | cons x pre ih=>
  simp only[dL,D1] at h
  split at h
  .rcases aU.1 h with e | h
   .subst e;simp at hj;omega
   .exact ih h
  .exact ih h
theorem N17{H0:Y0}{n0:Nat}:∀ {B l:List D3},(∀ e ∈ D1 (B++l),e<l.length)->D1 (B++l)=D1 l/\hR H0 (B++l)=hR H0 l/\nR n0 (B++l)=nR n0 l
 | [],l,_=>⟨rfl,rfl,rfl⟩
 | r :: B,l,h=>by
  cases E:r.inf with
  | e H' nx'=>
   have:=h (B++l).length (by simp[D1,E]);simp at this;omega
  | _=>
   have h':∀ e ∈ D1 (B++l),e<l.length:=fun e he=>h e (by simp[D1,E,he])
   obtain⟨h1,h2,h3⟩:=N17 (H0:=H0) (n0:=n0) h';simp[D1,hR,nR,E,h1,h2,h3]
theorem X18{N:Nat}{p p':Nat->Bool}{q:Nat}:∀ {l:List (Nat × V3)},(∀ x ∈ l,N+x.1=q->p x.1=p' x.1)->J5 N p q l=J5 N p' q l
 | [],_=>rfl
 | (j,b) :: l,h=>by
  simp only[J5];have ih:=X18 (p:=p) (p':=p') (q:=q) (l:=l) fun x hx=>h x (by simp[hx])
  rw[ih]
  by_cases e:N+j=q
  .have:=h (j,b) O2 e
   simp only at this;rw[this]
  .rw[if_neg (fun hc=>e hc.1),if_neg (fun hc=>e hc.1)]
structure Inv (n:Nat) (ops:List Oper) (N:Nat) (H0:Y0) (T0:K0 Value) (rc:List D3) (F0:FM) (w0:World) (ds:List Deferred) (D:Nat->Bool) (a:Act) (w:World) (F:FM) (X:Y0) (l':List D3):Prop where
 suf:∃ pre,rc=pre++l'
 done:∀ e ∈ D1 l',D e=true
 todo:∀ e ∈ D1 rc,e ∉ D1 l'->D e=false
 size:a.tmps.size=n
 slots:∀ t,t<n->VR F (W9 ops T0 D rc t) (a.tmps.getD t undef)
 heap:∀ q,J0 X q=(J5 N (fun j=>D j && !Y3 (U1 ops) (D1 l') j) q (B3 rc)).or (J0 (hR H0 l') q)
 free:∀ j,j<ops.length->Y3 (U1 ops) (D1 l') j=false->J0 (hR H0 l') (N+j)=none
 stp:N2 F0 H0 N w0 F X (nR (N+ops.length) l') w
 res:∀ j,j<ops.length->D j=false->F (N+j)=none
 nx:N+ops.length<=nR (N+ops.length) l'
 defers:a.defers=ds
section
variable {P:Program} {d n:Nat} {ops:List Oper} {N:Nat} {H0:Y0} {T0:K0 Value} {rc:List D3} {F0:FM} {w0:World} {ds:List Deferred} {D:Nat->Bool} {a:Act} {w:World} {F:FM} {X:Y0} {l':List D3}
theorem Inv.sees(hI:Inv n ops N H0 T0 rc F0 w0 ds D a w F X l')(E:rc.length=ops.length)(hp:∀ j,D2 (U1 ops) i j=true->D j=true){as:List (Nat × V3)}{L:Nat}(hL:L<=ops.length)(hk:X17 L as)(has:∀ q ∈ as,q ∈ B3 rc):
  ∀ q b,J0 (X8 N (fun j=>D2 (U1 ops) i j && !Y3 (U1 ops) (D1 l') j) (hR H0 l') as) q=some b->J0 X q=some b:=by
 intro q b hg;rw[Y10 (L:=L) hk q] at hg;rw[hI.heap q];have M:X17 ops.length (B3 rc):=by rw[<- E];exact Q13 rc
 cases J:J5 N (fun j=>D2 (U1 ops) i j && !Y3 (U1 ops) (D1 l') j) q as with
 | some b'=>
  rw[J] at hg;simp at hg;subst hg;obtain⟨j,hm,rfl,B⟩:=W11 J;rw[aG] at B;rw[N15 M (has _ hm) (by rw[hp j B.1,B.2];rfl)]
  rfl
 | none=>
  rw[J] at hg;simp at hg
  cases O:J5 N (fun j=>D j && !Y3 (U1 ops) (D1 l') j) q (B3 rc) with
  | none=>simpa using hg
  | some b'=>
   exfalso;obtain⟨j,hm,rfl,B⟩:=W11 O;rw[aG] at B;have hj:j<ops.length:=by
    obtain⟨pre,r,l,h1,h2,_⟩:=E18 hm;rw[<- E,h1];simp;omega
   rw[hI.free j hj (by simpa using B.2)] at hg
   cases hg
theorem W60{ops:List Oper}(h:Operand.tmp t ∈ o.op.operands):t ∈ J17 ops o:=by
 unfold J17;apply dX;rw[List.mem_filterMap];exact⟨.tmp t,by simpa using h,rfl⟩
theorem Inv.look{o:Oper}{i:Nat}(B:∀ i o,ops[i]? = some o->R12 ops i o)(U:rc=pre0++r :: l)(hl:l.length=i)(V:rc.length=ops.length)(ho:ops[i]? = some o)(J:D i=false)(hp:∀ j,D2 (U1 ops) i j=true->D j=true)(Q:∀ i j,D i=true->D2 (U1 ops) i j=true->D j=true)(ht:t ∈ J17 ops o):W9 ops T0 D rc t=C10 ops T0 l t:=by
 have L:=B i o ho;have key:∀ j,j≠i->(ops[j]?).bind (·.dst)=some t->D2 (U1 ops) i j=true\/D2 (U1 ops) j i=true:=by
  intro j hj hd
  cases E:ops[j]? with
  | none=>rw[E] at hd;cases hd
  | some oj=>
   rw[E] at hd;exact(L.one j oj t E (by simpa using hd) (eT hj)).2 ht
 have R:(ops[i]?).bind (·.dst)≠some t:=by
  rw[ho];intro h;exact L.self t (by simpa using h) ht
 rw[U,Y39 (l:=r :: l)]
 .simp only[W9]
  rw[if_neg (by rw[hl,J];rintro⟨h,_⟩;cases h)];apply Y37;intro j hj hd;rcases key j O0 hd with h | h
  .exact hp j h
  .have:=V36 B _ _ h;omega
 .intro j h1 h2 hd
  have M:j≠i:=by simp at h1;omega
  rcases key j M hd with h | h
  .have:=V36 B _ _ h
   simp at h1;omega
  .cases O:D j with
   | false=>rfl
   | true=>have:=Q j i O h;rw[J] at this;cases this
theorem Inv.or{o:Oper}{s:S}{i n0:Nat}(hI:Inv n ops N H0 T0 rc F0 w0 ds D a w F X l')(R:∀ i o,ops[i]? = some o->R12 ops i o)(V:rc=pre0++r :: l)(hl:l.length=i)(M:rc.length=ops.length)(hf:M63 P d n ops N H0 n0 T0 r l o s)(Q:D i=false)(hp:∀ j,D2 (U1 ops) i j=true->D j=true)(U:∀ i j,D i=true->D2 (U1 ops) i j=true->D j=true):OR n o F r.T a/\GR s.guard F r.T a:=by
 have ho:ops[i]? = some o:=by rw[<- hl];exact hf.ho
 have J:∀ t,t<n->t ∈ J17 ops o->VR F ((tg r.T t).getD undef) (a.tmps.getD t undef):=by
  intro t E ht;rw[hf.hT t E,<- Inv.look (T0:=T0) R V hl M ho Q hp U ht];exact hI.slots t E
 refine⟨?_,?_⟩
 .intro x hx y hc
  cases x with
  | tmp t=>
   simp only[W13] at hc
   cases hb:dE t n with
   | false=>rw[hb] at hc;cases hc
   | true=>
    rw[hb] at hc;cases hc;rw[E53];exact J t (by simpa using hb) (W60 hx)
  | const v=>
   simp only[W13] at hc
   cases hb:X7 v with
   | false=>rw[hb] at hc;cases hc
   | true=>rw[hb] at hc;cases hc;exact C6 F v hb
  | global g=>simp[W13] at hc
  | func f=>
   simp[W13] at hc;subst hc;exact .func _ rfl O2 rfl O2
 .intro t Y hg
  obtain⟨B,_,_,_⟩:=M16 hf.hs;rw[hg] at B
  cases L:o.guard with
  | none=>rw[L] at B;simp[W16] at B
  | some jw=>
   obtain⟨j,Z⟩:=jw;rw[L] at B;simp only[W16] at B
   split at B
   .rename_i oj W
    split at B
    .rename_i t' O
     cases hb:dE t' n with
     | false=>rw[hb] at B;cases B
     | true=>
      rw[hb] at B;cases B;have E:t<n:=by simpa using hb
      refine⟨by rw[hI.size];exact E,J t E ?_⟩;unfold J17;apply List.mem_append_right;rw[L];simp[W,O]
    .cases B
   .cases B
theorem Inv.put{l:List D3}{r:D3}{pre0:List D3}{o:Oper}{i:Nat}{D':Nat->Bool}(hI:Inv n ops N H0 T0 rc F0 w0 ds D a w F X l')(L:∀ i o,ops[i]? = some o->R12 ops i o)(E:rc=pre0++r :: l)(hl:l.length=i)(ho:ops[i]? = some o)(J:D i=false)(hD:∀ j,D' j=if j=i then true else D j){F':FM}(hF:F.le F'){v':Value}(hv:VR F' r.v v'):(a.put o.dst v').tmps.size=n/\∀ t,t<n->VR F' (W9 ops T0 D' rc t) ((a.put o.dst v').tmps.getD t undef):=by
 have M:=L i o ho;refine⟨by cases hd:o.dst<;>simp[Act.put,hI.size],fun t ht => ?_⟩;rw[E,Z45 hD hl (by
  intro j hj h1 h2;rw[ho] at h1
  cases B:ops[j]? with
  | none=>rw[B] at h2;cases h2
  | some oj=>
   rw[B] at h2;exact(M.one j oj t B (by simpa using h2) (eT hj)).1 (by simpa using h1)) J,<- E]
 rw[ho];simp only[Option.bind_some]
 by_cases hd:o.dst=some t
 .rw[if_pos hd,hd]
  have:(a.put (some t) v').tmps.getD t undef=v':=by simp[Act.put,hI.size,ht]
  rw[this];exact hv
 .rw[if_neg hd]
  have:(a.put o.dst v').tmps.getD t undef=a.tmps.getD t undef:=by
   cases hq:o.dst with
   | none=>rfl
   | some q=>
    have:q≠t:=fun e=>hd (by rw[hq,e])
    simp[Act.put,Array.getElem?_setIfInBounds_ne this]
  rw[this];exact(hI.slots t ht).mono hF
end
end
end Go.Clo
