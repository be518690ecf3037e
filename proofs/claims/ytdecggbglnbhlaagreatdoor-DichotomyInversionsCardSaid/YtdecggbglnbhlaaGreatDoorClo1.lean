/-
  A closed executor: an interpreter over the model's code with a heap of its own names. This text: its definitions.
  It is written in continuation style, so that the kernel evaluates it with every value in normal form.
-/
import Derived.Calls
import Derived.Orders
import Derived.LoopN
import Derived.Scope
import Derived.KernelRfl
set_option linter.unusedSimpArgs false
set_option linter.unusedVariables false
set_option linter.unusedSectionVars false
namespace Go.Clo

inductive Tree (α : Type) where
  | leaf
  | tip (a : α)
  | node (l r : Tree α)

/-- A block: cells ('sl': 0, or the size of an element where the real block may be longer), a map, or cells that are only read (their memory may be shared). -/
inductive Blk where
  | cells (c : List Value) (sl : Nat)
  | map (es : List MapEntry) (clock : Nat)
  | rom (c : List Value)
def Blk.isRom : Blk → Bool
  | .rom _ => true
  | _ => false

inductive Heap where
  | leaf
  | node (v : Option Blk) (l r : Heap)

-- HOT
noncomputable def tgK {α β : Type} (T : Tree α) : Nat → β → (α → β) → β :=
  @Tree.rec α (fun _ => Nat → β → (α → β) → β) (fun _ z _ => z) (fun v _ _ k => k v)
    (fun _ _ l r t z k => @Nat.rec (fun _ => β) (l (Nat.div t 2) z k) (fun _ _ => r (Nat.div t 2) z k) (Nat.mod t 2)) T
noncomputable def tsK {α β : Type} (d : Nat) : Tree α → Nat → α → (Tree α → β) → β :=
  @Nat.rec (fun _ => Tree α → Nat → α → (Tree α → β) → β) (fun _ _ a k => k (.tip a))
    (fun _ ih t i a k => @Tree.rec α (fun _ => β)
      (@Nat.rec (fun _ => β) (ih .leaf (Nat.div i 2) a fun l => k (.node l .leaf)) (fun _ _ => ih .leaf (Nat.div i 2) a fun r => k (.node .leaf r)) (Nat.mod i 2))
      (fun _ => @Nat.rec (fun _ => β) (ih .leaf (Nat.div i 2) a fun l => k (.node l .leaf)) (fun _ _ => ih .leaf (Nat.div i 2) a fun r => k (.node .leaf r)) (Nat.mod i 2))
      (fun l r _ _ => @Nat.rec (fun _ => β) (ih l (Nat.div i 2) a fun l => k (.node l r)) (fun _ _ => ih r (Nat.div i 2) a fun r => k (.node l r)) (Nat.mod i 2)) t) d
noncomputable def hgK {β : Type} (H : Heap) : Nat → β → (Blk → β) → β :=
  @Heap.rec (fun _ => Nat → β → (Blk → β) → β) (fun _ z _ => z)
    (fun v _ _ l r i z k => @Nat.rec (fun _ => β) (@Option.rec Blk (fun _ => β) z k v)
      (fun j _ => @Nat.rec (fun _ => β) (l (Nat.div j 2) z k) (fun _ _ => r (Nat.div j 2) z k) (Nat.mod j 2)) i) H
noncomputable def hsF {β : Type} (fuel : Nat) : Heap → Nat → Option Blk → (Heap → β) → β :=
  @Nat.rec (fun _ => Heap → Nat → Option Blk → (Heap → β) → β) (fun H _ _ k => k H)
    (fun _ ih H i b k => @Heap.rec (fun _ => β)
      (@Nat.rec (fun _ => β) (k (.node b .leaf .leaf))
        (fun j _ => @Nat.rec (fun _ => β) (ih .leaf (Nat.div j 2) b fun l => k (.node none l .leaf)) (fun _ _ => ih .leaf (Nat.div j 2) b fun r => k (.node none .leaf r)) (Nat.mod j 2)) i)
      (fun v l r _ _ => @Nat.rec (fun _ => β) (k (.node b l r))
        (fun j _ => @Nat.rec (fun _ => β) (ih l (Nat.div j 2) b fun l => k (.node v l r)) (fun _ _ => ih r (Nat.div j 2) b fun r => k (.node v l r)) (Nat.mod j 2)) i) H) fuel
noncomputable def hsK {β : Type} (H : Heap) (i : Nat) (b : Option Blk) (k : Heap → β) : β := hsF (Nat.log2 (Nat.add i 1) + 1) H i b k
noncomputable def nthK {α β : Type} (l : List α) : Nat → β → (α → β) → β :=
  @List.rec α (fun _ => Nat → β → (α → β) → β) (fun _ z _ => z)
    (fun a _ ih n z k => @Nat.rec (fun _ => β) (k a) (fun m _ => ih m z k) n) l
noncomputable def ifK {β : Type} (b : Bool) (x y : β) : β := @Bool.rec (fun _ => β) y x b
-- COLD

def forceN {β : Type} (n : Nat) (f : Nat → β) : β :=
  match n with
  | 0 => f 0
  | Nat.succ m => f (Nat.succ m)
def forceI {β : Type} (n : Int) (f : Int → β) : β :=
  match n with
  | .ofNat m => forceN m fun m => f (.ofNat m)
  | .negSucc m => forceN m fun m => f (.negSucc m)
def forceB {β : Type} (b : Bool) (f : Bool → β) : β :=
  match b with
  | true => f true
  | false => f false
def forceA {β : Type} (a : Option Addr) (f : Option Addr → β) : β :=
  match a with
  | none => f none
  | some a => match a with
    | ⟨b, o, s⟩ => forceN b fun b => forceN o fun o => match s with
      | none => f (some ⟨b, o, none⟩)
      | some s => f (some ⟨b, o, some s⟩)
def force1 {β : Type} (v : Value) (f : Value → β) : β :=
  match v with
  | .bool b => forceB b fun b => f (.bool b)
  | .int k n => forceI n fun n => f (.int k n)
  | .pointer a => forceA a fun a => f (.pointer a)
  | .slice a l c => forceA a fun a => forceN l fun l => forceN c fun c => f (.slice a l c)
  | .map r => match r with
    | none => f (.map none)
    | some r => forceN r fun r => f (.map (some r))
  | v => f v
def forceL {β : Type} (l : List Value) (f : List Value → β) : β :=
  match l with
  | [] => f []
  | v :: l => force1 v fun v => forceL l fun l => f (v :: l)
def forceV {β : Type} (v : Value) (f : Value → β) : β :=
  match v with
  | .agg cs => forceL cs.toList fun l => f (.agg ⟨l⟩)
  | .tuple cs => forceL cs.toList fun l => f (.tuple ⟨l⟩)
  | v => force1 v f
/-- The spine of a list alone: its elements are in normal form. -/
def spine {α β : Type} (l : List α) (f : List α → β) : β :=
  match l with
  | [] => f []
  | v :: l => spine l fun l => f (v :: l)

def nth {α : Type} : List α → Nat → Option α
  | [], _ => none
  | a :: l, k => match k with
    | 0 => some a
    | k + 1 => nth l k
def setNth {α : Type} : List α → Nat → α → List α
  | [], _, _ => []
  | a :: l, k, b => match k with
    | 0 => b :: l
    | k + 1 => a :: setNth l k b

/-- A value without addresses, not nested. -/
def flat1 : Value → Bool
  | .bool _ | .int _ _ | .float _ _ | .complex _ _ _ | .string _ | .nilFunc | .nilIface => true
  | .pointer a => a.isNone
  | .slice a _ _ => a.isNone
  | .map r => r.isNone
  | _ => false
def flat : Value → Bool
  | .agg cs => cs.toList.all flat1
  | .tuple cs => cs.toList.all flat1
  | v => flat1 v

def prun {α : Type} (P : Program) : Sem α → Option α
  | .pure a => some a
  | .program k => prun P (k P)
  | .mark _ k => prun P k
  | _ => none

/-! Operands. -/

inductive X where
  | s (t : Nat)
  | c (v : Value)

def compX (n : Nat) : Operand → Option X
  | .tmp t => cond (Nat.blt t n) (some (.s t)) none
  | .const v => cond (flat v) (some (.c v)) none
  | .global _ => none
  | .func f => some (.c (.func (.func f) #[] #[]))
def compXs (n : Nat) : List Operand → Option (List X)
  | [] => some []
  | x :: l => match compX n x, compXs n l with
    | some x, some l => some (x :: l)
    | _, _ => none
def compO (n : Nat) : Option Operand → Option (Option X)
  | none => some none
  | some x => match compX n x with
    | some x => some (some x)
    | none => none
def compPs (n : Nat) : List (Nat × Operand) → Option (List (Nat × X))
  | [] => some []
  | (i, x) :: l => match compX n x, compPs n l with
    | some x, some l => some ((i, x) :: l)
    | _, _ => none

-- HOT
noncomputable def evK {β : Type} (T : Tree Value) (x : X) (k : Value → β) : β :=
  @X.rec (fun _ => β) (fun t => tgK T t (k undef) k) (fun v => k v) x
noncomputable def evsK {β : Type} (T : Tree Value) (l : List X) : (List Value → β) → β :=
  @List.rec X (fun _ => (List Value → β) → β) (fun k => k []) (fun x _ ih k => evK T x fun v => ih fun vs => k (v :: vs)) l
-- COLD
noncomputable def evOK {β : Type} (T : Tree Value) (x : Option X) (k : Option Value → β) : β :=
  match x with
  | none => k none
  | some x => evK T x fun v => k (some v)
noncomputable def evPsK {β : Type} (T : Tree Value) (l : List (Nat × X)) (k : List (Nat × Value) → β) : β :=
  match l with
  | [] => k []
  | (i, x) :: l => evK T x fun v => evPsK T l fun vs => k ((i, v) :: vs)

/-! Operations that only compute. -/

/-- Functions of values. -/
inductive VF where
  | eqb (neg : Bool)
  | eqn (neg : Bool) (t : TypeDesc)
  | eqs (neg : Bool) (offs : List (Nat × Nat))
  | sidx
  | ssl (lo hi : Bool)
  | mm (mx : Bool)
  | bad

inductive IP where
  | mv (x : X)
  | pick (c a b : X)
  | bin (op : BinOp) (x y : X)
  | un (op : UnOp) (x : X)
  | eq (neg : Bool) (t : Option TypeDesc) (x y : X) (o : Oper)
  | scal (xs : List X) (o : Oper)
  | fld (x : X) (off : Nat)
  | idx (x ix : X) (len : Option Nat) (size : Nat)
  | nilc (x : X)
  | ext (x : X) (i : Nat)
  | part (x : X) (off : Nat) (size : Option Nat)
  | aidx (x ix : X) (len size : Nat) (agg : Bool)
  | build (z : List Value) (pl : List (Nat × Nat)) (parts : List (Nat × X))
  | slA (x : X) (n size : Nat) (lo hi mx : Option X)
  | mkf (fn : Fn) (first cap : List X)
  | mki (t : TypeId) (x : X)
  | vf (f : VF) (xs : List X)

def nilSide : Value → Bool
  | .pointer a => a.isNone
  | .slice a _ _ => a.isNone
  | .map r => r.isNone
  | .nilFunc => true
  | _ => false
/-- '==' where one side is nil. -/
def nilEq (t : Option TypeDesc) (x y : Value) : Option Bool :=
  match t, x, y with
  | some (.pointer _), .pointer a, .pointer b => cond (a.isNone || b.isNone) (some (a.isNone && b.isNone)) none
  | some (.slice _), .slice a _ _, .slice b _ _ => cond (a.isNone || b.isNone) (some (a.isNone && b.isNone)) none
  | some (.map _ _), .map a, .map b => cond (a.isNone || b.isNone) (some (a.isNone && b.isNone)) none
  | some (.func _ _ _), .nilFunc, .func _ _ _ => some false
  | some (.func _ _ _), .func _ _ _, .nilFunc => some false
  | some (.func _ _ _), .nilFunc, .nilFunc => some true
  | _, _, _ => none

/-- The operand's value, as the model's operations ask for it. -/
noncomputable def evalA (T : Tree Value) : Operand → Value
  | .tmp t => tgK T t undef id
  | .const v => v
  | .global _ => undef
  | .func f => .func (.func f) #[] #[]

noncomputable def scalK {β : Type} (P : Program) (T : Tree Value) (xs : List X) (o : Oper) (z : β) (k : Value → β) : β :=
  evsK T xs fun vs => cond (vs.all flat)
    (match prun P (execOp (evalA T) o) with
     | some (.value v) => forceV v fun v => cond (flat v) (k v) z
     | _ => z) z

def fits (k : IntKind) (n : Int) : Bool :=
  match n with
  | .ofNat m => (match k with
    | .i64 => Nat.blt m 9223372036854775808
    | .u32 => Nat.blt m 4294967296
    | .u64 => Nat.blt m 18446744073709551616
    | .u8 => Nat.blt m 256
    | _ => false)
  | .negSucc m => (match k with
    | .i64 => Nat.blt m 9223372036854775808
    | _ => false)
def addI (a b : Int) : Int :=
  match a, b with
  | .ofNat a, .ofNat b => .ofNat (Nat.add a b)
  | a, b => a + b
def subI (a b : Int) : Int :=
  match a, b with
  | .ofNat a, .ofNat b => cond (Nat.ble b a) (.ofNat (Nat.sub a b)) (.negSucc (Nat.sub (Nat.sub b a) 1))
  | a, b => a - b
def ltI (a b : Int) : Bool :=
  match a, b with
  | .ofNat a, .ofNat b => Nat.blt a b
  | .negSucc _, .ofNat _ => true
  | .ofNat _, .negSucc _ => false
  | .negSucc a, .negSucc b => Nat.blt b a
def leI (a b : Int) : Bool :=
  match a, b with
  | .ofNat a, .ofNat b => Nat.ble a b
  | .negSucc _, .ofNat _ => true
  | .ofNat _, .negSucc _ => false
  | .negSucc a, .negSucc b => Nat.ble b a
def eqI (a b : Int) : Bool :=
  match a, b with
  | .ofNat a, .ofNat b => Nat.beq a b
  | .negSucc a, .negSucc b => Nat.beq a b
  | _, _ => false
def eqK : IntKind → IntKind → Bool
  | .i8, .i8 | .i16, .i16 | .i32, .i32 | .i64, .i64 | .u8, .u8 | .u16, .u16 | .u32, .u32 | .u64, .u64 => true
  | _, _ => false

/-- A binary operation on two values, as the model has it. -/
def intV (op : BinOp) (k : IntKind) (a b : Int) : Option Value :=
  match op with
  | .add => some (.int k (k.wrap (a + b)))
  | .sub => some (.int k (k.wrap (a - b)))
  | .mul => some (.int k (k.wrap (a * b)))
  | .quo => if b = 0 then none else some (.int k (k.wrap (a.tdiv b)))
  | .rem => if b = 0 then none else some (.int k (a.tmod b))
  | .and => some (.int k (k.wrap (BitVec.ofInt k.bits a &&& BitVec.ofInt k.bits b).toNat))
  | .or => some (.int k (k.wrap (BitVec.ofInt k.bits a ||| BitVec.ofInt k.bits b).toNat))
  | .xor => some (.int k (k.wrap (BitVec.ofInt k.bits a ^^^ BitVec.ofInt k.bits b).toNat))
  | .andNot => some (.int k (k.wrap (BitVec.ofInt k.bits a &&& ~~~(BitVec.ofInt k.bits b)).toNat))
  | .eql => some (.bool (a == b))
  | .neq => some (.bool (a != b))
  | .lss => some (.bool (decide (a < b)))
  | .leq => some (.bool (decide (a ≤ b)))
  | .gtr => some (.bool (decide (a > b)))
  | .geq => some (.bool (decide (a ≥ b)))
  | _ => none
def strV (op : BinOp) (a b : ByteArray) : Option Value :=
  match op with
  | .add => if ((a.size + b.size : Nat) : Int) > IntKind.i64.max then none else some (.string (a ++ b))
  | .eql => some (.bool (a.toList == b.toList))
  | .neq => some (.bool !(a.toList == b.toList))
  | .lss => some (.bool (Op.bytesLess a.toList b.toList))
  | .leq => some (.bool (Op.bytesLess a.toList b.toList || a.toList == b.toList))
  | .gtr => some (.bool !(Op.bytesLess a.toList b.toList || a.toList == b.toList))
  | .geq => some (.bool !(Op.bytesLess a.toList b.toList))
  | _ => none
def shiftV (op : BinOp) (k : IntKind) (a b : Int) : Option Value :=
  if b < 0 then none else match op with
    | .shl => some (.int k (k.wrap (a * 2 ^ min b.toNat k.bits)))
    | .shr => some (.int k (a.fdiv (2 ^ min b.toNat k.bits)))
    | _ => none
def isShift : BinOp → Bool
  | .shl | .shr => true
  | _ => false
def binV (op : BinOp) (x y : Value) : Option Value :=
  match x, y with
  | .int k a, .int k' b => cond (isShift op) (shiftV op k a b) (cond (eqK k k') (intV op k a b) none)
  | .string a, .string b => strV op a b
  | _, _ => none
def unV (op : UnOp) (x : Value) : Option Value :=
  match op, x with
  | .neg, .int k n => some (.int k (k.wrap (0 - n)))
  | .xor, .int k n => some (.int k (k.wrap (BitVec.ofInt k.bits (if k.signed then -1 else k.max) ^^^ BitVec.ofInt k.bits n).toNat))
  | .not, .bool b => some (.bool !b)
  | _, _ => none
noncomputable def optK {β : Type} (r : Option Value) (z : β) (f : Value → β) : β :=
  match r with
  | some v => force1 v f
  | none => z
noncomputable def binFK {β : Type} (op : BinOp) (k : IntKind) (a b : Int) (z : β) (f : Value → β) : β :=
  match op with
  | .add => forceI (addI a b) fun r => cond (fits k r) (f (.int k r)) (optK (intV op k a b) z f)
  | .sub => forceI (subI a b) fun r => cond (fits k r) (f (.int k r)) (optK (intV op k a b) z f)
  | .lss => forceB (ltI a b) fun r => f (.bool r)
  | .leq => forceB (leI a b) fun r => f (.bool r)
  | .gtr => forceB (ltI b a) fun r => f (.bool r)
  | .geq => forceB (leI b a) fun r => f (.bool r)
  | .eql => forceB (eqI a b) fun r => f (.bool r)
  | .neq => forceB (!(eqI a b)) fun r => f (.bool r)
  | op => optK (intV op k a b) z f
noncomputable def binVK {β : Type} (op : BinOp) (vx vy : Value) (z : β) (f : Value → β) : β :=
  match vx, vy with
  | .int k a, .int k' b => cond (isShift op) (optK (shiftV op k a b) z f) (cond (eqK k k') (binFK op k a b z f) z)
  | .string a, .string b => optK (strV op a b) z f
  | _, _ => z
noncomputable def binK {β : Type} (op : BinOp) (x y : X) (T : Tree Value) (z : β) (f : Value → β) : β :=
  evK T x fun vx => evK T y fun vy => binVK op vx vy z f
noncomputable def unK {β : Type} (op : UnOp) (x : X) (T : Tree Value) (z : β) (f : Value → β) : β :=
  evK T x fun v => optK (unV op v) z f
noncomputable def eqVK {β : Type} (P : Program) (T : Tree Value) (neg : Bool) (t : Option TypeDesc) (x y : X) (o : Oper) (z : β) (f : Value → β) : β :=
  evK T x fun vx => evK T y fun vy =>
    match vx, vy with
    | .int k a, .int k' b => cond (eqK k k') (forceB (cond neg (!(eqI a b)) (eqI a b)) fun r => f (.bool r)) z
    | vx, vy => cond (nilSide vx || nilSide vy)
      (match nilEq t vx vy with
       | some b => forceB (cond neg (!b) b) fun r => f (.bool r)
       | none => z) (scalK P T [x, y] o z f)

def notChan : Value → Bool
  | .chan _ => false
  | _ => true
def fillA (place : Nat → Option (Nat × Nat)) (cells : List Value) : List (Nat × Value) → Option (List Value)
  | [] => some cells
  | (i, v) :: rest =>
    match place i with
    | none => none
    | some (off, size) =>
      cond (Nat.beq v.cells.toList.length size && Nat.ble (off + size) cells.length && notChan v)
        (fillA place (cells.take off ++ v.cells.toList ++ cells.drop (off + size)) rest) none

def boundA (x : Option Value) (top : Nat) : Option Nat :=
  match x with
  | none => some top
  | some v => match v with
    | .int _ n => match n with
      | .ofNat m => cond (Nat.ble m top) (some m) none
      | _ => none
    | _ => none

def hiA (hi mx : Option Value) (len m : Nat) : Option Nat :=
  match hi with
  | none => (match mx with
    | none => some len
    | some _ => none)
  | some v => boundA (some v) m
def loA (lo : Option Value) (h : Nat) : Option Nat :=
  match lo with
  | none => some 0
  | some v => boundA (some v) h
def eqCell (tag : Nat) (x y : Value) : Option Bool :=
  match tag, x, y with
  | 0, .int k a, .int k' b => cond (eqK k k') (some (a == b)) none
  | 1, .bool a, .bool b => some (a == b)
  | 2, .string a, .string b => some (a.toList == b.toList)
  | _, _, _ => none
def eqCells (a b : List Value) : List (Nat × Nat) → Option Bool
  | [] => some true
  | (o, tag) :: os => match nth a o, nth b o with
    | some x, some y => (match eqCell tag x y, eqCells a b os with
      | some r, some r' => some (r && r')
      | _, _ => none)
    | _, _ => none
def sslV (s : ByteArray) (lo hi : Option Value) : Option Value :=
  match (match hi with | none => some s.size | some v => boundA (some v) s.size) with
  | none => none
  | some h => match (match lo with | none => some 0 | some v => boundA (some v) h) with
    | none => none
    | some l => some (.string (s.extract l h))
def mmV (mx : Bool) : Value → List Value → Option Value
  | .int k x, [] => some (.int k x)
  | .int k x, .int _ y :: r => mmV mx (.int k (cond mx (if y > x then y else x) (if y < x then y else x))) r
  | _, _ => none
def idxV (s : ByteArray) (n : Int) : Option Value := ((if 0 ≤ n then s[n.toNat]? else none) : Option UInt8).map fun b => .int .u8 b.toNat
def VF.ev : VF → List Value → Option Value
  | .eqb neg, [.bool a, .bool b] => some (.bool (cond neg (!(a == b)) (a == b)))
  | .eqn neg t, [x, y] => (nilEq (some t) x y).map fun b => .bool (cond neg (!b) b)
  | .eqs neg offs, [.agg a, .agg b] => (eqCells a.toList b.toList offs).map fun r => .bool (cond neg (!r) r)
  | .sidx, [.string s, .int _ n] => idxV s n
  | .ssl false false, [.string s] => sslV s none none
  | .ssl true false, [.string s, l] => sslV s (some l) none
  | .ssl false true, [.string s, h] => sslV s none (some h)
  | .ssl true true, [.string s, l, h] => sslV s (some l) (some h)
  | .mm mx, x :: r => mmV mx x r
  | _, _ => none
noncomputable def vfK {β : Type} (f : VF) (xs : List X) (T : Tree Value) (z : β) (k : Value → β) : β :=
  evsK T xs fun vs => optK (f.ev vs) z k
/-- Slicing: low, high and max ('loose': the real capacity may be greater). -/
def sliceA (a : Option Addr) (len cap size : Nat) (lo hi mx : Option Value) (loose : Bool) : Option Value :=
  match boundA mx cap with
  | none => none
  | some m =>
    match hiA hi mx len m with
    | none => none
    | some h =>
      match loA lo h with
      | none => none
      | some l =>
        match a with
        | none => some (.slice none (h - l) (m - l))
        | some a => cond ((loose && mx.isNone && Nat.beq m l && !(Nat.beq l 0)) || !(Nat.ble l m)) none
          (some (.slice (some (cond (Nat.beq m l) a { block := a.block, off := a.off + l * size, spot := a.spot })) (h - l) (m - l)))

-- HOT
noncomputable def pPick {β : Type} (c a b : X) (T : Tree Value) (z : β) (k : Value → β) : β :=
  evK T c fun v => match v with
    | .bool t => ifK t (evK T a k) (evK T b k)
    | _ => z
noncomputable def offK {β : Type} (n : Nat) (a : Addr) (k : Value → β) : β :=
  forceN n fun n => match a with
    | ⟨b, _, s⟩ => k (.pointer (some ⟨b, n, s⟩))
noncomputable def pFld {β : Type} (x : X) (off : Nat) (T : Tree Value) (z : β) (k : Value → β) : β :=
  evK T x fun v => match v with
    | .pointer (some a) => offK (a.off + off) a k
    | _ => z
noncomputable def pIdx2 {β : Type} (len : Option Nat) (size : Nat) (i : Nat) (z : β) (k : Value → β) (v : Value) : β :=
  match len, v with
  | none, .slice (some a) n _ => cond (Nat.blt i n) (offK (a.off + i * size) a k) z
  | some n, .pointer (some a) => cond (Nat.blt i n) (offK (a.off + i * size) a k) z
  | _, _ => z
noncomputable def pIdx {β : Type} (x ix : X) (len : Option Nat) (size : Nat) (T : Tree Value) (z : β) (k : Value → β) : β :=
  evK T ix fun vi => match vi with
    | .int _ (.ofNat i) => evK T x fun v => pIdx2 len size i z k v
    | _ => z
noncomputable def pNilc {β : Type} (x : X) (T : Tree Value) (z : β) (k : Value → β) : β :=
  evK T x fun v => match v with
    | .pointer (some a) => k (.pointer (some a))
    | _ => z
noncomputable def pExt {β : Type} (x : X) (i : Nat) (T : Tree Value) (z : β) (k : Value → β) : β :=
  evK T x fun v => match v with
    | .tuple vs => nthK vs.toList i z k
    | _ => z
noncomputable def cutK {β : Type} (l : List Value) (off : Nat) (size : Option Nat) (z : β) (k : Value → β) : β :=
  match size with
  | some n => spine (l.drop off |>.take n) fun l => k (.agg ⟨l⟩)
  | none => nthK l off z k
noncomputable def pPart {β : Type} (x : X) (off : Nat) (size : Option Nat) (T : Tree Value) (z : β) (k : Value → β) : β :=
  evK T x fun v => match v with
    | .agg cs => cutK cs.toList off size z k
    | _ => z
noncomputable def pAidx {β : Type} (x ix : X) (len size : Nat) (agg : Bool) (T : Tree Value) (z : β) (k : Value → β) : β :=
  evK T ix fun vi => match vi with
    | .int _ (.ofNat i) => evK T x fun v => match v with
      | .agg cs => cond (Nat.blt i len) (cutK cs.toList (i * size) (cond agg (some size) none) z k) z
      | _ => z
    | _ => z
noncomputable def pBuild {β : Type} (zero : List Value) (pl : List (Nat × Nat)) (parts : List (Nat × X)) (T : Tree Value) (z : β) (k : Value → β) : β :=
  evPsK T parts fun vs => match fillA (nth pl) zero vs with
    | some cs => spine cs fun cs => k (.agg ⟨cs⟩)
    | none => z
noncomputable def pSlA {β : Type} (x : X) (n size : Nat) (lo hi mx : Option X) (T : Tree Value) (z : β) (k : Value → β) : β :=
  evK T x fun v => evOK T lo fun lo => evOK T hi fun hi => evOK T mx fun mx => match v with
    | .pointer (some a) => (match sliceA (some a) n n size lo hi mx false with
      | some r => force1 r k
      | none => z)
    | _ => z
noncomputable def evP {β : Type} (P : Program) (i : IP) : Tree Value → β → (Value → β) → β :=
  @IP.rec (fun _ => Tree Value → β → (Value → β) → β)
    (fun x T _ k => evK T x k)
    pPick
    binK unK
    (fun neg t x y o T z k => eqVK P T neg t x y o z k)
    (fun xs o T z k => scalK P T xs o z k)
    pFld pIdx pNilc pExt pPart pAidx pBuild pSlA
    (fun fn first cap T _ k => evsK T first fun f => evsK T cap fun c => k (.func fn ⟨f⟩ ⟨c⟩))
    (fun t x T _ k => evK T x fun v => k (.iface t v)) vfK i

/-! Operations that read. -/

inductive IR where
  | ld (x : X) (size : Option Nat)
  | lk (kd : TypeDesc) (zero : Value) (x ix : X) (ok : Bool)
  | len (x : X) (kd : Nat)
  | convI (kd : IntKind) (x : X)
  | conv (x : X) (o : Oper)
  | sl (x : X) (size : Nat) (lo hi mx : Option X)

/-- Keys that are compared at once: integers, strings, booleans. -/
def keyKind : TypeDesc → Value → Bool
  | .int _, .int _ _ => true
  | .string, .string _ => true
  | .bool, .bool _ => true
  | _, _ => false

def takeN {α : Type} : Nat → List α → Option (List α)
  | 0, _ => some []
  | n + 1, l => match l with
    | [] => none
    | a :: l => match takeN n l with
      | some r => some (a :: r)
      | none => none

noncomputable def getB {β : Type} (H : Heap) (i : Nat) (z : β) (k : Blk → β) : β :=
  hgK H i z k
noncomputable def rowK {β : Type} (H : Heap) (a : Addr) (n : Nat) (z : β) (k : List Value → β) : β :=
  match a with
  | ⟨b, o, none⟩ => getB H b z fun b => match b with
    | .cells c _ => (match takeN n (c.drop o) with
      | some l => spine l k
      | none => z)
    | .rom c => (match takeN n (c.drop o) with
      | some l => spine l k
      | none => z)
    | _ => z
  | _ => z

noncomputable def ldC {β : Type} (o : Nat) (size : Option Nat) (z : β) (k : Value → β) (c : List Value) : β :=
  match size with
    | none => nthK c o z k
    | some n => (match takeN n (c.drop o) with
      | some l => spine l fun l => k (.agg ⟨l⟩)
      | none => z)
noncomputable def ldB {β : Type} (o : Nat) (size : Option Nat) (z : β) (k : Value → β) (b : Blk) : β :=
  match b with
  | .cells c _ => ldC o size z k c
  | .rom c => ldC o size z k c
  | _ => z
noncomputable def rLd {β : Type} (x : X) (size : Option Nat) (T : Tree Value) (H : Heap) (z : β) (k : Value → β) : β :=
  evK T x fun v => match v with
    | .pointer (some ⟨b, o, none⟩) => getB H b z (ldB o size z k)
    | _ => z
noncomputable def rLk {β : Type} (kd : TypeDesc) (zero : Value) (x ix : X) (ok : Bool) (T : Tree Value) (H : Heap) (z : β) (k : Value → β) : β :=
  evK T x fun v => evK T ix fun vi => cond (keyKind kd vi)
    ((fun (es : List MapEntry → β) => match v with
      | .map none => es []
      | .map (some r) => getB H r z fun b => match b with
        | .map l _ => es l
        | _ => z
      | _ => z) fun l => match Instr.findNow kd vi l 0 with
        | some (some (_, v)) => cond ok (k (.tuple ⟨[v, .bool true]⟩)) (k v)
        | some none => cond ok (k (.tuple ⟨[zero, .bool false]⟩)) (k zero)
        | none => z) z
noncomputable def rLen {β : Type} (x : X) (kd : Nat) (T : Tree Value) (H : Heap) (z : β) (k : Value → β) : β :=
  evK T x fun v => match kd, v with
    | 0, .slice _ n _ => k (.int .i64 (.ofNat n))
    | 1, .string s => forceN s.size fun n => k (.int .i64 (.ofNat n))
    | 2, .map none => k (.int .i64 (.ofNat 0))
    | 2, .map (some r) => getB H r z fun b => match b with
      | .map l _ => forceN l.length fun n => k (.int .i64 (.ofNat n))
      | _ => z
    | _, _ => z
noncomputable def rConvI {β : Type} (kd : IntKind) (x : X) (T : Tree Value) (_ : Heap) (z : β) (k : Value → β) : β :=
  evK T x fun v => match v with
    | .int _ n => cond (fits kd n) (k (.int kd n)) (forceI (kd.wrap n) fun n => k (.int kd n))
    | _ => z
noncomputable def rConv {β : Type} (P : Program) (x : X) (o : Oper) (T : Tree Value) (z : β) (k : Value → β) : β := scalK P T [x] o z k
/-- Does the capacity stand for itself, or may the real one be greater? -/
def looseA (b : Blk) (o cap size : Nat) : Option Bool :=
  match b with
  | .cells c sl => cond (Nat.beq sl 0) (some false) (cond (Nat.beq sl size) (some (Nat.beq (o + cap * size) c.length)) none)
  | .rom _ => some false
  | _ => none
noncomputable def slB {β : Type} (a : Addr) (len cap size : Nat) (lo hi mx : Option Value) (z : β) (k : Value → β) (b : Blk) : β :=
  match looseA b a.off cap size with
  | some l => (match sliceA (some a) len cap size lo hi mx l with
    | some r => force1 r k
    | none => z)
  | none => z
noncomputable def rSl {β : Type} (x : X) (size : Nat) (lo hi mx : Option X) (T : Tree Value) (H : Heap) (z : β) (k : Value → β) : β :=
  evK T x fun v => evOK T lo fun lo => evOK T hi fun hi => evOK T mx fun mx => match v with
    | .slice none len cap => (match sliceA none len cap size lo hi mx false with
      | some r => force1 r k
      | none => z)
    | .slice (some a) len cap => getB H a.block z (slB a len cap size lo hi mx z k)
    | _ => z
noncomputable def evR {β : Type} (P : Program) (i : IR) : Tree Value → Heap → β → (Value → β) → β :=
  @IR.rec (fun _ => Tree Value → Heap → β → (Value → β) → β) rLd rLk rLen rConvI (fun x o T _ z k => rConv P x o T z k) rSl i

/-! Operations that make a block. -/

def oneCells : List Value → Bool
  | [] => true
  | .agg _ :: _ | .tuple _ :: _ | .chan _ :: _ => false
  | _ :: l => oneCells l

/-- What an operation yields, given the new block's name. -/
inductive Yld where
  | ptr
  | slice (len cap : Nat)
  | map
def Yld.val (q : Nat) : Yld → Value
  | .ptr => .pointer (some { block := q, off := 0 })
  | .slice l c => .slice (some { block := q, off := 0 }) l c
  | .map => .map (some q)

def repeatA (z : List Value) : Nat → List Value
  | 0 => []
  | n + 1 => z ++ repeatA z n

inductive IA where
  | alloc (z : List Value)
  | box (x : X)
  | bsl (len size : Nat) (z : List Value) (parts : List (Nat × X))
  | msl (l c : X) (z : List Value)
  | mmap (x : Option X)

noncomputable def evA {β : Type} (i : IA) (T : Tree Value) (z : β) (k : Blk → Yld → β) : β :=
  match i with
  | .alloc zero => spine zero fun l => k (.cells l 0) .ptr
  | .box x => evK T x fun v => cond (oneCells v.cells.toList) (spine v.cells.toList fun l => k (.cells l 0) .ptr) z
  | .bsl len size zero parts => evPsK T parts fun vs =>
    match fillA (fun k => some (k * size, size)) (repeatA zero len) vs with
    | some cs => cond (oneCells cs) (spine cs fun cs => k (.cells cs 0) (.slice len len)) z
    | none => z
  | .msl l c zero => evK T l fun vl => evK T c fun vc => match vl, vc with
    | .int .i64 (.ofNat l), .int .i64 (.ofNat c) => cond (Nat.ble l c && Nat.ble c 1000000) (spine (repeatA zero c) fun cs => k (.cells cs 0) (.slice l c)) z
    | _, _ => z
  | .mmap x => evOK T x fun x => match x with
    | none => k (.map [] 0) .map
    | some (.int _ _) => k (.map [] 0) .map
    | _ => z

/-! Operations with an effect. -/

inductive IE where
  | st (x v : X) (size : Nat)
  | upd (kd : TypeDesc) (m k v : X)
  | call (f : X) (args : List X)
  | app (s x : X) (size bytes : Nat)
  | copy (d s : X) (size : Nat)
  | clrM (m : X)
  | clrS (s : X) (zero : List Value)

abbrev CallT (β : Type) := FuncId → List Value → Heap → Nat → β → (Value → Heap → Nat → β) → β

noncomputable def putCK {β : Type} (H : Heap) (a : Addr) (vs : List Value) (z : β) (k : Heap → β) : β :=
  match a with
  | ⟨b, o, none⟩ => getB H b z fun blk => match blk with
    | .cells c sl => cond (Nat.ble (o + vs.length) c.length)
      (spine (c.take o ++ vs ++ c.drop (o + vs.length)) fun c => hsK H b (some (.cells c sl)) k) z
    | _ => z
  | _ => z

noncomputable def firstK {β : Type} (H : Heap) (size n : Nat) (x : Value) (z : β) (k : List Value → β) : β :=
  match x with
  | .slice (some a) _ _ => rowK H a (n * size) z k
  | .slice none _ _ => k []
  | .string s => forceL ((s.extract 0 n).data.toList.map fun b => .int .u8 b.toNat) k
  | _ => z
def lenA : Value → Option Nat
  | .slice _ n _ => some n
  | .string s => some s.size
  | _ => none

/-- Append where the new elements have their place. -/
noncomputable def appIn {β : Type} (H : Heap) (nx : Nat) (size need sLen sCap n : Nat) (base : Option Addr) (new : List Value) (z : β) (k : Value → Heap → Nat → β) : β :=
  match base with
  | none => cond (Nat.beq n 0) (k (.slice none need sCap) H nx) z
  | some ⟨b, o, none⟩ => forceN (o + sLen * size) fun o' => putCK H ⟨b, o', none⟩ new z fun H' => k (.slice (some ⟨b, o, none⟩) need sCap) H' nx
  | _ => z
noncomputable def appNew {β : Type} (H : Heap) (nx size need : Nat) (cs : List Value) (k : Value → Heap → Nat → β) : β :=
  forceN (nx + 1) fun nx1 => forceN size fun size => hsK H nx (some (.cells cs size)) fun H' => k (.slice (some ⟨nx, 0, none⟩) need need) H' nx1
/-- Append where they have none, or may have none. -/
noncomputable def appOut {β : Type} (H : Heap) (nx : Nat) (size need sCap : Nat) (base : Option Addr) (cs : List Value) (z : β) (k : Value → Heap → Nat → β) : β :=
  match base with
  | none => appNew H nx size need cs k
  | some ⟨b, o, none⟩ => getB H b z fun blk => match looseA blk o sCap size with
    | some false => appNew H nx size need cs k
    | some true => hsK H b none fun H => appNew H nx size need cs k
    | none => z
  | _ => z
noncomputable def appK {β : Type} (H : Heap) (nx : Nat) (size bytes : Nat) (s x : Value) (z : β) (k : Value → Heap → Nat → β) : β :=
  match s, lenA x with
  | .slice base sLen sCap, some n => forceN (sLen + n) fun need =>
    cond (Nat.ble ((2 * need + 1000) * bytes) 281474976710656 && Nat.ble need 1000000000)
     (firstK H size n x z fun new => cond (oneCells new)
      (cond (Nat.ble need sCap) (appIn H nx size need sLen sCap n base new z k)
        (firstK H size sLen s z fun old => spine (old ++ new) fun cs => cond (Nat.beq cs.length (need * size)) (appOut H nx size need sCap base cs z k) z)) z) z
  | _, _ => z

noncomputable def eCall {β : Type} (f : X) (args : List X) (call : CallT β) (T : Tree Value) (H : Heap) (nx : Nat) (z : β) (k : Value → Heap → Nat → β) : β :=
  evK T f fun vf => match vf with
    | .func (.func g) ⟨first⟩ ⟨cap⟩ => evsK T args fun vs => spine (first ++ vs ++ cap) fun vs => call g vs H nx z k
    | _ => z
noncomputable def eSt {β : Type} (x v : X) (size : Nat) (_ : CallT β) (T : Tree Value) (H : Heap) (nx : Nat) (z : β) (k : Value → Heap → Nat → β) : β :=
  evK T x fun vx => evK T v fun vv => match vx with
    | .pointer (some a) => cond (Nat.beq vv.cells.toList.length size && oneCells vv.cells.toList)
      (putCK H a vv.cells.toList z fun H => k undef H nx) z
    | _ => z
noncomputable def updK {β : Type} (kd : TypeDesc) (H : Heap) (nx : Nat) (r : Nat) (vk vv : Value) (z : β) (k : Value → Heap → Nat → β) (b : Blk) : β :=
  match b with
  | .map es clock => cond (keyKind kd vk)
    (match Instr.findNow kd vk es 0 with
     | some (some (i, _)) => (match nth es i with
       | some e => spine (setNth es i { key := vk, val := vv, born := e.born }) fun es => hsK H r (some (.map es clock)) fun H => k undef H nx
       | none => z)
     | some none => spine (es ++ [{ key := vk, val := vv, born := clock }]) fun es => forceN (clock + 1) fun c => hsK H r (some (.map es c)) fun H => k undef H nx
     | none => z) z
  | _ => z
noncomputable def eUpd {β : Type} (kd : TypeDesc) (m key v : X) (_ : CallT β) (T : Tree Value) (H : Heap) (nx : Nat) (z : β) (k : Value → Heap → Nat → β) : β :=
  evK T m fun vm => evK T key fun vk => evK T v fun vv => match vm with
    | .map (some r) => getB H r z (updK kd H nx r vk vv z k)
    | _ => z
noncomputable def eCopy {β : Type} (d s : X) (size : Nat) (_ : CallT β) (T : Tree Value) (H : Heap) (nx : Nat) (z : β) (k : Value → Heap → Nat → β) : β :=
  evK T d fun vd => evK T s fun vs => match vd, lenA vs with
    | .slice base dLen _, some m => forceN (Nat.min m dLen) fun n => firstK H size n vs z fun cs => cond (oneCells cs) (match base with
      | none => k (.int .i64 (.ofNat n)) H nx
      | some a => putCK H a cs z fun H => k (.int .i64 (.ofNat n)) H nx) z
    | _, _ => z
noncomputable def eClrM {β : Type} (m : X) (_ : CallT β) (T : Tree Value) (H : Heap) (nx : Nat) (z : β) (k : Value → Heap → Nat → β) : β :=
  evK T m fun v => match v with
    | .map none => k undef H nx
    | .map (some r) => getB H r z fun b => match b with
      | .map _ clock => hsK H r (some (.map [] clock)) fun H => k undef H nx
      | _ => z
    | _ => z
noncomputable def eClrS {β : Type} (s : X) (zero : List Value) (_ : CallT β) (T : Tree Value) (H : Heap) (nx : Nat) (z : β) (k : Value → Heap → Nat → β) : β :=
  evK T s fun v => match v with
    | .slice none _ _ => k undef H nx
    | .slice (some a) n _ => cond (Nat.beq n 0) (k undef H nx) (cond (oneCells (repeatA zero n)) (putCK H a (repeatA zero n) z fun H => k undef H nx) z)
    | _ => z
noncomputable def evE {β : Type} (i : IE) : CallT β → Tree Value → Heap → Nat → β → (Value → Heap → Nat → β) → β :=
  @IE.rec (fun _ => CallT β → Tree Value → Heap → Nat → β → (Value → Heap → Nat → β) → β)
    eSt eUpd eCall (fun s x size bytes _ T H nx z k => evK T s fun vs => evK T x fun vx => appK H nx size bytes vs vx z k) eCopy eClrM eClrS i
-- COLD

/-! The translation of operations. -/

inductive I where
  | p (i : IP)
  | r (i : IR)
  | a (i : IA)
  | e (i : IE)

def placesA (P : Program) : List Field → Option (List (Nat × Nat))
  | [] => some []
  | f :: fs => match P.info? f.type, placesA P fs with
    | some i, some l => some ((f.offset, i.size) :: l)
    | _, _ => none
/-- A type's zero value, as cells. -/
def zeroA (P : Program) (t : TypeId) : Option (List Value) :=
  match P.info? t with
  | some i => match i.zero with
    | some z => cond (flat z && oneCells z.cells.toList && Nat.beq z.cells.toList.length i.size) (some z.cells.toList) none
    | none => none
  | none => none
def isAggA : TypeDesc → Bool
  | .struct _ | .array _ _ => true
  | _ => false
/-- A type's size where it is made of several cells; 'none' within for one cell. -/
def shapeA (P : Program) (t : TypeId) : Option (Option Nat) :=
  match P.underlying t, P.info? t with
  | some d, some i => some (cond (isAggA d) (some i.size) none)
  | _, _ => none

def allPlaces (n size : Nat) : List (Nat × Nat) := (List.range n).map fun i => (i * size, size)

def isEq : BinOp → Option Bool
  | .eql => some false
  | .neq => some true
  | _ => none
def tagT : Option TypeDesc → Option Nat
  | some (.int _) => some 0
  | some .bool => some 1
  | some .string => some 2
  | _ => none
def offsF (P : Program) : List Field → Option (List (Nat × Nat))
  | [] => some []
  | f :: fs => match tagT (P.underlying f.type), offsF P fs with
    | some tag, some os => some ((f.offset, tag) :: os)
    | _, _ => none
/-- A struct whose fields are compared cell by cell. -/
def eqOffs (P : Program) (t : TypeId) (fs : List Field) : Option (List (Nat × Nat)) :=
  cond (!P.stoodInHeld t && !P.eqGuardType P.depth t && fs.all fun f => f.name != "_") (offsF P fs) none
def compI0 (P : Program) (n : Nat) (o : Oper) : Option I :=
  match o.op with
  | .move x | .assign x => (compX n x).map fun x => .p (.mv x)
  | .pick c a b => match compX n c, compX n a, compX n b with
    | some c, some a, some b => some (.p (.pick c a b))
    | _, _, _ => none
  | .binOp op t x y _ => match compX n x, compX n y with
    | some x, some y => match isEq op with
      | none => some (.p (.bin op x y))
      | some neg => match P.underlying t with
        | some (.int _) => some (.p (.bin op x y))
        | some .string => some (.p (.bin op x y))
        | some .bool => some (.p (.vf (.eqb neg) [x, y]))
        | some (.pointer e) => some (.p (.vf (.eqn neg (.pointer e)) [x, y]))
        | some (.slice e) => some (.p (.vf (.eqn neg (.slice e)) [x, y]))
        | some (.map a e) => some (.p (.vf (.eqn neg (.map a e)) [x, y]))
        | some (.func a e c) => some (.p (.vf (.eqn neg (.func a e c)) [x, y]))
        | some (.struct fs) => (match eqOffs P t fs.toList with
          | some offs => some (.p (.vf (.eqs neg offs) [x, y]))
          | none => some (.p (.eq neg (P.underlying t) x y o)))
        | _ => some (.p (.eq neg (P.underlying t) x y o))
    | _, _ => none
  | .unOp op _ x => match compX n x with
    | some x => some (.p (.un op x))
    | none => none
  | .fieldAddr s x f => match compX n x, P.underlying s with
    | some x, some (.struct fs) => match nth fs.toList f with
      | some fd => match P.info? fd.type with
        | some i => cond (Nat.beq i.size 0) none (some (.p (.fld x fd.offset)))
        | none => none
      | none => none
    | _, _ => none
  | .indexAddr t x ix => match compX n x, compX n ix, P.underlying t with
    | some x, some ix, some (.slice e) => match P.info? e with
      | some i => some (.p (.idx x ix none i.size))
      | none => none
    | some x, some ix, some (.array len e) => match P.info? e with
      | some i => some (.p (.idx x ix (some len) i.size))
      | none => none
    | _, _, _ => none
  | .nilCheck x => (compX n x).map fun x => .p (.nilc x)
  | .extract x i => (compX n x).map fun x => .p (.ext x i)
  | .field t x f => match compX n x, P.underlying t with
    | some x, some (.struct fs) => match nth fs.toList f with
      | some fd => (shapeA P fd.type).map fun sh => .p (.part x fd.offset sh)
      | none => none
    | _, _ => none
  | .index t x ix => match compX n x, compX n ix, P.underlying t with
    | some x, some ix, some (.array len e) => match P.info? e, P.underlying e with
      | some i, some d => some (.p (.aidx x ix len i.size (isAggA d)))
      | _, _ => none
    | some x, some ix, some .string => some (.p (.vf .sidx [x, ix]))
    | _, _, _ => none
  | .build t parts => match P.underlying t, zeroA P t, compPs n parts.toList with
    | some (.struct fields), some z, some ps => (placesA P fields.toList).map fun pl => .p (.build z pl ps)
    | some (.array k e), some z, some ps => match P.info? e with
      | some i => some (.p (.build z (allPlaces k i.size) ps))
      | none => none
    | _, _, _ => none
  | .slice t x lo hi mx => match compX n x, compO n lo, compO n hi, compO n mx, P.underlying t with
    | some x, some lo, some hi, some mx, some (.slice e) => match P.info? e with
      | some i => some (.r (.sl x i.size lo hi mx))
      | none => none
    | some x, some lo, some hi, some mx, some (.array k e) => match P.info? e with
      | some i => some (.p (.slA x k i.size lo hi mx))
      | none => none
    | some x, some lo, some hi, some none, some .string => some (.p (.vf (.ssl lo.isSome hi.isSome) (x :: (lo.toList ++ hi.toList))))
    | _, _, _, _, _ => none
  | .makeFunc fn first captured => match compXs n first.toList, compXs n captured.toList with
    | some f, some c => some (.p (.mkf fn f c))
    | _, _ => none
  | .makeInterface t x => match compX n x, P.underlying t with
    | some _, some (.interface _) => none
    | some x, some _ => some (.p (.mki t x))
    | _, _ => none
  | .load t x => match compX n x, shapeA P t with
    | some x, some sh => some (.r (.ld x sh))
    | _, _ => none
  | .lookup t x ix ok => match compX n x, compX n ix, P.underlying t with
    | some x, some ix, some (.map key elem) => match P.underlying key, P.info? elem with
      | some kd, some ie => match ie.zero with
        | some z => cond (flat z) (some (.r (.lk kd z x ix ok))) none
        | none => none
      | _, _ => none
    | _, _, _ => none
  | .convert src dst x => match compX n x, P.underlying src, P.underlying dst with
    | some x, some (.int _), some (.int k) => some (.r (.convI k x))
    | some x, some _, some _ => some (.r (.conv x o))
    | _, _, _ => none
  | .alloc e => (zeroA P e).map fun z => .a (.alloc z)
  | .box _ x => (compX n x).map fun x => .a (.box x)
  | .buildSlice t len parts => match P.underlying t, compPs n parts.toList with
    | some (.slice e), some ps => match zeroA P e, P.info? e with
      | some z, some i => cond (Nat.ble (len * i.size) 16777216) (some (.a (.bsl len i.size z ps))) none
      | _, _ => none
    | _, _ => none
  | .makeSlice t l c => match compX n l, compX n c, P.underlying t with
    | some l, some c, some (.slice e) => match zeroA P e, P.info? e with
      | some z, some i => cond (Nat.ble i.bytes 100000) (some (.a (.msl l c z))) none
      | _, _ => none
    | _, _, _ => none
  | .makeMap t r => match compO n r, P.underlying t with
    | some r, some (.map _ _) => some (.a (.mmap r))
    | _, _ => none
  | .store t x v => match compX n x, compX n v, P.info? t with
    | some x, some v, some i => some (.e (.st x v i.size))
    | _, _, _ => none
  | .mapUpdate t m k v => match compX n m, compX n k, compX n v, P.underlying t with
    | some m, some k, some v, some (.map key _) => (P.underlying key).map fun kd => .e (.upd kd m k v)
    | _, _, _, _ => none
  | .call c => match c.callee with
    | .value f => match compX n f, compXs n c.args.toList with
      | some f, some xs => some (.e (.call f xs))
      | _, _ => none
    | .builtin .append => match c.argTypes.toList, c.args.toList with
      | t :: u :: _, s :: x :: _ => match compX n s, compX n x, P.underlying t, P.underlying u with
        | some s, some x, some (.slice e), some ud => match zeroA P e, P.info? e with
          | some _, some i => (match ud with
            | .int _ => none
            | _ => cond (Nat.blt 0 i.size) (some (.e (.app s x i.size i.bytes))) none)
          | _, _ => none
        | _, _, _, _ => none
      | _, _ => none
    | .builtin .copy => match c.argTypes.toList, c.args.toList with
      | t :: _, s :: x :: _ => match compX n s, compX n x, P.underlying t with
        | some s, some x, some (.slice e) => (P.info? e).map fun i => .e (.copy s x i.size)
        | _, _, _ => none
      | _, _ => none
    | .builtin .len => match c.argTypes.toList, c.args.toList with
      | [t], [x] => match compX n x, P.underlying t with
        | some x, some (.slice _) => some (.r (.len x 0))
        | some x, some .string => some (.r (.len x 1))
        | some x, some (.map _ _) => some (.r (.len x 2))
        | _, _ => none
      | _, _ => none
    | .builtin .min => (compXs n c.args.toList).map fun xs => .p (.vf (.mm false) xs)
    | .builtin .max => (compXs n c.args.toList).map fun xs => .p (.vf (.mm true) xs)
    | .builtin .clear => match c.argTypes.toList, c.args.toList with
      | [t], [x] => match compX n x, P.underlying t with
        | some x, some (.map _ _) => some (.e (.clrM x))
        | some x, some (.slice e) => (zeroA P e).map fun z => .e (.clrS x z)
        | _, _ => none
      | _, _ => none
    | _ => none
  | _ => none
/-- What the executor does not cover stops it, if it is reached. -/
def compI (P : Program) (n : Nat) (o : Oper) : Option I :=
  match compI0 P n o with
  | some i => some i
  | none => some (.p (.vf .bad []))
theorem compI_inv {P : Program} {n : Nat} {o : Oper} {i : I} (h : compI P n o = some i) : compI0 P n o = some i ∨ i = .p (.vf .bad []) := by
  unfold compI at h
  split at h
  · cases h; exact .inl (by assumption)
  · cases h; exact .inr rfl

structure S where
  guard : Option (Nat × Bool)
  dst : Option Nat
  i : I

def compG (n : Nat) (ops : List Oper) : Option (Nat × Bool) → Option (Option (Nat × Bool))
  | none => some none
  | some (j, want) => match nth ops j with
    | some o => match o.dst with
      | some t => cond (Nat.blt t n) (some (some (t, want))) none
      | none => none
    | none => none
def compD (n : Nat) : Option Tmp → Option (Option Nat)
  | none => some none
  | some t => cond (Nat.blt t n) (some (some t)) none
def compS (P : Program) (n : Nat) (ops : List Oper) (o : Oper) : Option S :=
  match compG n ops o.guard, compD n o.dst, compI P n o with
  | some g, some d, some i => some ⟨g, d, i⟩
  | _, _, _ => none
def compSs (P : Program) (n : Nat) (ops : List Oper) : List Oper → Option (List S)
  | [] => some []
  | o :: l => match compS P n ops o, compSs P n ops l with
    | some s, some l => some (s :: l)
    | _, _ => none

/-! A region that draws its order. -/

/-- For each operation the set (bits) of the operations that must come before it. -/
def maskOf (acc : List Nat) (es : List Edge) (m : Nat) : Nat :=
  match es with
  | [] => m
  | e :: es => cond (Region.binds .any e)
    (maskOf acc es (m ||| 2 ^ e.on ||| (match nth acc e.on with | some x => x | none => 0)))
    (maskOf acc es m)
def masksK {β : Type} (acc : List Nat) (ops : List Oper) (f : List Nat → β) : β :=
  match ops with
  | [] => f acc
  | o :: ops => forceN (maskOf acc o.after.toList 0) fun m => masksK (acc ++ [m]) ops f
def masks (ops : List Oper) : List Nat := masksK [] ops id

def mBit (ms : List Nat) (i j : Nat) : Bool :=
  match nth ms i with
  | some m => Nat.testBit m j
  | none => false

def looks (ops : List Oper) (o : Oper) : List Tmp :=
  (o.op.operands.toList.filterMap fun x => match x with | .tmp t => some t | _ => none) ++
  (match o.guard with
   | some (g, _) => match nth ops g with
     | some o => o.dst.toList
     | none => []
   | none => [])

/-- No slot is written twice; whoever looks at a slot that the region writes stands before or behind the writer. -/
def slotsOk (ms : List Nat) (ops : List Oper) : List Oper → Nat → Bool
  | [], _ => true
  | o :: rest, i =>
    (ops.zipIdx.all fun (oj, j) => match oj.dst with
      | none => true
      | some d => Nat.beq i j || ((!(o.dst == some d)) && (!((looks ops o).contains d) || mBit ms i j || mBit ms j i))) &&
    (match o.guard with
     | none => true
     | some (g, _) => mBit ms i g && Nat.blt g i) &&
    (match o.dst with
     | none => true
     | some d => !(looks ops o).contains d) &&
    o.after.toList.all (fun e => !Region.binds .any e || Nat.blt e.on i) &&
    slotsOk ms ops rest (i + 1)

structure Rd where
  i : Nat
  r : IR
  T : Tree Value
  v : Value

/-- Was block j merged by one of these stages? -/
def merged (ms : List Nat) (es : List Nat) (j : Nat) : Bool := es.any fun e => mBit ms e j

/-- The heap that operation i sees at a stage: with the blocks that must be there. -/
noncomputable def seesK {β : Type} (ms : List Nat) (N : Nat) (es : List Nat) (i : Nat) (H : Heap) (f : Heap → β) : List (Nat × Blk) → β
  | [] => f H
  | (j, b) :: as => cond (mBit ms i j && !merged ms es j)
    (hsK H (N + j) (some b) fun H => seesK ms N es i H f as)
    (seesK ms N es i H f as)

mutual
def veq : Nat → Value → Value → Bool
  | 0, _, _ => false
  | n + 1, x, y => match x, y with
    | .bool a, .bool b => a == b
    | .int j a, .int k b => eqK j k && eqI a b
    | .float j a, .float k b => decide (j = k) && Nat.beq a b
    | .string a, .string b => decide (a = b)
    | .pointer a, .pointer b => decide (a = b)
    | .slice a l c, .slice a' l' c' => decide (a = a') && Nat.beq l l' && Nat.beq c c'
    | .map a, .map b => decide (a = b)
    | .nilFunc, .nilFunc => true
    | .nilIface, .nilIface => true
    | .func f x y, .func f' x' y' => decide (f = f') && veqs n x.toList x'.toList && veqs n y.toList y'.toList
    | .iface t v, .iface t' v' => Nat.beq t t' && veq n v v'
    | .agg a, .agg b => veqs n a.toList b.toList
    | .tuple a, .tuple b => veqs n a.toList b.toList
    | _, _ => false
def veqs : Nat → List Value → List Value → Bool
  | 0, _, _ => false
  | n + 1, x, y => match x, y with
    | [], [] => true
    | a :: x, b :: y => veq n a b && veqs n x y
    | _, _ => false
end

/-- A reading is the same at every stage at which it may stand ('es': the stages so far, the last first; 'Ms': the heaps before each). -/
noncomputable def sameRd (P : Program) (ms : List Nat) (N : Nat) (as : List (Nat × Blk)) (r : Rd) : List Nat → List Heap → Heap → List Nat → Bool
  | es, Ms, M, later =>
    (cond (es.any (fun e => mBit ms e r.i) || later.any (fun e => mBit ms r.i e)) true
      (seesK ms N es r.i M (fun h => evR P r.r r.T h false fun v => veq 64 v r.v) as)) &&
    (match es, Ms with
     | e :: es', M' :: Ms' => cond (mBit ms r.i e) true (sameRd P ms N as r es' Ms' M' (e :: later))
     | [], [] => true
     | _, _ => false)

noncomputable def mergeK {β : Type} (ms : List Nat) (N : Nat) (es : List Nat) (H : Heap) (f : Heap → β) : List (Nat × Blk) → β
  | [] => f H
  | (j, b) :: as => cond (merged ms es j) (mergeK ms N es H f as) (hsK H (N + j) (some b) fun H => mergeK ms N es H f as)

noncomputable def putK {β : Type} (d : Nat) (dst : Option Nat) (v : Value) (T : Tree Value) (k : Tree Value → β) : β :=
  match dst with
  | none => k T
  | some t => tsK d T t v k

/-- Is the operation wanted? -/
noncomputable def wantK {β : Type} (g : Option (Nat × Bool)) (T : Tree Value) (z yes no : β) : β :=
  match g with
  | none => yes
  | some (t, want) => tgK T t no fun v => match v with
    | .bool b => ifK (cond b want (!want)) yes no
    | .chan _ => z
    | _ => no

noncomputable def drawK {β : Type} (P : Program) (d : Nat) (call : CallT β) (ms : List Nat) (N : Nat) (z : β)
    (k : Tree Value → Heap → Nat → List Heap → List Nat → List (Nat × Blk) → List Rd → β) :
    List S → Nat → Tree Value → Heap → Nat → List Heap → List Nat → List (Nat × Blk) → List Rd → β
  | [], _, T, H, nx, Ms, es, as, rs => k T H nx Ms es as rs
  | ⟨g, dst, op⟩ :: l, i, T, H, nx, Ms, es, as, rs => wantK g T z
    (match op with
     | .p op => evP P op T z fun v => putK d dst v T fun T => drawK P d call ms N z k l (i + 1) T H nx Ms es as rs
     | .r op => seesK ms N es i H (fun h => evR P op T h z fun v => putK d dst v T fun T' => drawK P d call ms N z k l (i + 1) T' H nx Ms es as (⟨i, op, T, v⟩ :: rs)) as
     | .a op => evA op T z fun b y => forceN (N + i) fun q => forceV (y.val q) fun v => putK d dst v T fun T => drawK P d call ms N z k l (i + 1) T H nx Ms es ((i, b) :: as) rs
     | .e op => cond (es.all fun e => mBit ms i e)
       (seesK ms N es i H (fun h => evE op call T h nx z fun v H' nx => putK d dst v T fun T => drawK P d call ms N z k l (i + 1) T H' nx (H :: Ms) (i :: es) as rs) as) z)
    (putK d dst undef T fun T => drawK P d call ms N z k l (i + 1) T H nx Ms es as rs)

/-! Code. -/

inductive C where
  | skip
  | ops (l : List S)
  | draw (ms : List Nat) (l : List S)
  | seq (a b : C)
  | cond (x : X) (t e : C)
  | block (id : Nat) (c : C)
  | loop (c : C)
  | exit (id : Nat)
  | ret

def compC (P : Program) (n : Nat) : Code → Option C
  | .skip | .label _ => some .skip
  | .region _ ops draw => match compSs P n ops.toList ops.toList with
    | some l => (match draw with
      | false => some (.ops l)
      | true => cond (slotsOk (masks ops.toList) ops.toList ops.toList 0) (some (.draw (masks ops.toList) l)) none)
    | none => none
  | .seq a b => match compC P n a, compC P n b with
    | some a, some b => some (.seq a b)
    | _, _ => none
  | .cond x t e => match compX n x, compC P n t, compC P n e with
    | some x, some t, some e => some (.cond x t e)
    | _, _, _ => none
  | .block id c => (compC P n c).map (.block id)
  | .loop c => (compC P n c).map .loop
  | .scope c => compC P n c
  | .exit id => some (.exit id)
  | .ret => some .ret
  | _ => none

-- HOT
noncomputable def runP {β : Type} (i : IP) (P : Program) (d : Nat) (dst : Option Nat) (_ : CallT β) (T : Tree Value) (H : Heap) (nx : Nat) (z : β) (k : Tree Value → Heap → Nat → β) : β :=
  evP P i T z fun v => putK d dst v T fun T => k T H nx
noncomputable def runR {β : Type} (i : IR) (P : Program) (d : Nat) (dst : Option Nat) (_ : CallT β) (T : Tree Value) (H : Heap) (nx : Nat) (z : β) (k : Tree Value → Heap → Nat → β) : β :=
  evR P i T H z fun v => putK d dst v T fun T => k T H nx
noncomputable def newK {β : Type} (d : Nat) (dst : Option Nat) (T : Tree Value) (H : Heap) (nx : Nat) (k : Tree Value → Heap → Nat → β) (b : Blk) (y : Yld) : β :=
  hsK H nx (some b) fun H => forceN (nx + 1) fun n => force1 (y.val nx) fun v => putK d dst v T fun T => k T H n
noncomputable def runAl {β : Type} (i : IA) (_ : Program) (d : Nat) (dst : Option Nat) (_ : CallT β) (T : Tree Value) (H : Heap) (nx : Nat) (z : β) (k : Tree Value → Heap → Nat → β) : β :=
  evA i T z (newK d dst T H nx k)
noncomputable def runE {β : Type} (i : IE) (_ : Program) (d : Nat) (dst : Option Nat) (call : CallT β) (T : Tree Value) (H : Heap) (nx : Nat) (z : β) (k : Tree Value → Heap → Nat → β) : β :=
  evE i call T H nx z fun v H nx => putK d dst v T fun T => k T H nx
noncomputable def runI {β : Type} (i : I) : Program → Nat → Option Nat → CallT β → Tree Value → Heap → Nat → β → (Tree Value → Heap → Nat → β) → β :=
  @I.rec (fun _ => Program → Nat → Option Nat → CallT β → Tree Value → Heap → Nat → β → (Tree Value → Heap → Nat → β) → β) runP runR runAl runE i
noncomputable def stepS {β : Type} (P : Program) (d : Nat) (call : CallT β) (s : S) (T : Tree Value) (H : Heap) (nx : Nat) (z : β) (k : Tree Value → Heap → Nat → β) : β :=
  @S.rec (fun _ => β) (fun g dst op => wantK g T z (runI op P d dst call T H nx z k) (putK d dst undef T fun T => k T H nx)) s
noncomputable def opsK {β : Type} (P : Program) (d : Nat) (call : CallT β) (z : β) (k : Tree Value → Heap → Nat → β) (l : List S) : Tree Value → Heap → Nat → β :=
  @List.rec S (fun _ => Tree Value → Heap → Nat → β) k (fun s _ ih T H nx => stepS P d call s T H nx z ih) l
/-- What comes behind: the code's end, an exit, a return. -/
abbrev K (β : Type) := Tree Value → Heap → Nat → β
/-- The look at a region's readings; the loop. -/
abbrev ChkT (β : Type) := List Nat → Nat → List (Nat × Blk) → List Rd → List Nat → List Heap → Heap → β → β → β
abbrev FixT (β : Type) := β → (K β → K β) → K β
noncomputable def chkB {β : Type} (P : Program) : ChkT β := fun ms N as rs es Ms H y z => cond (rs.all fun r => sameRd P ms N as r es Ms H []) y z
noncomputable def fixN {β : Type} (m : Nat) : FixT β := fun z f => @Nat.rec (fun _ => K β) (fun _ _ _ => z) (fun _ ih => f ih) m
noncomputable def drawC {β : Type} (P : Program) (d : Nat) (call : CallT β) (chk : ChkT β) (z : β) (ms : List Nat) (l : List S) (T : Tree Value) (H : Heap) (nx : Nat) (k : K β) : β :=
  forceN (nx + l.length) fun nx' =>
    drawK P d call ms nx z (fun T H n Ms es as rs => chk ms nx as rs es Ms H (mergeK ms nx es H (fun H => k T H n) as) z) l 0 T H nx' [] [] [] []
noncomputable def cOps {β : Type} (l : List S) (P : Program) (d : Nat) (call : CallT β) (_ : ChkT β) (_ : FixT β) (z : β) (T : Tree Value) (H : Heap) (nx : Nat) (k : K β) (_ : Nat → K β) (_ : K β) : β :=
  opsK P d call z k l T H nx
noncomputable def cDraw {β : Type} (ms : List Nat) (l : List S) (P : Program) (d : Nat) (call : CallT β) (chk : ChkT β) (_ : FixT β) (z : β) (T : Tree Value) (H : Heap) (nx : Nat) (k : K β) (_ : Nat → K β) (_ : K β) : β :=
  drawC P d call chk z ms l T H nx k
abbrev CK (β : Type) := Program → Nat → CallT β → ChkT β → FixT β → β → Tree Value → Heap → Nat → K β → (Nat → K β) → K β → β
noncomputable def cSeq {β : Type} (_ _ : C) (a b : CK β) (P : Program) (d : Nat) (call : CallT β) (chk : ChkT β) (fx : FixT β) (z : β) (T : Tree Value) (H : Heap) (nx : Nat) (k : K β) (x : Nat → K β) (r : K β) : β :=
  a P d call chk fx z T H nx (fun T H nx => b P d call chk fx z T H nx k x r) x r
noncomputable def cCond {β : Type} (c : X) (_ _ : C) (t e : CK β) (P : Program) (d : Nat) (call : CallT β) (chk : ChkT β) (fx : FixT β) (z : β) (T : Tree Value) (H : Heap) (nx : Nat) (k : K β) (x : Nat → K β) (r : K β) : β :=
  evK T c fun v => match v with
    | .bool b => ifK b (t P d call chk fx z T H nx k x r) (e P d call chk fx z T H nx k x r)
    | _ => z
noncomputable def cBlock {β : Type} (id : Nat) (_ : C) (c : CK β) (P : Program) (d : Nat) (call : CallT β) (chk : ChkT β) (fx : FixT β) (z : β) (T : Tree Value) (H : Heap) (nx : Nat) (k : K β) (x : Nat → K β) (r : K β) : β :=
  c P d call chk fx z T H nx k (fun id' T H nx => cond (Nat.beq id' id) (k T H nx) (x id' T H nx)) r
noncomputable def cLoop {β : Type} (_ : C) (c : CK β) (P : Program) (d : Nat) (call : CallT β) (chk : ChkT β) (fx : FixT β) (z : β) (T : Tree Value) (H : Heap) (nx : Nat) (_ : K β) (x : Nat → K β) (r : K β) : β :=
  fx z (fun ih T H nx => c P d call chk fx z T H nx ih x r) T H nx
noncomputable def execC {β : Type} (c : C) : CK β :=
  @C.rec (fun _ => CK β)
    (fun _ _ _ _ _ _ T H nx k _ _ => k T H nx)
    cOps cDraw cSeq cCond cBlock cLoop
    (fun id _ _ _ _ _ _ T H nx _ x _ => x id T H nx)
    (fun _ _ _ _ _ _ T H nx _ _ r => r T H nx) c
-- COLD

def compR (P : Program) (n : Nat) : List ResultVar → Option (List (X × Option (Option Nat)))
  | [] => some []
  | r :: rs => match (match r with
      | .tmp t => cond (Nat.blt t n) (some (X.s t, none)) none
      | .cell a t => cond (Nat.blt a n) ((shapeA P t).map fun sh => (X.s a, some sh)) none), compR P n rs with
    | some r, some rs => some (r :: rs)
    | _, _ => none

structure CF where
  n : Nat
  d : Nat
  body : C
  res : List (X × Option (Option Nat))

def cfn (P : Program) (f : FuncId) : Option CF :=
  match nth P.funcs.toList f with
  | some fn => match fn.body with
    | some c => match compC P fn.ntmps c, compR P fn.ntmps fn.results.toList with
      | some body, some res => some ⟨fn.ntmps, Nat.log2 fn.ntmps + 1, body, res⟩
      | _, _ => none
    | none => none
  | none => none

noncomputable def resK {β : Type} (P : Program) (T : Tree Value) (H : Heap) (z : β) (k : List Value → β) : List (X × Option (Option Nat)) → β
  | [] => k []
  | (x, sh) :: rs => match sh with
    | none => evK T x fun v => resK P T H z (fun vs => k (v :: vs)) rs
    | some sh => evR P (.ld x sh) T H z fun v => resK P T H z (fun vs => k (v :: vs)) rs
def tup (vs : List Value) : Value :=
  match vs with
  | [v] => v
  | vs => .tuple ⟨vs⟩

noncomputable def initT {β : Type} (d : Nat) (l : List Value) (i : Nat) (T : Tree Value) (f : Tree Value → β) : β :=
  match l with
  | [] => f T
  | v :: l => tsK d T i v fun T => initT d l (i + 1) T f

abbrev Orc := FuncId → Option (List Value → Heap → Nat → Option (Value × Heap × Nat))

-- HOT
noncomputable def retK {β : Type} (P : Program) (res : List (X × Option (Option Nat))) (z : β) (k : Value → Heap → Nat → β) (T : Tree Value) (H : Heap) (nx : Nat) : β :=
  resK P T H z (fun vs => forceV (tup vs) fun v => k v H nx) res
noncomputable def bodyK {β : Type} (P : Program) (call : CallT β) (chk : ChkT β) (fx : FixT β) (args : List Value) (H : Heap) (nx : Nat) (z : β) (k : Value → Heap → Nat → β) (n d : Nat) (body : C) (res : List (X × Option (Option Nat))) : β :=
  cond (Nat.ble args.length n)
    (initT d args 0 .leaf fun T => execC body P d call chk fx z T H nx (retK P res z k) (fun _ _ _ _ => z) (retK P res z k)) z
noncomputable def callN {β : Type} (P : Program) (orc : Orc) (n : Nat) : CallT β :=
  @Nat.rec (fun _ => CallT β) (fun _ _ _ _ z _ => z)
    (fun _ ih f args H nx z k => match orc f with
      | some o => (match o args H nx with
        | some (v, H, nx) => k v H nx
        | none => z)
      | none => match cfn P f with
        | some ⟨n, d, body, res⟩ => bodyK P ih (chkB P) (fixN 1000000) args H nx z k n d body res
        | none => z) n
-- COLD

def noOrc : Orc := fun _ => none

noncomputable def runA (P : Program) (orc : Orc) (n : Nat) (f : FuncId) (args : List Value) : Option Value :=
  callN P orc n f args .leaf 0 none fun v _ _ => some v
end Go.Clo
