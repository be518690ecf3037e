/-
  The executor as a claim: what each operation asks, value by value.
-/
import Derived.Test.YtdecggbglnbhlaaGreatDoorCloS
set_option linter.unusedSimpArgs false
set_option linter.unusedVariables false
set_option linter.unusedSectionVars false
namespace Go.Clo

abbrev VP := Value → Prop
abbrev EP := Value → Heap → Nat → Prop

noncomputable def wPick (c a b : Value) (k : VP) : Prop := match c with
  | .bool t => ifK t (k a) (k b)
  | _ => False
noncomputable def wBin (op : BinOp) (x y : Value) (k : VP) : Prop := binVK op x y False k
noncomputable def wUn (op : UnOp) (x : Value) (k : VP) : Prop := optK (unV op x) False k
noncomputable def wVf (f : VF) (xs : List Value) (k : VP) : Prop := optK (f.ev xs) False k
noncomputable def wFld (v : Value) (off : Nat) (k : VP) : Prop := match v with
  | .pointer (some a) => offK (a.off + off) a k
  | _ => False
noncomputable def wIdx (v vi : Value) (len : Option Nat) (size : Nat) (k : VP) : Prop := match vi with
  | .int _ (.ofNat i) => pIdx2 len size i False k v
  | _ => False
noncomputable def wNilc (v : Value) (k : VP) : Prop := match v with
  | .pointer (some a) => k (.pointer (some a))
  | _ => False
noncomputable def wExt (v : Value) (i : Nat) (k : VP) : Prop := match v with
  | .tuple vs => nthK vs.toList i False k
  | _ => False
noncomputable def wPart (v : Value) (off : Nat) (size : Option Nat) (k : VP) : Prop := match v with
  | .agg cs => cutK cs.toList off size False k
  | _ => False
noncomputable def wAidx (v vi : Value) (len size : Nat) (agg : Bool) (k : VP) : Prop := match vi with
  | .int _ (.ofNat i) => (match v with
    | .agg cs => cond (Nat.blt i len) (cutK cs.toList (i * size) (cond agg (some size) none) False k) False
    | _ => False)
  | _ => False
noncomputable def wBuild (z : List Value) (pl : List (Nat × Nat)) (vs : List (Nat × Value)) (k : VP) : Prop := match fillA (nth pl) z vs with
  | some cs => spine cs fun cs => k (.agg ⟨cs⟩)
  | none => False
noncomputable def wSlA (v : Value) (n size : Nat) (lo hi mx : Option Value) (k : VP) : Prop := match v with
  | .pointer (some a) => (match sliceA (some a) n n size lo hi mx false with
    | some r => force1 r k
    | none => False)
  | _ => False
noncomputable def wLd (v : Value) (size : Option Nat) (H : Heap) (k : VP) : Prop := match v with
  | .pointer (some ⟨b, o, none⟩) => getB H b False (ldB o size False k)
  | _ => False
noncomputable def wLk (kd : TypeDesc) (zero v vi : Value) (ok : Bool) (H : Heap) (k : VP) : Prop := cond (keyKind kd vi)
    ((fun (es : List MapEntry → Prop) => match v with
      | .map none => es []
      | .map (some r) => getB H r False fun b => match b with
        | .map l _ => es l
        | _ => False
      | _ => False) fun l => match Instr.findNow kd vi l 0 with
        | some (some (_, v)) => cond ok (k (.tuple ⟨[v, .bool true]⟩)) (k v)
        | some none => cond ok (k (.tuple ⟨[zero, .bool false]⟩)) (k zero)
        | none => False) False
noncomputable def wLen (v : Value) (kd : Nat) (H : Heap) (k : VP) : Prop := match kd, v with
    | 0, .slice _ n _ => k (.int .i64 (.ofNat n))
    | 1, .string s => forceN s.size fun n => k (.int .i64 (.ofNat n))
    | 2, .map none => k (.int .i64 (.ofNat 0))
    | 2, .map (some r) => getB H r False fun b => match b with
      | .map l _ => forceN l.length fun n => k (.int .i64 (.ofNat n))
      | _ => False
    | _, _ => False
noncomputable def wConv (kd : IntKind) (v : Value) (k : VP) : Prop := match v with
    | .int _ n => cond (fits kd n) (k (.int kd n)) (forceI (kd.wrap n) fun n => k (.int kd n))
    | _ => False
noncomputable def wSl (v : Value) (size : Nat) (lo hi mx : Option Value) (H : Heap) (k : VP) : Prop := match v with
    | .slice none len cap => (match sliceA none len cap size lo hi mx false with
      | some r => force1 r k
      | none => False)
    | .slice (some a) len cap => getB H a.block False (slB a len cap size lo hi mx False k)
    | _ => False
noncomputable def wNew (b : Blk) (y : Yld) (H : Heap) (nx : Nat) (k : EP) : Prop :=
  hsK H nx (some b) fun H => forceN (nx + 1) fun n => force1 (y.val nx) fun v => k v H n
noncomputable def dBox (v : Value) (k : List Value → Prop) : Prop := cond (oneCells v.cells.toList) (spine v.cells.toList k) False
noncomputable def dBsl (len size : Nat) (z : List Value) (vs : List (Nat × Value)) (k : List Value → Prop) : Prop :=
  match fillA (fun k => some (k * size, size)) (repeatA z len) vs with
    | some cs => cond (oneCells cs) (spine cs k) False
    | none => False
noncomputable def dMsl (vl vc : Value) (z : List Value) (k : List Value → Nat → Nat → Prop) : Prop := match vl, vc with
    | .int .i64 (.ofNat l), .int .i64 (.ofNat c) => cond (Nat.ble l c && Nat.ble c 1000000) (spine (repeatA z c) fun cs => k cs l c) False
    | _, _ => False
noncomputable def dMmap (x : Option Value) (k : Prop) : Prop := match x with
    | none => k
    | some (.int _ _) => k
    | _ => False
noncomputable def wNm (nx i : Nat) (y : Yld) (k : VP) : Prop := forceN (nx + i) fun q => forceV (y.val q) k
noncomputable def wSt (p v : Value) (size : Nat) (H : Heap) (k : Heap → Prop) : Prop := match p with
    | .pointer (some a) => cond (Nat.beq v.cells.toList.length size && oneCells v.cells.toList) (putCK H a v.cells.toList False k) False
    | _ => False
noncomputable def wUpd (kd : TypeDesc) (m key v : Value) (H : Heap) (nx : Nat) (k : EP) : Prop := match m with
    | .map (some r) => getB H r False (updK kd H nx r key v False k)
    | _ => False
noncomputable def wCall (P : Program) (f : FuncId) (args : List Value) (H : Heap) (nx : Nat) (k : EP) : Prop := callP P f args H nx False k
noncomputable def wCallV (P : Program) (f : Value) (args : List Value) (H : Heap) (nx : Nat) (k : EP) : Prop := match f with
    | .func (.func g) ⟨first⟩ ⟨cap⟩ => spine (first ++ args ++ cap) fun vs => callP P g vs H nx False k
    | _ => False
noncomputable def wApp (s x : Value) (size bytes : Nat) (H : Heap) (nx : Nat) (k : EP) : Prop := appK H nx size bytes s x False k
noncomputable def wCopy (d s : Value) (size : Nat) (H : Heap) (nx : Nat) (k : EP) : Prop := match d, lenA s with
    | .slice base dLen _, some m => forceN (Nat.min m dLen) fun n => firstK H size n s False fun cs => cond (oneCells cs) (match base with
      | none => k (.int .i64 (.ofNat n)) H nx
      | some a => putCK H a cs False fun H => k (.int .i64 (.ofNat n)) H nx) False
    | _, _ => False
noncomputable def wClrM (v : Value) (H : Heap) (k : Heap → Prop) : Prop := match v with
    | .map none => k H
    | .map (some r) => getB H r False fun b => match b with
      | .map _ clock => hsK H r (some (.map [] clock)) k
      | _ => False
    | _ => False
noncomputable def wClrS (v : Value) (zero : List Value) (H : Heap) (k : Heap → Prop) : Prop := match v with
    | .slice none _ _ => k H
    | .slice (some a) n _ => cond (Nat.beq n 0) (k H) (cond (oneCells (repeatA zero n)) (putCK H a (repeatA zero n) False k) False)
    | _ => False
noncomputable def wGuard (want : Bool) (v : Value) (yes no : Prop) : Prop := match v with
    | .bool b => ifK (cond b want (!want)) yes no
    | _ => False
end Go.Clo
