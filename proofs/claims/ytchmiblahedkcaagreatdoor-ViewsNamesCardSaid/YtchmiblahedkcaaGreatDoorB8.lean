/-
  Marked code out of the program itself: where a sequence is a join and what a loop carries is given; the rest is computed.
-/
import Derived.Test.YtchmiblahedkcaaGreatDoorB3
import Derived.KernelRfl
set_option linter.all false
namespace Go.Clo
def sameG : Option (Nat × Bool) → Option (Nat × Bool) → Bool
  | none, none => true
  | some (a, x), some (b, y) => Nat.beq a b && (cond x y (!y))
  | _, _ => false
def ownG : Option (Nat × Bool) → Option Nat → Bool
  | some (a, _), some b => Nat.beq a b
  | _, _ => false
def grpA (g : Option (Nat × Bool)) (cur : List S) : List S → List G
  | [] => [(g, cur.reverse)]
  | s :: l => cond (sameG g s.guard && !(ownG g s.dst)) (grpA g (⟨none, s.dst, s.i⟩ :: cur) l) ((g, cur.reverse) :: grpA s.guard [⟨none, s.dst, s.i⟩] l)
def grp : List S → List G
  | [] => []
  | s :: l => grpA s.guard [⟨none, s.dst, s.i⟩] l
def memN (x : Nat) : List Nat → Bool
  | [] => false
  | y :: l => Nat.beq x y || memN x l
def dsOf (ws : List Nat) : List Nat → List Nat → List Nat
  | acc, [] => acc
  | acc, x :: l => cond (memN x ws || memN x acc) (dsOf ws acc l) (dsOf ws (x :: acc) l)
/-- Code with its marks: the joins (by their place), what the loops carry, the paths of the guarded regions. -/
def markK {β : Type} : C → Nat → List (Nat × List Nat) → List (List Nat) → List HT → (D → Nat → List (Nat × List Nat) → List (List Nat) → List HT → β) → β
  | .skip, n, js, ls, hs, k => k .skip n js ls hs
  | .ops l, n, js, ls, hs, k => match grp l with
    | [] => k (.ops [] .nil) n js ls hs
    | [(none, m)] => k (.ops [(none, m)] (.one .nil)) n js ls hs
    | gs => match hs with
      | h :: hs => k (.ops gs h) n js ls hs
      | [] => k (.ops gs .nil) n js ls hs
  | .draw ms l, n, js, ls, hs, k => match grp l with
    | [] => k (.draw ms [] .nil) n js ls hs
    | [(none, m)] => k (.draw ms [(none, m)] (.one .nil)) n js ls hs
    | gs => match hs with
      | h :: hs => k (.draw ms gs h) n js ls hs
      | [] => k (.draw ms gs .nil) n js ls hs
  | .seq a b, n, js, ls, hs, k => match js with
    | [] => markK a (n + 1) [] ls hs fun a n js ls hs => markK b n js ls hs fun b n js ls hs => k (.seq a b) n js ls hs
    | (i, ws) :: r => cond (Nat.beq i n)
        (markK a (n + 1) r ls hs fun a n js ls hs => markK b n js ls hs fun b n js ls hs => k (.join ws (dsOf ws [] a.writes) a b) n js ls hs)
        (markK a (n + 1) js ls hs fun a n js ls hs => markK b n js ls hs fun b n js ls hs => k (.seq a b) n js ls hs)
  | .cond x t e, n, js, ls, hs, k => markK t n js ls hs fun t n js ls hs => markK e n js ls hs fun e n js ls hs => k (.cond x t e) n js ls hs
  | .block id c, n, js, ls, hs, k => markK c n js ls hs fun c n js ls hs => k (.block id c) n js ls hs
  | .loop c, n, js, ls, hs, k => match ls with
    | ws :: ls => markK c n js ls hs fun c n js ls hs => k (.loop ws (dsOf ws [] c.writes) c) n js ls hs
    | [] => markK c n js [] hs fun c n js ls hs => k (.loop [] c.writes c) n js ls hs
  | .exit id, n, js, ls, hs, k => k (.exit id) n js ls hs
  | .ret, n, js, ls, hs, k => k .ret n js ls hs
noncomputable def mkD (P : Program) (f : FuncId) (js : List (Nat × List Nat)) (ls : List (List Nat)) (hs : List HT) : D := match cfn P f with
  | some c => markK c.body 0 js ls hs fun d _ _ _ _ => d
  | none => .skip
theorem spec_go {P : Program} (hm : P.follows .mixedOrders = true) (hNG : NamesOK P) {f : FuncId} (n d : Nat) (body : D) (res : List (X × Option (Option Nat))) (hcf : cfn P f = some ⟨n, d, body.erase, res⟩) (hok : body.ok n d = true)
    {args : List Value} (hl : args.length ≤ n) {H : Heap} {nx : Nat} {Q : Value → Heap → Nat → Prop} {F : Prop} (he : wBody P n d body res args H nx Q = F) (h : F) : Ans P f args H nx Q :=
  spec_of_body hm hNG hcf hok hl (he.symm ▸ h)
noncomputable def cN (P : Program) (f : FuncId) : Nat := match cfn P f with
  | some c => c.n
  | none => 0
noncomputable def cR (P : Program) (f : FuncId) : List (X × Option (Option Nat)) := match cfn P f with
  | some c => c.res
  | none => []
theorem spec_at {P : Program} (hm : P.follows .mixedOrders = true) (hNG : NamesOK P) {f : FuncId} {args : List Value} {H : Heap} {nx : Nat} {Q : Value → Heap → Nat → Prop} {F : Prop} {js : List (Nat × List Nat)} {ls : List (List Nat)} {hs : List HT}
    (hc : cfn P f = some ⟨cN P f, Nat.log2 (cN P f) + 1, (mkD P f js ls hs).erase, cR P f⟩) (hok : (mkD P f js ls hs).ok (cN P f) (Nat.log2 (cN P f) + 1) = true) (hl : Nat.ble args.length (cN P f) = true)
    (he : wBody P (cN P f) (Nat.log2 (cN P f) + 1) (mkD P f js ls hs) (cR P f) args H nx Q = F) (h : F) : Ans P f args H nx Q :=
  spec_of_body hm hNG hc hok (Nat.le_of_ble_eq_true hl) (he.symm ▸ h)
noncomputable def wFl (v : Value) (o : Nat) (H : Heap) (k : Value → VP) : Prop := wFld v o fun a => wLd a none H (k a)
theorem wFl_eq (v : Value) (o : Nat) (H : Heap) (k : Value → VP) : wFl v o H k = wFld v o fun a => wLd a none H (k a) := rfl
noncomputable def wFls (v : Value) (o s : Nat) (H : Heap) (k : Value → VP) : Prop := wFld v o fun a => wLd a (some s) H (k a)
theorem wFls_eq (v : Value) (o s : Nat) (H : Heap) (k : Value → VP) : wFls v o s H k = wFld v o fun a => wLd a (some s) H (k a) := rfl
noncomputable def wIx (v i : Value) (H : Heap) (k : Value → VP) : Prop := wIdx v i none 1 fun a => wLd a none H (k a)
theorem wIx_eq (v i : Value) (H : Heap) (k : Value → VP) : wIx v i H k = wIdx v i none 1 fun a => wLd a none H (k a) := rfl
noncomputable def wIxs (v i : Value) (s : Nat) (H : Heap) (k : Value → VP) : Prop := wIdx v i none s fun a => wLd a (some s) H (k a)
theorem wIxs_eq (v i : Value) (s : Nat) (H : Heap) (k : Value → VP) : wIxs v i s H k = wIdx v i none s fun a => wLd a (some s) H (k a) := rfl
noncomputable def wBox (v : Value) (H : Heap) (nx : Nat) (k : EP) : Prop := dBox v fun c => wNew (.cells c 0) .ptr H nx k
theorem wBox_eq (v : Value) (H : Heap) (nx : Nat) (k : EP) : wBox v H nx k = dBox v fun c => wNew (.cells c 0) .ptr H nx k := rfl
noncomputable def wBsl (n s : Nat) (z : List Value) (vs : List (Nat × Value)) (H : Heap) (nx : Nat) (k : EP) : Prop := dBsl n s z vs fun c => wNew (.cells c 0) (.slice n n) H nx k
theorem wBsl_eq (n s : Nat) (z : List Value) (vs : List (Nat × Value)) (H : Heap) (nx : Nat) (k : EP) : wBsl n s z vs H nx k = dBsl n s z vs fun c => wNew (.cells c 0) (.slice n n) H nx k := rfl
noncomputable def wMsl (a b : Value) (z : List Value) (H : Heap) (nx : Nat) (k : EP) : Prop := dMsl a b z fun c l m => wNew (.cells c 0) (.slice l m) H nx k
theorem wMsl_eq (a b : Value) (z : List Value) (H : Heap) (nx : Nat) (k : EP) : wMsl a b z H nx k = dMsl a b z fun c l m => wNew (.cells c 0) (.slice l m) H nx k := rfl
noncomputable def wAl (z : List Value) (H : Heap) (nx : Nat) (k : EP) : Prop := wNew (.cells z 0) .ptr H nx k
theorem wAl_eq (z : List Value) (H : Heap) (nx : Nat) (k : EP) : wAl z H nx k = wNew (.cells z 0) .ptr H nx k := rfl
noncomputable def Rt (v : Value) (H : Heap) (nx : Nat) (k : EP) : Prop := forceV v fun u => k u H nx
theorem Rt_eq (v : Value) (H : Heap) (nx : Nat) (k : EP) : Rt v H nx k = forceV v fun u => k u H nx := rfl
noncomputable def cE (t : Value) (m : Option Nat) (H : Heap) (v : Value) : Prop := wLd t m H fun q => q = v
theorem cE_eq (t : Value) (m : Option Nat) (H : Heap) (v : Value) : cE t m H v = wLd t m H fun q => q = v := rfl
noncomputable def z32 : List Value := [.int .u32 0, .int .u32 0, .int .u32 0, .int .u32 0, .int .u32 0, .int .u32 0, .int .u32 0, .int .u32 0, .int .u32 0, .int .u32 0, .int .u32 0, .int .u32 0, .int .u32 0, .int .u32 0, .int .u32 0, .int .u32 0, .int .u32 0, .int .u32 0, .int .u32 0, .int .u32 0, .int .u32 0, .int .u32 0, .int .u32 0, .int .u32 0, .int .u32 0, .int .u32 0, .int .u32 0, .int .u32 0, .int .u32 0, .int .u32 0, .int .u32 0, .int .u32 0]
theorem z32_eq : z32 = ([.int .u32 0, .int .u32 0, .int .u32 0, .int .u32 0, .int .u32 0, .int .u32 0, .int .u32 0, .int .u32 0, .int .u32 0, .int .u32 0, .int .u32 0, .int .u32 0, .int .u32 0, .int .u32 0, .int .u32 0, .int .u32 0, .int .u32 0, .int .u32 0, .int .u32 0, .int .u32 0, .int .u32 0, .int .u32 0, .int .u32 0, .int .u32 0, .int .u32 0, .int .u32 0, .int .u32 0, .int .u32 0, .int .u32 0, .int .u32 0, .int .u32 0, .int .u32 0] : List Value) := rfl
noncomputable def zR : List Value := [.bool false, .slice none 0 0, .slice none 0 0]
theorem zR_eq : zR = ([.bool false, .slice none 0 0, .slice none 0 0] : List Value) := rfl
noncomputable def i0 : Value := .int .i64 0
theorem i0_eq : i0 = (.int .i64 0 : Value) := rfl
noncomputable def i1 : Value := .int .i64 1
theorem i1_eq : i1 = (.int .i64 1 : Value) := rfl
noncomputable def u0 : Value := .int .u32 0
theorem u0_eq : u0 = (.int .u32 0 : Value) := rfl
noncomputable def u1 : Value := .int .u32 1
theorem u1_eq : u1 = (.int .u32 1 : Value) := rfl
noncomputable def bT : Value := .bool true
theorem bT_eq : bT = (.bool true : Value) := rfl
noncomputable def bF : Value := .bool false
theorem bF_eq : bF = (.bool false : Value) := rfl
def _root_.List.a (l : List Value) : Value := l.getD 0 undef
theorem la_eq (l : List Value) : l.a = l.getD 0 undef := rfl
def _root_.List.b (l : List Value) : Value := l.getD 1 undef
theorem lb_eq (l : List Value) : l.b = l.getD 1 undef := rfl
def _root_.List.c (l : List Value) : Value := l.getD 2 undef
theorem lc_eq (l : List Value) : l.c = l.getD 2 undef := rfl
def _root_.List.d (l : List Value) : Value := l.getD 3 undef
theorem ld_eq (l : List Value) : l.d = l.getD 3 undef := rfl
def _root_.List.e (l : List Value) : Value := l.getD 4 undef
theorem le_eq (l : List Value) : l.e = l.getD 4 undef := rfl
def _root_.List.f (l : List Value) : Value := l.getD 5 undef
theorem lf_eq (l : List Value) : l.f = l.getD 5 undef := rfl
def tA (x : Prop) : Prop := True ∧ x
theorem tA_eq (x : Prop) : tA x = (True ∧ x) := rfl
def tB (x : Prop) : Prop := x ∧ True
theorem tB_eq (x : Prop) : tB x = (x ∧ True) := rfl
def wK (a b : Prop) : Prop := (a ∧ b) ∨ False
theorem wK_eq (a b : Prop) : wK a b = ((a ∧ b) ∨ False) := rfl
theorem W1 : (type_of% @wFl_eq) ∧ (type_of% @wFls_eq) ∧ (type_of% @wIx_eq) ∧ (type_of% @wIxs_eq) ∧ (type_of% @wBox_eq) ∧ (type_of% @wBsl_eq) ∧ (type_of% @wMsl_eq) ∧ (type_of% @wAl_eq) ∧ (type_of% @Rt_eq) ∧ (type_of% @cE_eq) ∧ (type_of% @z32_eq) ∧ (type_of% @zR_eq) ∧ (type_of% @i0_eq) ∧ (type_of% @i1_eq) ∧ (type_of% @u0_eq) ∧ (type_of% @u1_eq) ∧ (type_of% @bT_eq) ∧ (type_of% @bF_eq) ∧ (type_of% @la_eq) ∧ (type_of% @lb_eq) ∧ (type_of% @lc_eq) ∧ (type_of% @ld_eq) ∧ (type_of% @le_eq) ∧ (type_of% @lf_eq) ∧ (type_of% @tA_eq) ∧ (type_of% @tB_eq) ∧ (type_of% @wK_eq) := ⟨@wFl_eq, @wFls_eq, @wIx_eq, @wIxs_eq, @wBox_eq, @wBsl_eq, @wMsl_eq, @wAl_eq, @Rt_eq, @cE_eq, @z32_eq, @zR_eq, @i0_eq, @i1_eq, @u0_eq, @u1_eq, @bT_eq, @bF_eq, @la_eq, @lb_eq, @lc_eq, @ld_eq, @le_eq, @lf_eq, @tA_eq, @tB_eq, @wK_eq⟩
end Go.Clo
