/-
  The executor as a claim: rules for proofs.
-/
import Derived.Test.YtdecggbglnbhlaaGreatDoorCloT
set_option linter.unusedSimpArgs false
set_option linter.unusedVariables false
set_option linter.unusedSectionVars false
namespace Go.Clo

/-! Joins, loops, calls. -/
theorem wJoin_rule {body : JK → Prop} {rest : JK} (R : JK) (h1 : ∀ j : JK, (∀ L H nx, R L H nx → j L H nx) → body j) (h2 : ∀ L H nx, R L H nx → rest L H nx) : wJoin body rest := h1 rest h2
theorem wJoin_eq (body : JK → Prop) (rest : JK) : wJoin body rest = body rest := rfl
/-- A loop: 'I m' holds where at most m rounds more are needed. -/
theorem wLoop_rule {F : JK → JK} (I : Nat → List Value → Heap → Nat → Prop) (step : ∀ m ih L H nx, I m L H nx → (∀ m' L' H' nx', m' < m → I m' L' H' nx' → ih L' H' nx') → F ih L H nx)
    {m : Nat} {L : List Value} {H : Heap} {nx : Nat} (h : I m L H nx) : wLoop F L H nx := by
  have key : ∀ (k m : Nat) (L : List Value) (H : Heap) (nx : Nat), m < k → I m L H nx → wIter F k L H nx := by
    intro k
    induction k with
    | zero => intro m L H nx h; omega
    | succ k ih =>
      intro m L H nx hm hI
      exact step m (wIter F k) L H nx hI fun m' L' H' nx' hm' hI' => ih m' L' H' nx' (by omega) hI'
  exact ⟨m + 1, key (m + 1) m L H nx (by omega) h⟩
theorem wCall_rule {P : Program} {f : FuncId} {args : List Value} {H : Heap} {nx : Nat} {k : EP} {Q : EP} (h : Ans P f args H nx Q) (hk : ∀ v H' nx', Q v H' nx' → k v H' nx') : wCall P f args H nx k := .inr (h.mono hk)

/-- The heap has grown: what was there is as it was. -/
structure Ext (H : Heap) (nx : Nat) (H' : Heap) (nx' : Nat) : Prop where
  le : nx ≤ nx'
  get : ∀ i, i < nx → getH H' i = getH H i
theorem Ext.refl (H : Heap) (nx : Nat) : Ext H nx H nx := ⟨Nat.le_refl _, fun _ _ => rfl⟩
theorem Ext.trans {H : Heap} {nx : Nat} {H1 : Heap} {n1 : Nat} {H2 : Heap} {n2 : Nat} (a : Ext H nx H1 n1) (b : Ext H1 n1 H2 n2) : Ext H nx H2 n2 :=
  ⟨Nat.le_trans a.le b.le, fun i hi => (b.get i (Nat.lt_of_lt_of_le hi a.le)).trans (a.get i hi)⟩
theorem Ext.new {H : Heap} {nx : Nat} {H1 : Heap} {n1 i m : Nat} (a : Ext H nx H1 n1) (b : Option Blk) (hi : nx ≤ i) (hm : n1 ≤ m) : Ext H nx (hs H1 i b) m :=
  ⟨Nat.le_trans a.le hm, fun j hj => by rw [getH_hs, if_neg (by omega)]; exact a.get j hj⟩
theorem Ext.hs {H : Heap} {nx : Nat} {H1 : Heap} {i m : Nat} {b : Option Blk} (a : Ext H nx H1 m) (hi : nx ≤ i) : Ext H nx (Go.Clo.hs H1 i b) m := a.new b hi (Nat.le_refl _)
theorem Ext.self {H : Heap} {nx m : Nat} (h : nx ≤ m) : Ext H nx H m := ⟨h, fun _ _ => rfl⟩
theorem Ext.more {H : Heap} {nx : Nat} {H1 : Heap} {n1 m : Nat} (a : Ext H nx H1 n1) (hm : n1 ≤ m) : Ext H nx H1 m := ⟨Nat.le_trans a.le hm, a.get⟩
theorem Ext.less {H : Heap} {nx n0 : Nat} {H1 : Heap} {n1 : Nat} (a : Ext H nx H1 n1) (hm : n0 ≤ nx) : Ext H n0 H1 n1 := ⟨Nat.le_trans hm a.le, fun i hi => a.get i (by omega)⟩

/-! Values. -/
theorem eqK_refl (k : IntKind) : eqK k k = true := by cases k <;> rfl
theorem wBin_eq (op : BinOp) (x y : Value) (k : VP) : wBin op x y k = (binV op x y).elim False k := binVK_eq op x y False k
section
variable (K : IntKind) (a b : Int) (k : VP)
theorem wBin_lss : wBin .lss (.int K a) (.int K b) k = k (.bool (decide (a < b))) := by rw [wBin_eq]; simp [binV, isShift, eqK_refl, intV]
theorem wBin_leq : wBin .leq (.int K a) (.int K b) k = k (.bool (decide (a ≤ b))) := by rw [wBin_eq]; simp [binV, isShift, eqK_refl, intV]
theorem wBin_gtr : wBin .gtr (.int K a) (.int K b) k = k (.bool (decide (b < a))) := by rw [wBin_eq]; simp [binV, isShift, eqK_refl, intV]
theorem wBin_geq : wBin .geq (.int K a) (.int K b) k = k (.bool (decide (b ≤ a))) := by rw [wBin_eq]; simp [binV, isShift, eqK_refl, intV]
theorem wBin_eql : wBin .eql (.int K a) (.int K b) k = k (.bool (decide (a = b))) := by rw [wBin_eq]; simp [binV, isShift, eqK_refl, intV]; rfl
theorem wBin_neq : wBin .neq (.int K a) (.int K b) k = k (.bool (decide (a ≠ b))) := by
  rw [wBin_eq]; simp only [binV, isShift, eqK_refl, intV, cond_true, cond_false, Option.elim_some]
  congr 2; rw [Bool.eq_iff_iff]; simp
theorem wBin_add : wBin .add (.int K a) (.int K b) k = k (.int K (K.wrap (a + b))) := by rw [wBin_eq]; simp [binV, isShift, eqK_refl, intV]
theorem wBin_sub : wBin .sub (.int K a) (.int K b) k = k (.int K (K.wrap (a - b))) := by rw [wBin_eq]; simp [binV, isShift, eqK_refl, intV]
theorem wBin_mul : wBin .mul (.int K a) (.int K b) k = k (.int K (K.wrap (a * b))) := by rw [wBin_eq]; simp [binV, isShift, eqK_refl, intV]
theorem wBin_quo (h : b ≠ 0) : wBin .quo (.int K a) (.int K b) k = k (.int K (K.wrap (a.tdiv b))) := by rw [wBin_eq]; simp [binV, isShift, eqK_refl, intV, h]
theorem wBin_rem (h : b ≠ 0) : wBin .rem (.int K a) (.int K b) k = k (.int K (a.tmod b)) := by rw [wBin_eq]; simp [binV, isShift, eqK_refl, intV, h]
theorem i64_id {x : Int} (h1 : -9223372036854775808 ≤ x) (h2 : x < 9223372036854775808) : IntKind.i64.wrap x = x := IntWalk.i64_in _ ⟨h1, by omega⟩
theorem wBin_add64 (h1 : -9223372036854775808 ≤ a + b) (h2 : a + b < 9223372036854775808) : wBin .add (.int .i64 a) (.int .i64 b) k = k (.int .i64 (a + b)) := by rw [wBin_add, i64_id h1 h2]
theorem wBin_sub64 (h1 : -9223372036854775808 ≤ a - b) (h2 : a - b < 9223372036854775808) : wBin .sub (.int .i64 a) (.int .i64 b) k = k (.int .i64 (a - b)) := by rw [wBin_sub, i64_id h1 h2]
end
theorem wIf_bool (b : Bool) (t e : Prop) : wIf (.bool b) t e = if b = true then t else e := by unfold wIf; exact ifK_eq b t e
theorem wGuard_true (b : Bool) (y n : Prop) : wGuard true (.bool b) y n = if b = true then y else n := by cases b <;> rfl
theorem wGuard_false (b : Bool) (y n : Prop) : wGuard false (.bool b) y n = if b = true then n else y := by cases b <;> rfl
theorem wPick_true (a b : Value) (k : VP) : wPick (.bool true) a b k = k a := rfl
theorem wPick_false (a b : Value) (k : VP) : wPick (.bool false) a b k = k b := rfl
theorem wUn_not (b : Bool) (k : VP) : wUn .not (.bool b) k = k (.bool !b) := by unfold wUn; rw [optK_eq]; rfl
theorem wFld_eq (b o : Nat) (s : Option Nat) (off : Nat) (k : VP) : wFld (.pointer (some ⟨b, o, s⟩)) off k = k (.pointer (some ⟨b, o + off, s⟩)) := by
  show forceN (o + off) (fun n => k (.pointer (some ⟨b, n, s⟩))) = _
  rw [forceN_eq]
theorem wIdx_slice {i : Int} {n : Nat} (h1 : 0 ≤ i) (h2 : i < n) (b o : Nat) (s : Option Nat) (c size : Nat) (kd : IntKind) (k : VP) : wIdx (.slice (some ⟨b, o, s⟩) n c) (.int kd i) none size k = k (.pointer (some ⟨b, o + i.toNat * size, s⟩)) := by
  obtain ⟨j, rfl⟩ := Int.eq_ofNat_of_zero_le h1
  have : Nat.blt j n = true := by simp; omega
  show cond (Nat.blt j n) (offK (o + j * size) ⟨b, o, s⟩ k) False = _
  rw [this]; unfold offK; simp only [cond_true]; rw [forceN_eq]; rfl
theorem wIdx_array {i : Int} {n : Nat} (h1 : 0 ≤ i) (h2 : i < n) (b o : Nat) (s : Option Nat) (size : Nat) (kd : IntKind) (k : VP) : wIdx (.pointer (some ⟨b, o, s⟩)) (.int kd i) (some n) size k = k (.pointer (some ⟨b, o + i.toNat * size, s⟩)) := by
  obtain ⟨j, rfl⟩ := Int.eq_ofNat_of_zero_le h1
  have : Nat.blt j n = true := by simp; omega
  show cond (Nat.blt j n) (offK (o + j * size) ⟨b, o, s⟩ k) False = _
  rw [this]; unfold offK; simp only [cond_true]; rw [forceN_eq]; rfl
theorem wNilc_eq (a : Addr) (k : VP) : wNilc (.pointer (some a)) k = k (.pointer (some a)) := rfl
theorem wExt_eq (l : List Value) (i : Nat) (k : VP) : wExt (.tuple ⟨l⟩) i k = (l[i]?).elim False k := by unfold wExt; exact nthK_eq l i False k
theorem wPart_one (l : List Value) (o : Nat) (k : VP) : wPart (.agg ⟨l⟩) o none k = (l[o]?).elim False k := by unfold wPart cutK; exact nthK_eq l o False k
theorem wPart_agg (l : List Value) (o n : Nat) (k : VP) : wPart (.agg ⟨l⟩) o (some n) k = k (.agg ⟨(l.drop o).take n⟩) := by unfold wPart cutK; exact spine_eq _ _
theorem wLen_slice (a : Option Addr) (n c : Nat) (H : Heap) (k : VP) : wLen (.slice a n c) 0 H k = k (.int .i64 n) := rfl
theorem wLen_string (s : ByteArray) (H : Heap) (k : VP) : wLen (.string s) 1 H k = k (.int .i64 s.size) := by unfold wLen; exact forceN_eq _ _
theorem wConv_eq (kd k' : IntKind) (n : Int) (k : VP) : wConv kd (.int k' n) k = k (.int kd (kd.wrap n)) := by
  show cond (fits kd n) (k (.int kd n)) (forceI (kd.wrap n) fun n => k (.int kd n)) = _
  rw [forceI_eq]
  cases hf : fits kd n with
  | true => rw [fits_wrap hf]; rfl
  | false => rfl
theorem wNew_eq (b : Blk) (y : Yld) (H : Heap) (nx : Nat) (k : EP) : wNew b y H nx k = k (y.val nx) (hs H nx (some b)) (nx + 1) := by unfold wNew; rw [hsK_eq, forceN_eq, force1_eq]
theorem wNm_eq (nx i : Nat) (y : Yld) (k : VP) : wNm nx i y k = k (y.val (nx + i)) := by unfold wNm; rw [forceN_eq, forceV_eq]
theorem dBox_eq {v : Value} (h : oneCells v.cells.toList = true) (k : List Value → Prop) : dBox v k = k v.cells.toList := by unfold dBox; rw [h]; exact spine_eq _ _

theorem dBox_agg (l : List Value) (k : List Value → Prop) : dBox (.agg ⟨l⟩) k = if oneCells l = true then k l else False := by
  show cond (oneCells l) (spine l k) False = _
  rw [spine_eq]; cases oneCells l <;> rfl
theorem dBox_int (K : IntKind) (n : Int) (k : List Value → Prop) : dBox (.int K n) k = k [.int K n] := dBox_eq (v := .int K n) rfl k
theorem dBox_slice (A : Option Addr) (n c : Nat) (k : List Value → Prop) : dBox (.slice A n c) k = k [.slice A n c] := dBox_eq (v := .slice A n c) rfl k
theorem dBox_string (s : ByteArray) (k : List Value → Prop) : dBox (.string s) k = k [.string s] := dBox_eq (v := .string s) rfl k
theorem dBox_bool (s : Bool) (k : List Value → Prop) : dBox (.bool s) k = k [.bool s] := dBox_eq (v := .bool s) rfl k
theorem dBox_map (s : Option Nat) (k : List Value → Prop) : dBox (.map s) k = k [.map s] := dBox_eq (v := .map s) rfl k
theorem dBox_ptr (s : Option Addr) (k : List Value → Prop) : dBox (.pointer s) k = k [.pointer s] := dBox_eq (v := .pointer s) rfl k
theorem dBsl_eq (len size : Nat) (z : List Value) (vs : List (Nat × Value)) (k : List Value → Prop) : dBsl len size z vs k = (match fillA (fun k => some (k * size, size)) (repeatA z len) vs with | some cs => if oneCells cs = true then k cs else False | none => False) := by
  unfold dBsl
  cases fillA (fun k => some (k * size, size)) (repeatA z len) vs with
  | none => rfl
  | some cs => dsimp only; rw [spine_eq]; cases oneCells cs <;> rfl

/-! Memory. -/
def cellP (c : List Value) (o : Nat) (size : Option Nat) (k : VP) : Prop := match size with
  | none => (c[o]?).elim False k
  | some n => o + n ≤ c.length ∧ k (.agg ⟨(c.drop o).take n⟩)
def ldP (b : Option Blk) (o : Nat) (size : Option Nat) (k : VP) : Prop := match b with
  | some (.cells c _) => cellP c o size k
  | some (.rom c) => cellP c o size k
  | _ => False
theorem takeN_some {α : Type} : ∀ {n : Nat} {l : List α}, n ≤ l.length → takeN n l = some (l.take n)
  | 0, l, _ => by simp [takeN]
  | n + 1, [], h => by simp at h
  | n + 1, a :: l, h => by simp [takeN, takeN_some (n := n) (l := l) (by simpa using h)]
theorem takeN_none {α : Type} : ∀ {n : Nat} {l : List α}, l.length < n → takeN n l = none
  | 0, l, h => by omega
  | n + 1, [], _ => rfl
  | n + 1, a :: l, h => by simp [takeN, takeN_none (n := n) (l := l) (by simpa using h)]
theorem ldC_eq (o : Nat) (size : Option Nat) (k : VP) (c : List Value) (hle : ∀ n, size = some n → 0 < n) : ldC o size False k c = cellP c o size k := by
  unfold ldC cellP
  cases size with
  | none => exact nthK_eq c o False k
  | some n =>
    dsimp only
    have hn := hle n rfl
    by_cases h : o + n ≤ c.length
    · rw [takeN_some (by simp; omega)]; dsimp only; rw [spine_eq]; simp [h]
    · rw [takeN_none (by simp; omega)]; simp [h]
theorem wLd_eq (b o : Nat) (size : Option Nat) (H : Heap) (k : VP) (hle : ∀ n, size = some n → 0 < n) : wLd (.pointer (some ⟨b, o, none⟩)) size H k = ldP (getH H b) o size k := by
  show getB H b False (ldB o size False k) = _
  rw [getB_eq]
  unfold ldP
  cases getH H b with
  | none => rfl
  | some blk =>
    cases blk with
    | map es q => rfl
    | cells c sl => exact ldC_eq o size k c hle
    | rom c => exact ldC_eq o size k c hle
theorem wLd_none (b o : Nat) (H : Heap) (k : VP) : wLd (.pointer (some ⟨b, o, none⟩)) none H k = ldP (getH H b) o none k := wLd_eq b o none H k (fun n h => by cases h)
theorem wLd_some (b o n : Nat) (H : Heap) (k : VP) : wLd (.pointer (some ⟨b, o, none⟩)) (some (n + 1)) H k = ldP (getH H b) o (some (n + 1)) k := wLd_eq b o _ H k (fun m h => by cases h; omega)
theorem wLd_2 (b o : Nat) (H : Heap) (k : VP) : wLd (.pointer (some ⟨b, o, none⟩)) (some 2) H k = ldP (getH H b) o (some 2) k := wLd_some b o 1 H k
theorem wLd_3 (b o : Nat) (H : Heap) (k : VP) : wLd (.pointer (some ⟨b, o, none⟩)) (some 3) H k = ldP (getH H b) o (some 3) k := wLd_some b o 2 H k
theorem wLd_32 (b o : Nat) (H : Heap) (k : VP) : wLd (.pointer (some ⟨b, o, none⟩)) (some 32) H k = ldP (getH H b) o (some 32) k := wLd_some b o 31 H k
theorem ldP_cells (c : List Value) (sl o : Nat) (size : Option Nat) (k : VP) : ldP (some (.cells c sl)) o size k = cellP c o size k := rfl
theorem ldP_rom (c : List Value) (o : Nat) (size : Option Nat) (k : VP) : ldP (some (.rom c)) o size k = cellP c o size k := rfl
theorem cellP_one (c : List Value) (o : Nat) (k : VP) : cellP c o none k = (c[o]?).elim False k := rfl
theorem cellP_agg (c : List Value) (o n : Nat) (k : VP) : cellP c o (some n) k = (o + n ≤ c.length ∧ k (.agg ⟨(c.drop o).take n⟩)) := rfl

def putL (c : List Value) (o : Nat) (vs : List Value) : List Value := c.take o ++ vs ++ c.drop (o + vs.length)
def stP (b : Option Blk) (o : Nat) (vs : List Value) (k : Blk → Prop) : Prop := match b with
  | some (.cells c sl) => o + vs.length ≤ c.length ∧ k (.cells (putL c o vs) sl)
  | _ => False
theorem putCK_eq (H : Heap) (b o : Nat) (vs : List Value) (k : Heap → Prop) : putCK H ⟨b, o, none⟩ vs False k = stP (getH H b) o vs fun blk => k (hs H b (some blk)) := by
  unfold putCK stP
  dsimp only
  rw [getB_eq]
  cases getH H b with
  | none => rfl
  | some blk =>
    cases blk with
    | map es q => rfl
    | rom c => rfl
    | cells c sl =>
      dsimp only [Option.elim_some]
      by_cases h : o + vs.length ≤ c.length
      · rw [Nat.ble_eq_true_of_le h]; simp only [cond_true]; rw [spine_eq, hsK_eq]; simp [h, putL]
      · have : Nat.ble (o + vs.length) c.length = false := by
          cases hb : Nat.ble (o + vs.length) c.length with
          | false => rfl
          | true => exact absurd (Nat.le_of_ble_eq_true hb) h
        rw [this]; simp [h]
theorem wSt_eq {v : Value} {size : Nat} (h1 : v.cells.toList.length = size) (h2 : oneCells v.cells.toList = true) (b o : Nat) (H : Heap) (k : Heap → Prop) : wSt (.pointer (some ⟨b, o, none⟩)) v size H k = stP (getH H b) o v.cells.toList fun blk => k (hs H b (some blk)) := by
  show cond (Nat.beq v.cells.toList.length size && oneCells v.cells.toList) (putCK H ⟨b, o, none⟩ v.cells.toList False k) False = _
  rw [h2, h1]
  have : Nat.beq size size = true := by simp
  rw [this]
  exact putCK_eq H b o _ k
theorem wSt_agg (l : List Value) (size b o : Nat) (H : Heap) (k : Heap → Prop) : wSt (.pointer (some ⟨b, o, none⟩)) (.agg ⟨l⟩) size H k = if l.length = size ∧ oneCells l = true then stP (getH H b) o l fun blk => k (hs H b (some blk)) else False := by
  by_cases h : l.length = size ∧ oneCells l = true
  · rw [if_pos h]; exact wSt_eq (v := .agg ⟨l⟩) h.1 h.2 b o H k
  · rw [if_neg h]
    show cond (Nat.beq l.length size && oneCells l) (putCK H ⟨b, o, none⟩ l False k) False = False
    have : (Nat.beq l.length size && oneCells l) = false := by
      cases hb : (Nat.beq l.length size && oneCells l) with
      | false => rfl
      | true =>
        rw [Bool.and_eq_true] at hb
        exact absurd ⟨Nat.eq_of_beq_eq_true hb.1, hb.2⟩ h
    rw [this]; rfl
section
variable (b o : Nat) (H : Heap) (k : Heap → Prop)
theorem wSt_int (K : IntKind) (n : Int) : wSt (.pointer (some ⟨b, o, none⟩)) (.int K n) 1 H k = stP (getH H b) o [.int K n] fun blk => k (hs H b (some blk)) := wSt_eq (v := .int K n) rfl rfl b o H k
theorem wSt_bool (x : Bool) : wSt (.pointer (some ⟨b, o, none⟩)) (.bool x) 1 H k = stP (getH H b) o [.bool x] fun blk => k (hs H b (some blk)) := wSt_eq (v := .bool x) rfl rfl b o H k
theorem wSt_string (x : ByteArray) : wSt (.pointer (some ⟨b, o, none⟩)) (.string x) 1 H k = stP (getH H b) o [.string x] fun blk => k (hs H b (some blk)) := wSt_eq (v := .string x) rfl rfl b o H k
theorem wSt_slice (A : Option Addr) (n c : Nat) : wSt (.pointer (some ⟨b, o, none⟩)) (.slice A n c) 1 H k = stP (getH H b) o [.slice A n c] fun blk => k (hs H b (some blk)) := wSt_eq (v := .slice A n c) rfl rfl b o H k
theorem wSt_ptr (A : Option Addr) : wSt (.pointer (some ⟨b, o, none⟩)) (.pointer A) 1 H k = stP (getH H b) o [.pointer A] fun blk => k (hs H b (some blk)) := wSt_eq (v := .pointer A) rfl rfl b o H k
theorem wSt_map (r : Option Nat) : wSt (.pointer (some ⟨b, o, none⟩)) (.map r) 1 H k = stP (getH H b) o [.map r] fun blk => k (hs H b (some blk)) := wSt_eq (v := .map r) rfl rfl b o H k
theorem wSt_func (f : Fn) (x y : Array Value) : wSt (.pointer (some ⟨b, o, none⟩)) (.func f x y) 1 H k = stP (getH H b) o [.func f x y] fun blk => k (hs H b (some blk)) := wSt_eq (v := .func f x y) rfl rfl b o H k
end
theorem stP_cells (c : List Value) (sl o : Nat) (vs : List Value) (k : Blk → Prop) : stP (some (.cells c sl)) o vs k = (o + vs.length ≤ c.length ∧ k (.cells (putL c o vs) sl)) := rfl
theorem putL_one {c : List Value} {o : Nat} {v : Value} (h : o < c.length) : putL c o [v] = c.set o v := by
  unfold putL
  rw [List.set_eq_take_append_cons_drop, if_pos h]; simp
theorem putL_all {c vs : List Value} (h : vs.length = c.length) : putL c 0 vs = vs := by
  unfold putL; simp [h]
theorem getH_same (H : Heap) (i : Nat) (b : Option Blk) : getH (hs H i b) i = b := by rw [getH_hs, if_pos rfl]
theorem getH_ne {H : Heap} {i j : Nat} (b : Option Blk) (h : j ≠ i) : getH (hs H i b) j = getH H j := by rw [getH_hs, if_neg h]

/-! Append. -/
theorem firstK_slice (H : Heap) (size n : Nat) (b o len cap : Nat) (k : List Value → Prop) (hn : 0 < n * size) : firstK H size n (.slice (some ⟨b, o, none⟩) len cap) False k = match (getH H b).bind Blk.row with
    | some c => o + n * size ≤ c.length ∧ k ((c.drop o).take (n * size))
    | none => False := by
  unfold firstK rowK
  dsimp only
  rw [getB_eq]
  have main : ∀ c : List Value, (match takeN (n * size) (c.drop o) with | some l => spine l k | none => False) = (o + n * size ≤ c.length ∧ k ((c.drop o).take (n * size))) := by
    intro c
    by_cases h : o + n * size ≤ c.length
    · rw [takeN_some (by simp; omega)]; dsimp only; rw [spine_eq]; simp [h]
    · rw [takeN_none (by simp; omega)]; simp [h]
  cases getH H b with
  | none => rfl
  | some blk =>
    cases blk with
    | map es q => rfl
    | cells c sl => exact main c
    | rom c => exact main c
end Go.Clo
