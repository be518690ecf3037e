/-
  The closed executor: the operations that make a block.
-/
import Derived.Test.YtdecggbglnbhlaaGreatDoorClo8
set_option linter.unusedSimpArgs false
set_option linter.unusedVariables false
set_option linter.unusedSectionVars false
namespace Go.Clo

def Yld.real (q : Nat) : Yld → Value
  | .ptr => .pointer (some ⟨q, 0, none⟩)
  | .slice l c => .slice (some ⟨q, 0, none⟩) l c
  | .map => .map (some q)

/-- A new block's content. -/
def NewOf (F : FM) (b : Blk) (obj : Obj) : Prop :=
  match b with
  | .cells c sl => sl = 0 ∧ ∃ c' e, obj = .cells c' e (0, 0) ∧ VL F c c'.toList
  | .map es k => es = [] ∧ obj = .map #[] k
  | .rom _ => False

def AV (P : Program) (d n : Nat) (o : Oper) (T : Tree Value) (b : Blk) (y : Yld) : Prop :=
  ∀ (F : FM) (a : Act) (w : World), OR n o F T a → ∃ obj, (execOp a.eval o).run P w = .ok (.value (y.real w.heap.size)) (w.alloc obj) ∧ NewOf F b obj

theorem repeat_get {z : List Value} (hz : 0 < z.length) : ∀ (len i : Nat), (repeatA z len)[i]? = if i < len * z.length then z[i % z.length]? else none
  | 0, i => by simp [repeatA]
  | len + 1, i => by
    simp only [repeatA]
    rw [List.getElem?_append]
    by_cases h : i < z.length
    · have : i < (len + 1) * z.length := by rw [Nat.add_mul]; omega
      simp [h, this, Nat.mod_eq_of_lt h]
    · have hm : (i - z.length) % z.length = i % z.length := (Nat.mod_eq_sub_mod (by omega)).symm
      rw [repeat_get hz len (i - z.length)]
      have : (i - z.length < len * z.length) ↔ (i < (len + 1) * z.length) := by rw [Nat.add_mul]; omega
      simp [h, this, hm]
theorem repeat_eq (z : Array Value) (len : Nat) : ((Array.range (len * z.size)).map (fun i => z[i % z.size]!)).toList = repeatA z.toList len := by
  rcases Nat.eq_zero_or_pos z.size with h0 | h0
  · have : z = #[] := Array.eq_empty_of_size_eq_zero h0
    subst this
    have : ∀ len, repeatA ([] : List Value) len = [] := by
      intro len; induction len with
      | zero => rfl
      | succ n ih => simp [repeatA, ih]
    simp [this]
  · apply List.ext_getElem?
    intro i
    rw [repeat_get (by simpa using h0)]
    by_cases hi : i < len * z.size
    · have hm : i % z.size < z.size := Nat.mod_lt _ h0
      simp [hi, hm, getElem!_pos]
    · simp [hi]
theorem repeatA_oneCells {z : List Value} (h : oneCells z = true) : ∀ n, oneCells (repeatA z n) = true := by
  have app : ∀ (a b : List Value), oneCells a = true → oneCells b = true → oneCells (a ++ b) = true := by
    intro a b ha hb
    induction a with
    | nil => exact hb
    | cons v a ih => cases v <;> simp [oneCells] at ha ⊢ <;> exact ih ha
  intro n
  induction n with
  | zero => rfl
  | succ n ih => exact app _ _ h ih
theorem VL.repeat {F : FM} {z z' : List Value} (h : VL F z z') : ∀ n, VL F (repeatA z n) (repeatA z' n)
  | 0 => .nil
  | n + 1 => h.append (h.repeat n)

theorem run_newRow {P : Program} (e : TypeId) (cells : Array Value) (w : World) : (newRow e cells).run P w = .ok ⟨w.heap.size, 0, none⟩ (w.alloc (.cells cells e (0, 0))) := by
  simp [newRow, newObj, Sem.run]
theorem run_newVar' {P : Program} (e : TypeId) (v : Value) (w : World) : (newVar e v).run P w = .ok ⟨w.heap.size, 0, none⟩ (w.alloc (.cells v.cells e (0, 0))) := run_newRow e v.cells w
theorem run_zero {P : Program} {t : TypeId} {i : TypeInfo} {v : Value} (hi : P.info? t = some i) (hz : i.zero = some v) (w : World) : (zeroValue t).run P w = .ok v w := by
  simp [zeroValue, run_typeInfo' hi, hz]

section
variable {β : Type} {P : Program} {d n : Nat} {o : Oper} {T : Tree Value}

theorem soundA {i : IA} (hI : compI P n o = some (.a i)) (z : β) (k : Blk → Yld → β) :
    evA i T z k = z ∨ ∃ b y, evA i T z k = k b y ∧ AV P d n o T b y := by
  have h := (compI_inv hI).resolve_right (by simp)
  clear hI
  unfold compI0 at h
  split at h
  case h_19 =>
    rename_i e ho
    cases hz : zeroA P e with
    | none => rw [hz] at h; cases h
    | some zero =>
      rw [hz] at h; cases h
      obtain ⟨it, v, hit, hiz, rfl, hfl, hone, hlen⟩ := zeroA_inv hz
      simp only [evA]
      rw [spine_eq]
      refine .inr ⟨_, _, rfl, fun F a w ht => ⟨.cells v.cells e (0, 0), ?_, rfl, _, _, rfl, flat_cells hfl F⟩⟩
      simp [execOp, ho, Instr.alloc, run_zero hit hiz, run_newVar', Yld.real]
  case h_20 =>
    rename_i e x ho
    cases hx : compX n x with
    | none => rw [hx] at h; cases h
    | some y =>
      rw [hx] at h; cases h
      simp only [evA]
      rw [evK_eq]
      cases ho1 : oneCells (ev T y).cells.toList with
      | false => exact .inl rfl
      | true =>
        dsimp only [cond_true]
        rw [spine_eq]
        refine .inr ⟨_, _, rfl, fun F a w ht => ⟨.cells (a.eval x).cells e (0, 0), ?_, rfl, _, _, rfl, (evX ht hx).cells (one_notChan ho1)⟩⟩
        simp [execOp, ho, Instr.box, run_newVar', Yld.real]
  case h_21 =>
    rename_i t len parts ho
    split at h
    · rename_i e ps hu hps
      split at h
      · rename_i zero inf hz hi
        cases hb : Nat.ble (len * inf.size) 16777216 with
        | false => rw [hb] at h; cases h
        | true =>
          rw [hb] at h; cases h
          obtain ⟨it, v, hit, hiz, rfl, hfl, hone, hlen⟩ := zeroA_inv hz
          rw [hi] at hit; cases hit
          simp only [evA]
          rw [evPsK_eq]
          split
          · rename_i cs hf
            cases ho1 : oneCells cs with
            | false => exact .inl rfl
            | true =>
              dsimp only [cond_true]
              rw [spine_eq]
              refine .inr ⟨_, _, rfl, fun F a w ht => ?_⟩
              have hle : len * inf.size ≤ 16777216 := Nat.le_of_ble_eq_true hb
              have hvs : v.cells.size = inf.size := by simpa using hlen
              have hcells : ∃ zz : Array Value, ((len * inf.size = 0 ∧ zz = #[]) ∨ (len * inf.size ≠ 0 ∧ zz = v.cells)) ∧
                  ((Array.range (len * inf.size)).map (fun i => zz[i % zz.size]!)).toList = repeatA v.cells.toList len := by
                by_cases h0 : len * inf.size = 0
                · refine ⟨#[], .inl ⟨h0, rfl⟩, ?_⟩
                  rw [h0]
                  have := repeat_eq v.cells len
                  rw [hvs, h0] at this
                  simp at this ⊢
                  exact this
                · refine ⟨v.cells, .inr ⟨h0, rfl⟩, ?_⟩
                  rw [← hvs]; exact repeat_eq v.cells len
              obtain ⟨zz, hzz, hrep⟩ := hcells
              obtain ⟨r', hr, hl⟩ := fill_sound (pl' := fun k => some (k * inf.size, inf.size)) (fun i p h => h) (evPs ht hps (by rw [ho]; intro p hp; simp only [Op.operands]; exact Array.mem_def.2 (by simp; exact ⟨p.1, by simpa using hp⟩))) (cells' := (Array.range (len * inf.size)).map (fun i => zz[i % zz.size]!))
                (by rw [hrep]; exact (flat_cells hfl F).repeat len) hf
              refine ⟨.cells r' e (0, 0), ?_, rfl, _, _, rfl, hl⟩
              have hgt : ¬ (len * inf.size > 2 ^ 24) := by simp; omega
              have hr' : Instr.fill (fun i => some (i * inf.size, inf.size)) ((Array.range (len * inf.size)).map (fun i => zz[i % zz.size]!)) (parts.map fun (i, x) => (i, a.eval x)).toList = some r' := by
                rw [pairs_map]; exact hr
              rcases hzz with ⟨h0, rfl⟩ | ⟨h0, rfl⟩
              · simp only [execOp, ho, Instr.buildSlice, Sem.run_bind, run_underlying hu, Result.andThen_ok, run_sizeOf' hi, hgt, if_false, Sem.run_pure]
                rw [if_pos h0]
                simp only [Sem.run_bind, Sem.run_pure, Result.andThen_ok, hr', run_newRow, Yld.real]
              · simp only [execOp, ho, Instr.buildSlice, Sem.run_bind, run_underlying hu, Result.andThen_ok, run_sizeOf' hi, hgt, if_false, Sem.run_pure]
                rw [if_neg h0]
                simp only [Sem.run_bind, run_zero hi hiz, Sem.run_pure, Result.andThen_ok, hr', run_newRow, Yld.real]
          · exact .inl rfl
      · cases h
    · cases h
  case h_22 =>
    rename_i t l c ho
    split at h
    · rename_i l1 c1 e hl1 hc1 hu
      split at h
      · rename_i zero inf hz hi
        cases hb : Nat.ble inf.bytes 100000 with
        | false => rw [hb] at h; cases h
        | true =>
          rw [hb] at h; cases h
          obtain ⟨it, v, hit, hiz, rfl, hfl, hone, hlen⟩ := zeroA_inv hz
          rw [hi] at hit; cases hit
          simp only [evA]
          rw [evK_eq, evK_eq]
          split
          · rename_i lv cv hlv hcv
            cases hlc : (Nat.ble lv cv && Nat.ble cv 1000000) with
            | false => exact .inl rfl
            | true =>
              dsimp only [cond_true]
              rw [spine_eq]
              refine .inr ⟨_, _, rfl, fun F a w ht => ?_⟩
              simp only [Bool.and_eq_true, Nat.ble_eq] at hlc
              obtain ⟨g1, g2⟩ := hlc
              have hby : inf.bytes ≤ 100000 := Nat.le_of_ble_eq_true hb
              have e1 := evX ht hl1
              have e2 := evX ht hc1
              rw [hlv] at e1; rw [hcv] at e2
              have e1 := e1.int_inv
              have e2 := e2.int_inv
              have w1 : IntKind.i64.wrap (Int.ofNat lv) = (lv : Int) := IntWalk.i64_in _ (by simp; omega)
              have w2 : IntKind.i64.wrap (Int.ofNat cv) = (cv : Int) := IntWalk.i64_in _ (by simp; omega)
              have hvs : v.cells.size = inf.size := by simpa using hlen
              have hcells : ∃ zz : Array Value, ((cv * inf.size = 0 ∧ zz = #[]) ∨ (cv * inf.size ≠ 0 ∧ zz = v.cells)) ∧
                  ((Array.range (cv * inf.size)).map (fun i => zz[i % zz.size]!)).toList = repeatA v.cells.toList cv := by
                by_cases h0 : cv * inf.size = 0
                · refine ⟨#[], .inl ⟨h0, rfl⟩, ?_⟩
                  rw [h0]
                  have := repeat_eq v.cells cv
                  rw [hvs, h0] at this
                  simp at this ⊢
                  exact this
                · refine ⟨v.cells, .inr ⟨h0, rfl⟩, ?_⟩
                  rw [← hvs]; exact repeat_eq v.cells cv
              obtain ⟨zz, hzz, hrep⟩ := hcells
              refine ⟨.cells ((Array.range (cv * inf.size)).map (fun i => zz[i % zz.size]!)) e (0, 0), ?_, rfl, _, _, rfl, by rw [hrep]; exact (flat_cells hfl F).repeat cv⟩
              have hprod : inf.bytes * cv ≤ 100000000000 := Nat.le_trans (Nat.mul_le_mul hby g2) (by decide)
              have t1 : (decide ((cv : Int) < 0) || decide ((inf.bytes : Int) * (cv : Int) > 2 ^ 48)) = false := by
                have hp : (inf.bytes : Int) * (cv : Int) ≤ 100000000000 := by omega
                have hq : (2 : Int) ^ 48 = 281474976710656 := by decide
                rw [hq, decide_eq_false (by omega), decide_eq_false (by omega)]
                rfl
              have t2 : ¬ (lv : Int) < 0 := by omega
              have t3 : ¬ (lv : Int) > (cv : Int) := by omega
              have hroom : (askRoom (cv * inf.bytes)).run P w = .ok () w := by
                have : ¬ cv * inf.bytes > roomBytes := by
                  have : cv * inf.bytes = inf.bytes * cv := Nat.mul_comm _ _
                  simp only [roomBytes]; omega
                simp [askRoom, this]
              simp only [execOp, ho, Instr.makeSlice, Sem.run_bind, run_underlying hu, Result.andThen_ok, e1, e2, asInt, asIntOf, Sem.run_pure, run_typeInfo' hi, w1, w2]
              simp only [t1, Bool.false_or, t2, t3, decide_false, Bool.or_false, Bool.false_eq_true, if_false, Sem.run_bind, Int.toNat_natCast, hroom, Result.andThen_ok, run_sizeOf' hi]
              rcases hzz with ⟨h0, rfl⟩ | ⟨h0, rfl⟩
              · rw [if_pos h0]
                simp only [Sem.run_bind, Sem.run_pure, Result.andThen_ok, run_newRow, Yld.real]
              · rw [if_neg h0]
                simp only [Sem.run_bind, run_zero hi hiz, Sem.run_pure, Result.andThen_ok, run_newRow, Yld.real]
          · exact .inl rfl
      · cases h
    · cases h
  case h_23 =>
    rename_i t r ho
    split at h
    · rename_i r1 mk mv hr hu
      cases h
      simp only [evA]
      rw [evOK_eq]
      split
      · rename_i hv
        refine .inr ⟨_, _, rfl, fun F a w ht => ⟨.map #[] 0, ?_, rfl, rfl⟩⟩
        rcases OV.of ht hr with ⟨_, h2⟩ | ⟨_, _, h2, _⟩
        · simp [execOp, ho, h2, Instr.makeMap, newObj, Sem.run, Yld.real]
        · rw [hv] at h2; cases h2
      · rename_i kk q hv
        refine .inr ⟨_, _, rfl, fun F a w ht => ⟨.map #[] 0, ?_, rfl, rfl⟩⟩
        rcases OV.of ht hr with ⟨h1, _⟩ | ⟨v1, v2, h1, h2, h3⟩
        · rw [hv] at h1; cases h1
        · rw [hv] at h1; cases h1
          have h3 := h3.int_inv
          subst h3
          simp [execOp, ho, h2, Instr.makeMap, run_underlying hu, asInt, asIntOf, newObj, Sem.run, Yld.real]
      · exact .inl rfl
    · cases h
  all_goals first
    | (cases h; done)
    | (split at h <;> cases h; done)
    | (repeat' (first | (cases h; done) | split at h))
    | skip
  all_goals first
    | (rw [Bool.cond_eq_ite] at h; split at h <;> cases h; done)
    | (rw [Option.map_eq_some_iff] at h; obtain ⟨_, _, h⟩ := h; cases h; done)
end
end Go.Clo
