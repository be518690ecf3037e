/-
  The closed executor: a region's run in the order of the text, as a record.
-/
import Derived.Test.YtdecggbglnbhlaaGreatDoorCloI
set_option linter.unusedSimpArgs false
set_option linter.unusedVariables false
set_option linter.unusedSectionVars false
namespace Go.Clo

inductive Inf where
  | u
  | p
  | r (i : IR)
  | a (b : Blk)
  | e (H : Heap) (nx : Nat)
/-- One operation: the slots before it, what it put, what it was. -/
structure Rec where
  T : Tree Value
  v : Value
  inf : Inf

def esR : List Rec → List Nat
  | [] => []
  | r :: l => match r.inf with
    | .e _ _ => l.length :: esR l
    | _ => esR l
def asR : List Rec → List (Nat × Blk)
  | [] => []
  | r :: l => match r.inf with
    | .a b => (l.length, b) :: asR l
    | _ => asR l
def hR (H0 : Heap) : List Rec → Heap
  | [] => H0
  | r :: l => match r.inf with
    | .e H _ => H
    | _ => hR H0 l
def nR (n0 : Nat) : List Rec → Nat
  | [] => n0
  | r :: l => match r.inf with
    | .e _ nx => nx
    | _ => nR n0 l
def MsR (H0 : Heap) : List Rec → List Heap
  | [] => []
  | r :: l => match r.inf with
    | .e _ _ => hR H0 l :: MsR H0 l
    | _ => MsR H0 l
def rsR : List Rec → List Rd
  | [] => []
  | r :: l => match r.inf with
    | .r i => ⟨l.length, i, r.T, r.v⟩ :: rsR l
    | _ => rsR l
/-- The slots' values. -/
noncomputable def valR (ops : List Oper) (T0 : Tree Value) : List Rec → Nat → Value
  | [], t => (tg T0 t).getD undef
  | r :: l, t => if (ops[l.length]?).bind (·.dst) = some t then r.v else valR ops T0 l t

structure Fact (P : Program) (d n : Nat) (ops : List Oper) (N : Nat) (H0 : Heap) (n0 : Nat) (T0 : Tree Value) (r : Rec) (l : List Rec) (o : Oper) (s : S) : Prop where
  ho : ops[l.length]? = some o
  hs : compS P n ops o = some s
  hT : ∀ t, t < n → (tg r.T t).getD undef = valR ops T0 l t
  what : match r.inf with
    | .u => r.v = undef ∧ ∀ F a, GR s.guard F r.T a → Region.wanted o (yielded ops.toArray a.tmps) = false
    | .p => (∀ F a, GR s.guard F r.T a → Region.wanted o (yielded ops.toArray a.tmps) = true) ∧ PV P d n o r.T r.v
    | .r i => (∀ F a, GR s.guard F r.T a → Region.wanted o (yielded ops.toArray a.tmps) = true) ∧ s.i = .r i
    | .a b => (∀ F a, GR s.guard F r.T a → Region.wanted o (yielded ops.toArray a.tmps) = true) ∧ ∃ y, AV P d n o r.T b y ∧ r.v = y.val (N + l.length)
    | .e H' nx' => (∀ F a, GR s.guard F r.T a → Region.wanted o (yielded ops.toArray a.tmps) = true) ∧
        EV P d n o r.T (addB N (fun j => mBit (masks ops) l.length j && !merged (masks ops) (esR l) j) (hR H0 l) (asR l)) (nR n0 l) r.v H' nx' ∧ ∀ e ∈ esR l, mBit (masks ops) l.length e = true
def AllF (P : Program) (d n : Nat) (ops : List Oper) (N : Nat) (H0 : Heap) (n0 : Nat) (T0 : Tree Value) : List Rec → Prop
  | [] => True
  | r :: l => (∃ o s, Fact P d n ops N H0 n0 T0 r l o s) ∧ AllF P d n ops N H0 n0 T0 l

section
variable {β : Type} {P : Program} {d n : Nat} {ops : List Oper} {N : Nat} {H0 : Heap} {n0 : Nat} {T0 : Tree Value}

theorem put_val {rc : List Rec} {T : Tree Value} {o : Oper} (ho : ops[rc.length]? = some o) (hn : n ≤ 2 ^ d) (hw : WF d T) (hT : ∀ t, t < n → (tg T t).getD undef = valR ops T0 rc t) (hdn : ∀ q, o.dst = some q → q < n) (v : Value) (inf : Inf) (k : Tree Value → β) :
    ∃ T', putK d o.dst v T k = k T' ∧ WF d T' ∧ ∀ t, t < n → (tg T' t).getD undef = valR ops T0 (⟨T, v, inf⟩ :: rc) t := by
  cases hd : o.dst with
  | none =>
    refine ⟨T, rfl, hw, fun t ht => ?_⟩
    rw [hT t ht]
    simp [valR, ho, hd]
  | some q =>
    have hq := hdn q hd
    refine ⟨ts d T q v, tsK_eq d T q v k, WF_ts d T q v hw, fun t ht => ?_⟩
    rw [tg_ts d T q t v hw (Nat.lt_of_lt_of_le hq hn) (Nat.lt_of_lt_of_le ht hn)]
    simp only [valR, ho, hd, Option.bind_some]
    by_cases e : t = q
    · subst e; simp
    · have e' : ¬ (some q = some t) := by simp; exact fun h => e h.symm
      rw [if_neg e, if_neg e']
      exact hT t ht

theorem drawK_cons (call : CallT β) (ms : List Nat) (z : β) (k : Tree Value → Heap → Nat → List Heap → List Nat → List (Nat × Blk) → List Rd → β) (g : Option (Nat × Bool)) (dst : Option Nat) (op : I) (l : List S) (i : Nat) (T : Tree Value) (H : Heap) (nx : Nat) (Ms : List Heap) (es : List Nat) (as : List (Nat × Blk)) (rs : List Rd) :
    drawK P d call ms N z k (⟨g, dst, op⟩ :: l) i T H nx Ms es as rs = wantK g T z
    (match op with
     | .p op => evP P op T z fun v => putK d dst v T fun T => drawK P d call ms N z k l (i + 1) T H nx Ms es as rs
     | .r op => seesK ms N es i H (fun h => evR P op T h z fun v => putK d dst v T fun T' => drawK P d call ms N z k l (i + 1) T' H nx Ms es as (⟨i, op, T, v⟩ :: rs)) as
     | .a op => evA op T z fun b y => forceN (N + i) fun q => forceV (y.val q) fun v => putK d dst v T fun T => drawK P d call ms N z k l (i + 1) T H nx Ms es ((i, b) :: as) rs
     | .e op => cond (es.all fun e => mBit ms i e)
       (seesK ms N es i H (fun h => evE op call T h nx z fun v H' nx => putK d dst v T fun T => drawK P d call ms N z k l (i + 1) T H' nx (H :: Ms) (i :: es) as rs) as) z)
    (putK d dst undef T fun T => drawK P d call ms N z k l (i + 1) T H nx Ms es as rs) := rfl
theorem draw_run {call : CallT β} (hcall : CallOK P call) (hn : n ≤ 2 ^ d) (z : β) (k : Tree Value → Heap → Nat → List Heap → List Nat → List (Nat × Blk) → List Rd → β) :
    ∀ (suf : List Oper) (l : List S) (rc : List Rec) (T : Tree Value), compSs P n ops suf = some l → (∀ j, j < suf.length → suf[j]? = ops[rc.length + j]?) → AllF P d n ops N H0 n0 T0 rc → WF d T → (∀ t, t < n → (tg T t).getD undef = valR ops T0 rc t) →
    drawK P d call (masks ops) N z k l rc.length T (hR H0 rc) (nR n0 rc) (MsR H0 rc) (esR rc) (asR rc) (rsR rc) = z ∨
    ∃ rc' T', rc'.length = rc.length + suf.length ∧ AllF P d n ops N H0 n0 T0 rc' ∧ WF d T' ∧ (∀ t, t < n → (tg T' t).getD undef = valR ops T0 rc' t) ∧
      drawK P d call (masks ops) N z k l rc.length T (hR H0 rc) (nR n0 rc) (MsR H0 rc) (esR rc) (asR rc) (rsR rc) = k T' (hR H0 rc') (nR n0 rc') (MsR H0 rc') (esR rc') (asR rc') (rsR rc')
  | [], l, rc, T, h, _, hall, hw, hT => by
    simp [compSs] at h; subst h
    exact .inr ⟨rc, T, rfl, hall, hw, hT, by simp [drawK]⟩
  | o :: suf, l, rc, T, h, hsuf, hall, hw, hT => by
    simp only [compSs] at h
    cases hs : compS P n ops o with
    | none => simp [hs] at h
    | some s => cases hl : compSs P n ops suf with
      | none => simp [hs, hl] at h
      | some l' =>
        simp [hs, hl] at h; subst h
        have ho : ops[rc.length]? = some o := by have := hsuf 0 (by simp); simpa using this.symm
        have hsuf' : ∀ (inf : Inf) (v : Value) j, j < suf.length → suf[j]? = ops[((⟨T, v, inf⟩ : Rec) :: rc).length + j]? := fun inf v j hj => by
          have := hsuf (j + 1) (by simp; omega); simp at this ⊢; rw [this]; congr 1; omega
        obtain ⟨hg, hd, hdn, hi⟩ := compS_inv hs
        obtain ⟨g, dst, i⟩ := s
        dsimp only at hg hd hi
        subst hd
        -- the rest, behind one record
        have next : ∀ (inf : Inf) (v : Value) (T' : Tree Value), (∃ o s, Fact P d n ops N H0 n0 T0 ⟨T, v, inf⟩ rc o s) → WF d T' → (∀ t, t < n → (tg T' t).getD undef = valR ops T0 (⟨T, v, inf⟩ :: rc) t) →
            drawK P d call (masks ops) N z k l' (rc.length + 1) T' (hR H0 (⟨T, v, inf⟩ :: rc)) (nR n0 (⟨T, v, inf⟩ :: rc)) (MsR H0 (⟨T, v, inf⟩ :: rc)) (esR (⟨T, v, inf⟩ :: rc)) (asR (⟨T, v, inf⟩ :: rc)) (rsR (⟨T, v, inf⟩ :: rc)) = z ∨
            ∃ rc' T'', rc'.length = rc.length + (o :: suf).length ∧ AllF P d n ops N H0 n0 T0 rc' ∧ WF d T'' ∧ (∀ t, t < n → (tg T'' t).getD undef = valR ops T0 rc' t) ∧
              drawK P d call (masks ops) N z k l' (rc.length + 1) T' (hR H0 (⟨T, v, inf⟩ :: rc)) (nR n0 (⟨T, v, inf⟩ :: rc)) (MsR H0 (⟨T, v, inf⟩ :: rc)) (esR (⟨T, v, inf⟩ :: rc)) (asR (⟨T, v, inf⟩ :: rc)) (rsR (⟨T, v, inf⟩ :: rc)) = k T'' (hR H0 rc') (nR n0 rc') (MsR H0 rc') (esR rc') (asR rc') (rsR rc') := by
          intro inf v T' hf hw' hT'
          rcases draw_run hcall hn z k suf l' (⟨T, v, inf⟩ :: rc) T' hl (hsuf' inf v) ⟨hf, hall⟩ hw' hT' with h | ⟨rc', T'', h1, h2, h3, h4, h5⟩
          · exact .inl h
          · exact .inr ⟨rc', T'', by simp at h1 ⊢; omega, h2, h3, h4, h5⟩
        rw [drawK_cons]
        rcases wantK_sound hg T z _ _ with e | ⟨e, hw1⟩ | ⟨e, hw1⟩
        · exact .inl e
        · rw [e]
          cases i with
          | p ip =>
            dsimp only
            rcases soundP (P := P) (d := d) (T := T) hi z _ with h | ⟨v, h, hp⟩
            · exact .inl h
            · rw [h]
              obtain ⟨T', e1, e2, e3⟩ := put_val (T0 := T0) ho hn hw hT hdn v .p (fun T => drawK P d call (masks ops) N z k l' (rc.length + 1) T (hR H0 rc) (nR n0 rc) (MsR H0 rc) (esR rc) (asR rc) (rsR rc))
              rw [e1]
              exact next .p v T' ⟨o, _, ho, hs, hT, hw1, hp⟩ e2 e3
          | r ir =>
            dsimp only
            rw [sees_eq]
            rcases soundR (P := P) (d := d) (nx := 0) (T := T) (H := addB N (fun j => mBit (masks ops) rc.length j && !merged (masks ops) (esR rc) j) (hR H0 rc) (asR rc)) hi z _ with h | ⟨v, h, hp⟩
            · exact .inl h
            · rw [h]
              obtain ⟨T', e1, e2, e3⟩ := put_val (T0 := T0) ho hn hw hT hdn v (.r ir) (fun T' => drawK P d call (masks ops) N z k l' (rc.length + 1) T' (hR H0 rc) (nR n0 rc) (MsR H0 rc) (esR rc) (asR rc) (⟨rc.length, ir, T, v⟩ :: rsR rc))
              rw [e1]
              exact next (.r ir) v T' ⟨o, _, ho, hs, hT, hw1, rfl⟩ e2 e3
          | a ia =>
            dsimp only
            rcases soundA (P := P) (d := d) (T := T) hi z _ with h | ⟨b, y, h, hp⟩
            · exact .inl h
            · rw [h, forceN_eq, forceV_eq]
              obtain ⟨T', e1, e2, e3⟩ := put_val (T0 := T0) ho hn hw hT hdn (y.val (N + rc.length)) (.a b) (fun T => drawK P d call (masks ops) N z k l' (rc.length + 1) T (hR H0 rc) (nR n0 rc) (MsR H0 rc) (esR rc) ((rc.length, b) :: asR rc) (rsR rc))
              rw [e1]
              exact next (.a b) _ T' ⟨o, _, ho, hs, hT, hw1, y, hp, rfl⟩ e2 e3
          | e ie =>
            dsimp only
            cases hch : (esR rc).all fun e => mBit (masks ops) rc.length e with
            | false => exact .inl rfl
            | true =>
              dsimp only [cond_true]
              rw [sees_eq]
              rcases soundE (P := P) (d := d) (T := T) (nx := nR n0 rc) (H := addB N (fun j => mBit (masks ops) rc.length j && !merged (masks ops) (esR rc) j) (hR H0 rc) (asR rc)) hi hcall z _ with h | ⟨v, H', nx', h, hp⟩
              · exact .inl h
              · rw [h]
                obtain ⟨T', e1, e2, e3⟩ := put_val (T0 := T0) ho hn hw hT hdn v (.e H' nx') (fun T => drawK P d call (masks ops) N z k l' (rc.length + 1) T H' nx' (hR H0 rc :: MsR H0 rc) (rc.length :: esR rc) (asR rc) (rsR rc))
                rw [e1]
                exact next (.e H' nx') v T' ⟨o, _, ho, hs, hT, hw1, hp, fun e he => by rw [List.all_eq_true] at hch; exact hch e he⟩ e2 e3
        · rw [e]
          obtain ⟨T', e1, e2, e3⟩ := put_val (T0 := T0) ho hn hw hT hdn undef .u (fun T => drawK P d call (masks ops) N z k l' (rc.length + 1) T (hR H0 rc) (nR n0 rc) (MsR H0 rc) (esR rc) (asR rc) (rsR rc))
          rw [e1]
          exact next .u undef T' ⟨o, _, ho, hs, hT, rfl, hw1⟩ e2 e3
end
end Go.Clo
