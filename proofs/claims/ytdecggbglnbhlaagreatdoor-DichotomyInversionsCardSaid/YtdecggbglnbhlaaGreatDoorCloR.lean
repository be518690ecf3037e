/-
  The executor as a claim: groups in a region that draws; code with its joins marked; what such a claim says.
-/
import Derived.Test.YtdecggbglnbhlaaGreatDoorCloQ
set_option linter.unusedSimpArgs false
set_option linter.unusedVariables false
set_option linter.unusedSectionVars false
namespace Go.Clo

abbrev DK (β : Type) := Tree Value → Heap → Nat → List Heap → List Nat → List (Nat × Blk) → List Rd → β
section
variable {β : Type} {P : Program} {d : Nat} {call : CallT β} {z : β} {ms : List Nat} {N : Nat}
/-- One operation of a region, behind its guard. -/
noncomputable def drawI (P : Program) (d : Nat) (call : CallT β) (ms : List Nat) (N : Nat) (z : β) (k : DK β) (dst : Option Nat) (op : I) (i : Nat) : DK β := fun T H nx Ms es as rs =>
  match op with
     | .p op => evP P op T z fun v => putK d dst v T fun T => k T H nx Ms es as rs
     | .r op => seesK ms N es i H (fun h => evR P op T h z fun v => putK d dst v T fun T' => k T' H nx Ms es as (⟨i, op, T, v⟩ :: rs)) as
     | .a op => evA op T z fun b y => forceN (N + i) fun q => forceV (y.val q) fun v => putK d dst v T fun T => k T H nx Ms es ((i, b) :: as) rs
     | .e op => cond (es.all fun e => mBit ms i e)
       (seesK ms N es i H (fun h => evE op call T h nx z fun v H' nx => putK d dst v T fun T => k T H' nx (H :: Ms) (i :: es) as rs) as) z
theorem drawK_step (k : DK β) (g : Option (Nat × Bool)) (dst : Option Nat) (op : I) (l : List S) (i : Nat) (T : Tree Value) (H : Heap) (nx : Nat) (Ms : List Heap) (es : List Nat) (as : List (Nat × Blk)) (rs : List Rd) :
    drawK P d call ms N z k (⟨g, dst, op⟩ :: l) i T H nx Ms es as rs = wantK g T z (drawI P d call ms N z (drawK P d call ms N z k l (i + 1)) dst op i T H nx Ms es as rs)
      (putK d dst undef T fun T => drawK P d call ms N z k l (i + 1) T H nx Ms es as rs) := rfl
theorem drawI_congr (k k' : DK β) (dst : Option Nat) (op : I) (i : Nat) (T : Tree Value) (H : Heap) (nx : Nat) (Ms : List Heap) (es : List Nat) (as : List (Nat × Blk)) (rs : List Rd)
    (h : ∀ v H nx Ms es as rs, k (putT d dst v T) H nx Ms es as rs = k' (putT d dst v T) H nx Ms es as rs) : drawI P d call ms N z k dst op i T H nx Ms es as rs = drawI P d call ms N z k' dst op i T H nx Ms es as rs := by
  unfold drawI
  cases op with
  | p op => dsimp only; congr 1; funext v; rw [putK_T, putK_T, h]
  | r op => dsimp only; congr 1; funext hh; congr 1; funext v; rw [putK_T, putK_T, h]
  | a op => dsimp only; congr 1; funext b y; rw [forceN_eq, forceN_eq, forceV_eq, forceV_eq, putK_T, putK_T, h]
  | e op => dsimp only; congr 1; congr 1; funext hh; congr 1; funext v H' nx'; rw [putK_T, putK_T, h]
theorem drawK_congr {k k' : DK β} (h : ∀ T H nx Ms es as rs, WF d T → k T H nx Ms es as rs = k' T H nx Ms es as rs) : ∀ (l : List S) (i : Nat) (T : Tree Value) (H : Heap) (nx : Nat) (Ms : List Heap) (es : List Nat) (as : List (Nat × Blk)) (rs : List Rd), WF d T →
    drawK P d call ms N z k l i T H nx Ms es as rs = drawK P d call ms N z k' l i T H nx Ms es as rs
  | [], i, T, H, nx, Ms, es, as, rs, hw => h T H nx Ms es as rs hw
  | s :: l, i, T, H, nx, Ms, es, as, rs, hw => by
    obtain ⟨g, dst, op⟩ := s
    rw [drawK_step, drawK_step, putK_T, putK_T]
    rw [drawI_congr _ _ dst op i T H nx Ms es as rs fun v H nx Ms es as rs => drawK_congr h l (i + 1) (putT d dst v T) H nx Ms es as rs (putT_wf hw), drawK_congr h l (i + 1) _ H nx Ms es as rs (putT_wf hw)]
theorem drawK_append (k : DK β) (l2 : List S) : ∀ (l1 : List S) (i : Nat) (T : Tree Value) (H : Heap) (nx : Nat) (Ms : List Heap) (es : List Nat) (as : List (Nat × Blk)) (rs : List Rd), WF d T →
    drawK P d call ms N z k (l1 ++ l2) i T H nx Ms es as rs = drawK P d call ms N z (fun T H nx Ms es as rs => drawK P d call ms N z k l2 (i + l1.length) T H nx Ms es as rs) l1 i T H nx Ms es as rs
  | [], i, T, H, nx, Ms, es, as, rs, _ => rfl
  | s :: l1, i, T, H, nx, Ms, es, as, rs, hw => by
    obtain ⟨g, dst, op⟩ := s
    rw [List.cons_append, drawK_step, drawK_step, putK_T, putK_T]
    have e : i + (⟨g, dst, op⟩ :: l1 : List S).length = i + 1 + l1.length := by simp; omega
    rw [e]
    rw [drawI_congr _ _ dst op i T H nx Ms es as rs fun v H nx Ms es as rs => drawK_append k l2 l1 (i + 1) (putT d dst v T) H nx Ms es as rs (putT_wf hw), drawK_append k l2 l1 (i + 1) _ H nx Ms es as rs (putT_wf hw)]
theorem draw_yes (g : Option (Nat × Bool)) (k : DK β) : ∀ (l : List S) (i : Nat) (T : Tree Value) (H : Heap) (nx : Nat) (Ms : List Heap) (es : List Nat) (as : List (Nat × Blk)) (rs : List Rd), WF d T → okL d g l = true → wdec g T = some true →
    drawK P d call ms N z k (l.map (guardS g)) i T H nx Ms es as rs = drawK P d call ms N z k l i T H nx Ms es as rs
  | [], i, T, H, nx, Ms, es, as, rs, _, _, _ => rfl
  | s :: l, i, T, H, nx, Ms, es, as, rs, hw, hok, hd => by
    obtain ⟨g0, dst, op⟩ := s
    have hg0 : g0 = none := okL_free hok
    subst hg0
    show drawK P d call ms N z k (⟨g, dst, op⟩ :: l.map (guardS g)) i T H nx Ms es as rs = _
    rw [drawK_step, drawK_step, wantK_dec, wantK_dec none, hd, wdec_none]
    exact drawI_congr _ _ dst op i T H nx Ms es as rs fun v H nx Ms es as rs => draw_yes g k l (i + 1) _ H nx Ms es as rs (putT_wf hw) (okL_tail hok) ((wdec_putT hw hok).trans hd)
theorem draw_no (g : Option (Nat × Bool)) (k : DK β) : ∀ (l : List S) (i : Nat) (T : Tree Value) (H : Heap) (nx : Nat) (Ms : List Heap) (es : List Nat) (as : List (Nat × Blk)) (rs : List Rd), WF d T → okL d g l = true → wdec g T = some false →
    drawK P d call ms N z k (l.map (guardS g)) i T H nx Ms es as rs = skipK d (fun T => k T H nx Ms es as rs) l T
  | [], i, T, H, nx, Ms, es, as, rs, _, _, _ => rfl
  | s :: l, i, T, H, nx, Ms, es, as, rs, hw, hok, hd => by
    obtain ⟨g0, dst, op⟩ := s
    show drawK P d call ms N z k (⟨g, dst, op⟩ :: l.map (guardS g)) i T H nx Ms es as rs = _
    rw [drawK_step, wantK_dec, hd]
    simp only [skipK]
    rw [putK_T, putK_T]
    exact draw_no g k l (i + 1) _ H nx Ms es as rs (putT_wf hw) (okL_tail hok) ((wdec_putT (s := ⟨g0, dst, op⟩) hw hok).trans hd)
end
noncomputable def gdrawK (P : Program) (d : Nat) (ms : List Nat) (N : Nat) (k : DK Prop) : List G → HT → Nat → DK Prop
  | [], _, _, T, H, nx, Ms, es, as, rs => k T H nx Ms es as rs
  | (g, l) :: gs, ht, i, T, H, nx, Ms, es, as, rs => match ht with
    | .nil => False
    | .one r => wantK g T False
      (drawK P d (callP P) ms N False (fun T H nx Ms es as rs => gdrawK P d ms N k gs r (i + l.length) T H nx Ms es as rs) l i T H nx Ms es as rs)
      (skipK d (fun T => gdrawK P d ms N k gs r (i + l.length) T H nx Ms es as rs) l T)
    | .tst y n => askK d g T
      (fun T => drawK P d (callP P) ms N False (fun T H nx Ms es as rs => gdrawK P d ms N k gs y (i + l.length) T H nx Ms es as rs) l i T H nx Ms es as rs)
      (fun T => skipK d (fun T => gdrawK P d ms N k gs n (i + l.length) T H nx Ms es as rs) l T)
theorem draw_way {P : Program} {d : Nat} {ms : List Nat} {N : Nat} {g : Option (Nat × Bool)} {l : List S} {i : Nat} {T : Tree Value} {H : Heap} {nx : Nat} {Ms : List Heap} {es : List Nat} {as : List (Nat × Blk)} {rs : List Rd} {k : DK Prop} (hw : WF d T) (hok : okL d g l = true)
    (h : (wdec g T = some true ∧ drawK P d (callP P) ms N False k l i T H nx Ms es as rs) ∨ (wdec g T = some false ∧ skipK d (fun T => k T H nx Ms es as rs) l T)) : drawK P d (callP P) ms N False k (l.map (guardS g)) i T H nx Ms es as rs := by
  rcases h with ⟨hd, h⟩ | ⟨hd, h⟩
  · rw [draw_yes g k l i T H nx Ms es as rs hw hok hd]; exact h
  · rw [draw_no g k l i T H nx Ms es as rs hw hok hd]; exact h
theorem gdraw_run {P : Program} {d n : Nat} {ops : List Oper} {N : Nat} {H0 : Heap} {n0 : Nat} {T0 : Tree Value} (hn : n ≤ 2 ^ d) (k : DK Prop) :
    ∀ (gs : List G) (ht : HT) (suf : List Oper) (rc : List Rec) (T : Tree Value), compSs P n ops suf = some (eraseG gs) → (∀ j, j < suf.length → suf[j]? = ops[rc.length + j]?) → okG d gs = true → AllF P d n ops N H0 n0 T0 rc → WF d T → (∀ t, t < n → (tg T t).getD undef = valR ops T0 rc t) →
    gdrawK P d (masks ops) N k gs ht rc.length T (hR H0 rc) (nR n0 rc) (MsR H0 rc) (esR rc) (asR rc) (rsR rc) →
    ∃ rc' T', rc'.length = rc.length + suf.length ∧ AllF P d n ops N H0 n0 T0 rc' ∧ WF d T' ∧ (∀ t, t < n → (tg T' t).getD undef = valR ops T0 rc' t) ∧
      k T' (hR H0 rc') (nR n0 rc') (MsR H0 rc') (esR rc') (asR rc') (rsR rc')
  | [], ht, suf, rc, T, hc, hsuf, hok, hall, hw, hT, h => by
    cases suf with
    | nil => exact ⟨rc, T, rfl, hall, hw, hT, h⟩
    | cons o suf =>
      simp only [eraseG, compSs] at hc
      split at hc <;> simp at hc
  | (g, l) :: gs, ht, suf, rc, T, hc, hsuf, hok, hall, hw, hT, h => by
    simp only [okG, Bool.and_eq_true] at hok
    obtain ⟨s1, s2, rfl, hc1, hc2⟩ := compSs_split hc
    have hl1 : l.length = s1.length := by have := compSs_len hc1; simpa using this
    have way : ∃ ht', drawK P d (callP P) (masks ops) N False (fun T H nx Ms es as rs => gdrawK P d (masks ops) N k gs ht' (rc.length + l.length) T H nx Ms es as rs) (l.map (guardS g)) rc.length T (hR H0 rc) (nR n0 rc) (MsR H0 rc) (esR rc) (asR rc) (rsR rc) := by
      simp only [gdrawK] at h
      cases ht with
      | nil => exact h.elim
      | one r =>
        dsimp only at h
        rw [wantK_dec] at h
        refine ⟨r, draw_way hw hok.1.1.1 ?_⟩
        cases hd : wdec g T with
        | none => rw [hd] at h; exact h.elim
        | some b =>
          rw [hd] at h
          cases b with
          | true => exact .inl ⟨rfl, h⟩
          | false => exact .inr ⟨rfl, h⟩
      | tst y m =>
        dsimp only at h
        rcases ask_dec hw hok.2 h with ⟨hd, h⟩ | ⟨hd, h⟩
        · exact ⟨y, draw_way hw hok.1.1.1 (.inl ⟨hd, h⟩)⟩
        · exact ⟨m, draw_way hw hok.1.1.1 (.inr ⟨hd, h⟩)⟩
    obtain ⟨ht', h'⟩ := way
    have hs1 : ∀ j, j < s1.length → s1[j]? = ops[rc.length + j]? := fun j hj => by
      have := hsuf j (by simp; omega)
      rw [List.getElem?_append_left hj] at this; exact this
    rcases draw_run (N := N) (H0 := H0) (n0 := n0) (T0 := T0) (callP_ok P) hn False _ s1 _ rc T hc1 hs1 hall hw hT with h1 | ⟨rc1, T1, hlen, hall1, hw1, hT1, h1⟩
    · rw [h1] at h'; exact h'.elim
    · rw [h1] at h'
      have hs2 : ∀ j, j < s2.length → s2[j]? = ops[rc1.length + j]? := fun j hj => by
        have := hsuf (s1.length + j) (by simp; omega)
        rw [List.getElem?_append_right (by omega)] at this
        rw [hlen]
        simpa [Nat.add_assoc] using this
      rw [hl1, ← hlen] at h'
      obtain ⟨rc2, T2, g1, g2, g3, g4, g5⟩ := gdraw_run hn k gs ht' s2 rc1 T1 hc2 hs2 hok.1.2 hall1 hw1 hT1 h'
      exact ⟨rc2, T2, by simp; omega, g2, g3, g4, g5⟩

/-! Code with its joins marked. -/
inductive D where
  | skip
  | ops (gs : List G) (ht : HT)
  | draw (ms : List Nat) (gs : List G) (ht : HT)
  | seq (a b : D)
  | join (ws ds : List Nat) (a b : D)
  | cond (x : X) (t e : D)
  | block (id : Nat) (c : D)
  | loop (ws ds : List Nat) (c : D)
  | exit (id : Nat)
  | ret
def D.erase : D → C
  | .skip => .skip
  | .ops gs _ => .ops (eraseG gs)
  | .draw ms gs _ => .draw ms (eraseG gs)
  | .seq a b => .seq a.erase b.erase
  | .join _ _ a b => .seq a.erase b.erase
  | .cond x t e => .cond x t.erase e.erase
  | .block id c => .block id c.erase
  | .loop _ _ c => .loop c.erase
  | .exit id => .exit id
  | .ret => .ret
def D.writes : D → List Nat
  | .ops gs _ => dstsG gs
  | .draw _ gs _ => dstsG gs
  | .seq a b => a.writes ++ b.writes
  | .join ws ds a b => a.writes ++ ((ws ++ ds) ++ b.writes)
  | .cond _ t e => t.writes ++ e.writes
  | .block _ c => c.writes
  | .loop ws ds c => (ws ++ ds) ++ c.writes
  | _ => []
def subL (a b : List Nat) : Bool := a.all fun x => b.any fun y => Nat.beq x y
def allLt (n : Nat) (l : List Nat) : Bool := l.all fun x => Nat.blt x n
def nodupB : List Nat → Bool
  | [] => true
  | x :: l => !(l.any fun y => Nat.beq x y) && nodupB l
def D.ok (n d : Nat) : D → Bool
  | .ops gs _ => okG d gs
  | .draw _ gs _ => okG d gs
  | .seq a b => a.ok n d && b.ok n d
  | .join ws ds a b => subL a.writes (ws ++ ds) && allLt n (ws ++ ds) && nodupB ws && a.ok n d && b.ok n d
  | .cond _ t e => t.ok n d && e.ok n d
  | .block _ c => c.ok n d
  | .loop ws ds c => subL c.writes (ws ++ ds) && allLt n (ws ++ ds) && nodupB ws && c.ok n d
  | _ => true

/-! Slots at a join. -/
abbrev JK := List Value → Heap → Nat → Prop
noncomputable def getsK {β : Type} (T : Tree Value) (ws : List Nat) : (List Value → β) → β :=
  @List.rec Nat (fun _ => (List Value → β) → β) (fun k => k []) (fun w _ ih k => tgK T w (ih fun vs => k (undef :: vs)) fun v => ih fun vs => k (v :: vs)) ws
noncomputable def setsK {β : Type} (d : Nat) (L : List Value) : List Nat → Nat → Tree Value → (Tree Value → β) → β
  | [], _, T, k => k T
  | w :: ws, i, T, k => tsK d T w (L.getD i undef) fun T => setsK d L ws (i + 1) T k
noncomputable def poisK {β : Type} (d : Nat) : List Nat → Tree Value → (Tree Value → β) → β
  | [], T, k => k T
  | w :: ws, T, k => tsK d T w poison fun T => poisK d ws T k

def wJoin (body : JK → Prop) (rest : JK) : Prop := body rest
noncomputable def wIter (F : JK → JK) (m : Nat) : JK := @Nat.rec (fun _ => JK) (fun _ _ _ => False) (fun _ ih => F ih) m
def wLoop (F : JK → JK) (L : List Value) (H : Heap) (nx : Nat) : Prop := ∃ m, wIter F m L H nx
def wIf (v : Value) (t e : Prop) : Prop :=
  match v with
  | .bool b => ifK b t e
  | _ => False

noncomputable def wD (P : Program) (d : Nat) (c : D) : Tree Value → Heap → Nat → K Prop → (Nat → K Prop) → K Prop → Prop :=
  match c with
  | .skip => fun T H nx k _ _ => k T H nx
  | .ops gs ht => fun T H nx k _ _ => gopsK P d k gs ht T H nx
  | .draw ms gs ht => fun T H nx k _ _ => forceN (nx + (eraseG gs).length) fun nx' =>
      gdrawK P d ms nx (fun T H n Ms es as rs => chkP P ms nx as rs es Ms H (mergeK ms nx es H (fun H => k T H n) as) False) gs ht 0 T H nx' [] [] [] []
  | .seq a b => fun T H nx k x r => wD P d a T H nx (fun T H nx => wD P d b T H nx k x r) x r
  | .join ws ds a b => fun T H nx k x r => wJoin (fun j => wD P d a T H nx (fun T H nx => getsK T ws fun L => j L H nx) x r)
      (fun L H nx => poisK d ds T fun T => setsK d L ws 0 T fun T => wD P d b T H nx k x r)
  | .cond c t e => fun T H nx k x r => evK T c fun v => wIf v (wD P d t T H nx k x r) (wD P d e T H nx k x r)
  | .block id c => fun T H nx k x r => wD P d c T H nx k (fun id' T H nx => cond (Nat.beq id' id) (k T H nx) (x id' T H nx)) r
  | .loop ws ds c => fun T H nx _ x r => getsK T ws fun L => wLoop (fun ih L H nx => poisK d ds T fun T => setsK d L ws 0 T fun T => wD P d c T H nx (fun T H nx => getsK T ws fun L => ih L H nx) x r) L H nx
  | .exit id => fun T H nx _ x _ => x id T H nx
  | .ret => fun T H nx _ _ r => r T H nx

noncomputable def slots (T : Tree Value) (ws : List Nat) : List Value := ws.map fun w => (tg T w).getD undef
theorem getsK_eq {β : Type} (T : Tree Value) : ∀ (ws : List Nat) (k : List Value → β), getsK T ws k = k (slots T ws)
  | [], k => rfl
  | w :: ws, k => by
    show tgK T w (getsK T ws fun vs => k (undef :: vs)) (fun v => getsK T ws fun vs => k (v :: vs)) = _
    rw [tgK_eq]
    cases h : tg T w with
    | none => simp only [Option.elim_none]; rw [getsK_eq T ws]; simp [slots, h]
    | some v => simp only [Option.elim_some]; rw [getsK_eq T ws]; simp [slots, h]
noncomputable def setT (d : Nat) (L : List Value) : List Nat → Nat → Tree Value → Tree Value
  | [], _, T => T
  | w :: ws, i, T => setT d L ws (i + 1) (ts d T w (L.getD i undef))
theorem setsK_eq {β : Type} (d : Nat) (L : List Value) : ∀ (ws : List Nat) (i : Nat) (T : Tree Value) (k : Tree Value → β), setsK d L ws i T k = k (setT d L ws i T)
  | [], _, _, _ => rfl
  | w :: ws, i, T, k => by simp only [setsK, setT]; rw [tsK_eq]; exact setsK_eq d L ws _ _ k
noncomputable def poisT (d : Nat) : List Nat → Tree Value → Tree Value
  | [], T => T
  | w :: ws, T => poisT d ws (ts d T w poison)
theorem poisK_eq {β : Type} (d : Nat) : ∀ (ws : List Nat) (T : Tree Value) (k : Tree Value → β), poisK d ws T k = k (poisT d ws T)
  | [], _, _ => rfl
  | w :: ws, T, k => by simp only [poisK, poisT]; rw [tsK_eq]; exact poisK_eq d ws _ k
theorem setT_wf {d : Nat} {L : List Value} : ∀ {ws : List Nat} {i : Nat} {T : Tree Value}, WF d T → WF d (setT d L ws i T)
  | [], _, _, h => h
  | w :: ws, i, T, h => setT_wf (ws := ws) (WF_ts d T w _ h)
theorem poisT_wf {d : Nat} : ∀ {ws : List Nat} {T : Tree Value}, WF d T → WF d (poisT d ws T)
  | [], _, h => h
  | w :: ws, T, h => poisT_wf (ws := ws) (WF_ts d T w _ h)
theorem poisT_get {d n : Nat} (hn : n ≤ 2 ^ d) : ∀ {ws : List Nat} {T : Tree Value}, WF d T → (∀ w ∈ ws, w < n) → ∀ j, j < n → (tg (poisT d ws T) j).getD undef = if j ∈ ws then poison else (tg T j).getD undef
  | [], T, _, _, j, _ => by simp [poisT]
  | w :: ws, T, hw, hl, j, hj => by
    have hwn : w < n := hl w (by simp)
    simp only [poisT]
    rw [poisT_get hn (WF_ts d T w _ hw) (fun x hx => hl x (by simp [hx])) j hj]
    by_cases h1 : j ∈ ws
    · simp [h1]
    · rw [if_neg h1, tg_ts d T w j _ hw (by omega) (by omega)]
      by_cases h2 : j = w
      · simp [h2]
      · simp [h1, h2]
theorem setT_get {d n : Nat} (hn : n ≤ 2 ^ d) {L : List Value} : ∀ {ws : List Nat} {i : Nat} {T : Tree Value}, WF d T → (∀ w ∈ ws, w < n) → nodupB ws = true → ∀ j, j < n →
    (j ∉ ws → (tg (setT d L ws i T) j).getD undef = (tg T j).getD undef) ∧ (∀ q, ws[q]? = some j → (tg (setT d L ws i T) j).getD undef = L.getD (i + q) undef)
  | [], i, T, _, _, _, j, _ => ⟨fun _ => rfl, fun q h => by simp at h⟩
  | w :: ws, i, T, hw, hl, hnd, j, hj => by
    have hwn : w < n := hl w (by simp)
    simp only [nodupB, Bool.and_eq_true] at hnd
    have hww : w ∉ ws := by
      intro h
      have := hnd.1
      simp at this
      exact this w h rfl
    obtain ⟨h1, h2⟩ := setT_get hn (L := L) (ws := ws) (i := i + 1) (WF_ts d T w (L.getD i undef) hw) (fun x hx => hl x (by simp [hx])) hnd.2 j hj
    simp only [setT]
    refine ⟨fun hne => ?_, fun q hq => ?_⟩
    · simp at hne
      rw [h1 hne.2, tg_ts d T w j _ hw (by omega) (by omega), if_neg hne.1]
    · cases q with
      | zero =>
        simp at hq; subst hq
        rw [h1 hww, tg_ts d T w w _ hw (by omega) (by omega), if_pos rfl]
        simp
      | succ q =>
        rw [h2 q (by simpa using hq)]
        congr 1; omega

/-- The store at a join stands for the slots as they are. -/
theorem TR.join {d n : Nat} {F : FM} {T T' : Tree Value} {tmps : Array Value} {ws ds W : List Nat} (hn : n ≤ 2 ^ d) (hwT : WF d T) (ht : TR d F T' n tmps) (ha : Agr n W T T') (hs : ∀ j ∈ W, j ∈ ws ++ ds) (hl : ∀ j ∈ ws ++ ds, j < n) (hnd : nodupB ws = true) :
    TR d F (setT d (slots T' ws) ws 0 (poisT d ds T)) n tmps := by
  have hlw : ∀ w ∈ ws, w < n := fun w h => hl w (List.mem_append_left _ h)
  have hld : ∀ w ∈ ds, w < n := fun w h => hl w (List.mem_append_right _ h)
  refine ⟨setT_wf (poisT_wf hwT), ht.size, ht.le, fun j hj => ?_⟩
  obtain ⟨h1, h2⟩ := setT_get hn (L := slots T' ws) (ws := ws) (i := 0) (poisT_wf (ws := ds) hwT) hlw hnd j hj
  by_cases hjw : j ∈ ws
  · obtain ⟨q, hq⟩ := List.getElem?_of_mem hjw
    rw [h2 q hq]
    have : (slots T' ws).getD (0 + q) undef = (tg T' j).getD undef := by simp [slots, hq]
    rw [this]; exact ht.get j hj
  · rw [h1 hjw, poisT_get hn hwT hld j hj]
    by_cases hjd : j ∈ ds
    · rw [if_pos hjd]; exact .any _
    · rw [if_neg hjd, ← ha j hj (fun h => (List.mem_append.1 (hs j h)).elim hjw hjd)]
      exact ht.get j hj
theorem agr_join {d n : Nat} {T : Tree Value} {L : List Value} {ws ds : List Nat} (hn : n ≤ 2 ^ d) (hwT : WF d T) (hl : ∀ j ∈ ws ++ ds, j < n) (hnd : nodupB ws = true) : Agr n (ws ++ ds) T (setT d L ws 0 (poisT d ds T)) := by
  intro j hj hne
  rw [List.mem_append] at hne
  obtain ⟨h1, _⟩ := setT_get hn (L := L) (ws := ws) (i := 0) (poisT_wf (ws := ds) hwT) (fun w h => hl w (List.mem_append_left _ h)) hnd j hj
  rw [h1 (fun h => hne (.inl h)), poisT_get hn hwT (fun w h => hl w (List.mem_append_right _ h)) j hj, if_neg (fun h => hne (.inr h))]
theorem subL_mem {a b : List Nat} (h : subL a b = true) : ∀ j ∈ a, j ∈ b := by
  intro j hj
  unfold subL at h
  have := List.all_eq_true.1 h j hj
  obtain ⟨y, hy, he⟩ := List.any_eq_true.1 this
  rw [Nat.eq_of_beq_eq_true he]; exact hy
theorem allLt_mem {n : Nat} {a : List Nat} (h : allLt n a = true) : ∀ j ∈ a, j < n := by
  intro j hj
  have := List.all_eq_true.1 h j hj
  simpa using this
end Go.Clo
