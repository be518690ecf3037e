/-
  The executor as a claim: calls by their contracts, the look at a region's readings, groups of guarded operations.
-/
import Derived.Test.YtdecggbglnbhlaaGreatDoorCloP
set_option linter.unusedSimpArgs false
set_option linter.unusedVariables false
set_option linter.unusedSectionVars false
namespace Go.Clo

/-! Calls. -/
/-- A call of the function answers so that Q holds. -/
def Ans (P : Program) (f : FuncId) (args : List Value) (H : Heap) (nx : Nat) (Q : Value → Heap → Nat → Prop) : Prop :=
  ∃ v H' nx', CS P f args H nx v H' nx' ∧ Q v H' nx'
def callP (P : Program) : CallT Prop := fun f args H nx z k => z ∨ Ans P f args H nx k
theorem callP_ok (P : Program) : CallOK P (callP P) := by
  intro f args H nx z k
  by_cases hz : z
  · exact .inl (by unfold callP; simp [hz])
  · by_cases h : Ans P f args H nx k
    · obtain ⟨v, H', nx', hcs, hk⟩ := h
      refine .inr ⟨v, H', nx', ?_, hcs⟩
      unfold callP
      apply propext
      exact ⟨fun _ => hk, fun _ => .inr ⟨v, H', nx', hcs, hk⟩⟩
    · exact .inl (by unfold callP; apply propext; exact ⟨fun hh => hh.elim id (fun hh => absurd hh h), .inl⟩)
theorem Ans.mono {P : Program} {f : FuncId} {args : List Value} {H : Heap} {nx : Nat} {Q Q' : Value → Heap → Nat → Prop} (h : Ans P f args H nx Q) (hq : ∀ v H' nx', Q v H' nx' → Q' v H' nx') : Ans P f args H nx Q' :=
  let ⟨v, H', nx', h1, h2⟩ := h; ⟨v, H', nx', h1, hq _ _ _ h2⟩

/-! Readings. -/
noncomputable def sameP (P : Program) (ms : List Nat) (N : Nat) (as : List (Nat × Blk)) (r : Rd) : List Nat → List Heap → Heap → List Nat → Prop
  | es, Ms, M, later =>
    (cond (es.any (fun e => mBit ms e r.i) || later.any (fun e => mBit ms r.i e)) True
      (seesK ms N es r.i M (fun h => evR P r.r r.T h False fun v => v = r.v) as)) ∧
    (match es, Ms with
     | e :: es', M' :: Ms' => cond (mBit ms r.i e) True (sameP P ms N as r es' Ms' M' (e :: later))
     | [], [] => True
     | _, _ => False)
noncomputable def allP (P : Program) (ms : List Nat) (N : Nat) (as : List (Nat × Blk)) (es : List Nat) (Ms : List Heap) (H : Heap) : List Rd → Prop
  | [] => True
  | r :: rs => sameP P ms N as r es Ms H [] ∧ allP P ms N as es Ms H rs
noncomputable def chkP (P : Program) : ChkT Prop := fun ms N as rs es Ms H y z => (allP P ms N as es Ms H rs ∧ y) ∨ z
theorem sameP_at {P : Program} {ms : List Nat} {N : Nat} {as : List (Nat × Blk)} {r : Rd} {H0 : Heap} : ∀ (rc : List Rec) (later : List Nat), sameP P ms N as r (esR rc) (MsR H0 rc) (hR H0 rc) later → ∀ (pre l' : List Rec), rc = pre ++ l' →
    (∀ e, e ∈ esR rc → e ∉ esR l' → mBit ms r.i e = false) → (∀ e ∈ later, mBit ms r.i e = false) → (∀ e ∈ esR l', mBit ms e r.i = false) →
    evR P r.r r.T (addB N (fun j => mBit ms r.i j && !merged ms (esR l') j) (hR H0 l') as) False (fun v => v = r.v)
  | rc, later, h, [], l', e, _, h2, h3 => by
    simp at e; subst e
    rw [sameP.eq_def] at h
    have c1 : ((esR rc).any (fun e => mBit ms e r.i) || later.any (fun e => mBit ms r.i e)) = false := by
      rw [Bool.or_eq_false_iff]
      refine ⟨?_, ?_⟩
      · rw [List.any_eq_false]; intro x hx; simp [h3 x hx]
      · rw [List.any_eq_false]; intro x hx; simp [h2 x hx]
    have := h.1
    rw [c1] at this
    simp only [cond_false] at this
    rw [sees_eq] at this
    exact this
  | [], later, h, p :: pre, l', e, _, _, _ => by simp at e
  | r0 :: l, later, h, p :: pre, l', e, h1, h2, h3 => by
    simp at e
    obtain ⟨rfl, rfl⟩ := e
    cases hinf : r0.inf with
    | e H' nx' =>
      simp only [esR, MsR, hR, hinf] at h
      rw [sameP.eq_def] at h
      have hb := h.2
      dsimp only at hb
      have hidx : mBit ms r.i (pre ++ l').length = false := h1 _ (by simp [esR, hinf]) (fun hm => by have := esR_lt hm; simp at this; omega)
      rw [hidx] at hb
      simp only [cond_false] at hb
      refine sameP_at (pre ++ l') _ hb pre l' rfl (fun e he hn => h1 e (by simp [esR, hinf, he]) hn) ?_ h3
      intro e he
      rcases List.mem_cons.1 he with rfl | he
      · exact hidx
      · exact h2 e he
    | _ =>
      simp only [esR, MsR, hR, hinf] at h
      exact sameP_at (pre ++ l') later h pre l' rfl (fun e he hn => h1 e (by simp [esR, hinf, he]) hn) h2 h3
theorem allP_mem {P : Program} {ms : List Nat} {N : Nat} {as : List (Nat × Blk)} {es : List Nat} {Ms : List Heap} {H : Heap} : ∀ {rs : List Rd}, allP P ms N as es Ms H rs → ∀ r ∈ rs, sameP P ms N as r es Ms H []
  | [], _, r, hr => by cases hr
  | r0 :: rs, h, r, hr => by
    rcases List.mem_cons.1 hr with rfl | hr
    · exact h.1
    · exact allP_mem h.2 r hr
theorem chkP_ok (P : Program) : ChkOK P (chkP P) := by
  intro d n ops N H0 rc y z
  unfold chkP
  by_cases hz : z
  · exact .inl (by apply propext; simp [hz])
  · by_cases hall : allP P (masks ops) N (asR rc) (esR rc) (MsR H0 rc) (hR H0 rc) (rsR rc)
    · refine .inr ⟨by apply propext; simp [hall, hz], fun r hr pre l' hsuf h1 h2 nx o hc => ?_⟩
      have hsame := sameP_at rc [] (allP_mem hall r hr) pre l' hsuf h1 (by simp) h2
      rcases soundR (P := P) (d := d) (n := n) (nx := nx) (o := o) (T := r.T) (H := addB N (fun j => mBit (masks ops) r.i j && !merged (masks ops) (esR l') j) (hR H0 l') (asR rc)) hc False (fun v => v = r.v) with h | ⟨v, h, hrv⟩
      · rw [h] at hsame; exact hsame.elim
      · rw [h] at hsame
        rw [← hsame]; exact hrv
    · exact .inl (by apply propext; simp [hall])

/-! Groups of operations under one guard. -/
/-- What a guard says: carry out, leave out, or nothing. -/
noncomputable def wdec (g : Option (Nat × Bool)) (T : Tree Value) : Option Bool := wantK g T none (some true) (some false)
theorem wantK_dec {β : Type} (g : Option (Nat × Bool)) (T : Tree Value) (z yes no : β) : wantK g T z yes no = match wdec g T with | none => z | some true => yes | some false => no := by
  unfold wdec wantK
  cases g with
  | none => rfl
  | some tw =>
    obtain ⟨t, want⟩ := tw
    dsimp only
    rw [tgK_eq, tgK_eq]
    cases tg T t with
    | none => rfl
    | some v =>
      dsimp only [Option.elim_some]
      cases v <;> try rfl
      rename_i b
      dsimp only
      rw [ifK_eq, ifK_eq]
      cases b <;> cases want <;> rfl
theorem wdec_put {d : Nat} {T : Tree Value} {t q : Nat} {want : Bool} {v : Value} (hw : WF d T) (ht : t < 2 ^ d) (hq : q < 2 ^ d) (hne : q ≠ t) : wdec (some (t, want)) (ts d T q v) = wdec (some (t, want)) T := by
  unfold wdec wantK
  dsimp only
  rw [tgK_eq, tgK_eq, tg_ts d T q t v hw hq ht, if_neg (Ne.symm hne)]

/-- A slot written with what it holds. -/
theorem ts_same {α : Type} : ∀ (d : Nat) (T : Tree α) (t : Nat) (v : α), WF d T → t < 2 ^ d → tg T t = some v → ts d T t v = T := by
  intro d
  induction d with
  | zero =>
    intro T t v hw ht hg
    cases T with
    | leaf => simp at hg
    | tip a => simp at hg; subst hg; rfl
    | node l r => exact hw.elim
  | succ d ih =>
    intro T t v hw ht hg
    have ht2 : t / 2 < 2 ^ d := by rw [Nat.pow_succ] at ht; omega
    cases T with
    | leaf => simp at hg
    | tip a => exact hw.elim
    | node l r =>
      rw [tg_node] at hg
      rw [ts_succ]
      dsimp only
      split at hg
      · rename_i h; rw [if_pos h, ih l _ v hw.1 ht2 hg]
      · rename_i h; rw [if_neg h, ih r _ v hw.2 ht2 hg]
def okT (d : Nat) : Option (Nat × Bool) → Bool
  | none => true
  | some (t, _) => Nat.blt t (2 ^ d)
/-- How the groups of a region go on: a guard is asked, and both ways have their own; else one way. -/
inductive HT where
  | nil
  | one (r : HT)
  | tst (y n : HT)
abbrev G := Option (Nat × Bool) × List S
def guardS (g : Option (Nat × Bool)) (s : S) : S := ⟨g, s.dst, s.i⟩
def eraseG : List G → List S
  | [] => []
  | (g, l) :: gs => l.map (guardS g) ++ eraseG gs
/-- The group's slots: none is the guard's. -/
def okL (d : Nat) (g : Option (Nat × Bool)) : List S → Bool
  | [] => true
  | s :: l => (match s.guard with | none => true | some _ => false) && (match g, s.dst with
    | some (t, _), some q => Nat.blt t (2 ^ d) && Nat.blt q (2 ^ d) && !(Nat.beq q t)
    | _, _ => true) && okL d g l
def okG (d : Nat) : List G → Bool
  | [] => true
  | (g, l) :: gs => okL d g l && (match l with | [] => false | _ => true) && okG d gs && okT d g
noncomputable def skipK {β : Type} (d : Nat) (k : Tree Value → β) : List S → Tree Value → β
  | [], T => k T
  | s :: l, T => putK d s.dst undef T fun T => skipK d k l T

noncomputable def putT (d : Nat) (dst : Option Nat) (v : Value) (T : Tree Value) : Tree Value :=
  match dst with
  | none => T
  | some t => ts d T t v
theorem putK_T {β : Type} (d : Nat) (dst : Option Nat) (v : Value) (T : Tree Value) (k : Tree Value → β) : putK d dst v T k = k (putT d dst v T) := by
  cases dst with
  | none => rfl
  | some t => exact tsK_eq d T t v k
theorem putT_wf {d : Nat} {dst : Option Nat} {v : Value} {T : Tree Value} (h : WF d T) : WF d (putT d dst v T) := by
  cases dst with
  | none => exact h
  | some t => exact WF_ts d T t v h
theorem wdec_putT {d : Nat} {T : Tree Value} {g : Option (Nat × Bool)} {s : S} {l : List S} {v : Value} (hw : WF d T) (hok : okL d g (s :: l) = true) : wdec g (putT d s.dst v T) = wdec g T := by
  cases g with
  | none => rfl
  | some tw =>
    obtain ⟨t, want⟩ := tw
    cases hd : s.dst with
    | none => rfl
    | some q =>
      simp only [okL, hd, Bool.and_eq_true, Nat.blt_eq] at hok
      exact wdec_put hw hok.1.2.1.1 hok.1.2.1.2 (by rintro rfl; have := hok.1.2.2; simp at this)
theorem okL_tail {d : Nat} {g : Option (Nat × Bool)} {s : S} {l : List S} (h : okL d g (s :: l) = true) : okL d g l = true := by
  simp only [okL, Bool.and_eq_true] at h; exact h.2
theorem okL_free {d : Nat} {g : Option (Nat × Bool)} {s : S} {l : List S} (h : okL d g (s :: l) = true) : s.guard = none := by
  simp only [okL, Bool.and_eq_true] at h
  cases hg : s.guard with
  | none => rfl
  | some _ => rw [hg] at h; cases h.1.1

section
variable {β : Type} {P : Program} {d : Nat} {call : CallT β} {z : β}
theorem opsK_cons (k : Tree Value → Heap → Nat → β) (s : S) (l : List S) (T : Tree Value) (H : Heap) (nx : Nat) : opsK P d call z k (s :: l) T H nx = stepS P d call s T H nx z (opsK P d call z k l) := rfl
theorem stepS_eq (g : Option (Nat × Bool)) (dst : Option Nat) (i : I) (T : Tree Value) (H : Heap) (nx : Nat) (k : Tree Value → Heap → Nat → β) :
    stepS P d call ⟨g, dst, i⟩ T H nx z k = wantK g T z (runI i P d dst call T H nx z k) (putK d dst undef T fun T => k T H nx) := rfl
theorem opsK_append (k : Tree Value → Heap → Nat → β) (l2 : List S) : ∀ (l1 : List S), opsK P d call z k (l1 ++ l2) = opsK P d call z (opsK P d call z k l2) l1
  | [] => rfl
  | s :: l1 => by
    funext T H nx
    rw [List.cons_append, opsK_cons, opsK_cons, opsK_append k l2 l1]
theorem wdec_none (T : Tree Value) : wdec none T = some true := rfl
/-- A step's continuation may be exchanged where it does the same behind every put. -/
theorem runI_congr (i : I) (dst : Option Nat) (T : Tree Value) (H : Heap) (nx : Nat) (k k' : Tree Value → Heap → Nat → β) (h : ∀ v H nx, k (putT d dst v T) H nx = k' (putT d dst v T) H nx) :
    runI i P d dst call T H nx z k = runI i P d dst call T H nx z k' := by
  cases i with
  | p i =>
    show evP P i T z (fun v => putK d dst v T fun T => k T H nx) = evP P i T z (fun v => putK d dst v T fun T => k' T H nx)
    congr 1; funext v; rw [putK_T, putK_T, h]
  | r i =>
    show evR P i T H z (fun v => putK d dst v T fun T => k T H nx) = evR P i T H z (fun v => putK d dst v T fun T => k' T H nx)
    congr 1; funext v; rw [putK_T, putK_T, h]
  | a i =>
    show evA i T z (newK d dst T H nx k) = evA i T z (newK d dst T H nx k')
    congr 1; funext b y; unfold newK; rw [hsK_eq, hsK_eq, forceN_eq, forceN_eq, force1_eq, force1_eq, putK_T, putK_T, h]
  | e i =>
    show evE i call T H nx z (fun v H nx => putK d dst v T fun T => k T H nx) = evE i call T H nx z (fun v H nx => putK d dst v T fun T => k' T H nx)
    congr 1; funext v H nx; rw [putK_T, putK_T, h]
theorem ops_yes (g : Option (Nat × Bool)) (k : Tree Value → Heap → Nat → β) : ∀ (l : List S) (T : Tree Value) (H : Heap) (nx : Nat), WF d T → okL d g l = true → wdec g T = some true →
    opsK P d call z k (l.map (guardS g)) T H nx = opsK P d call z k l T H nx
  | [], T, H, nx, _, _, _ => rfl
  | s :: l, T, H, nx, hw, hok, hd => by
    obtain ⟨g0, dst, i⟩ := s
    have hg0 : g0 = none := okL_free hok
    subst hg0
    rw [List.map_cons, opsK_cons, opsK_cons]
    show stepS P d call ⟨g, dst, i⟩ T H nx z _ = _
    rw [stepS_eq, stepS_eq, wantK_dec, wantK_dec none, hd, wdec_none]
    exact runI_congr i dst T H nx _ _ fun v H nx => ops_yes g k l _ H nx (putT_wf hw) (okL_tail hok) ((wdec_putT hw hok).trans hd)
theorem ops_no (g : Option (Nat × Bool)) (k : Tree Value → Heap → Nat → β) : ∀ (l : List S) (T : Tree Value) (H : Heap) (nx : Nat), WF d T → okL d g l = true → wdec g T = some false →
    opsK P d call z k (l.map (guardS g)) T H nx = skipK d (fun T => k T H nx) l T
  | [], T, H, nx, _, _, _ => rfl
  | s :: l, T, H, nx, hw, hok, hd => by
    obtain ⟨g0, dst, i⟩ := s
    rw [List.map_cons, opsK_cons]
    show stepS P d call ⟨g, dst, i⟩ T H nx z _ = _
    rw [stepS_eq, wantK_dec, hd]
    simp only [skipK]
    rw [putK_T, putK_T]
    exact ops_no g k l _ H nx (putT_wf hw) (okL_tail hok) ((wdec_putT (s := ⟨g0, dst, i⟩) hw hok).trans hd)
/-- The skipped slots leave the store well formed, so what comes behind may be exchanged. -/
theorem skipK_congr {k k' : Tree Value → β} (h : ∀ T, WF d T → k T = k' T) : ∀ (l : List S) (T : Tree Value), WF d T → skipK d k l T = skipK d k' l T
  | [], T, hw => h T hw
  | s :: l, T, hw => by simp only [skipK]; rw [putK_T, putK_T]; exact skipK_congr h l _ (putT_wf hw)
theorem opsK_congr {k k' : Tree Value → Heap → Nat → β} (h : ∀ T H nx, WF d T → k T H nx = k' T H nx) : ∀ (l : List S) (T : Tree Value) (H : Heap) (nx : Nat), WF d T → opsK P d call z k l T H nx = opsK P d call z k' l T H nx
  | [], T, H, nx, hw => h T H nx hw
  | s :: l, T, H, nx, hw => by
    obtain ⟨g, dst, i⟩ := s
    rw [opsK_cons, opsK_cons, stepS_eq, stepS_eq, putK_T, putK_T]
    rw [runI_congr i dst T H nx _ _ fun v H nx => opsK_congr h l (putT d dst v T) H nx (putT_wf hw), opsK_congr h l _ H nx (putT_wf hw)]
end
/-- The guard asked, its slot told from then on. -/
noncomputable def askK (d : Nat) (g : Option (Nat × Bool)) (T : Tree Value) (yes no : Tree Value → Prop) : Prop :=
  match g with
  | none => False
  | some (t, want) => tgK T t False fun v => match v with
    | .bool b => ifK (cond b want (!want)) (tsK d T t (.bool want) yes) (tsK d T t (.bool (!want)) no)
    | _ => False
theorem ask_dec {d : Nat} {g : Option (Nat × Bool)} {T : Tree Value} {yes no : Tree Value → Prop} (hw : WF d T) (hg : okT d g = true) (h : askK d g T yes no) : (wdec g T = some true ∧ yes T) ∨ (wdec g T = some false ∧ no T) := by
  unfold askK at h
  unfold wdec wantK
  cases g with
  | none => exact h.elim
  | some tw =>
    obtain ⟨t, want⟩ := tw
    have ht : t < 2 ^ d := by simpa [okT] using hg
    dsimp only at h ⊢
    rw [tgK_eq] at h ⊢
    cases hv : tg T t with
    | none => rw [hv] at h; exact h.elim
    | some v =>
      rw [hv] at h
      dsimp only [Option.elim_some] at h ⊢
      split at h
      · rename_i b
        dsimp only
        rw [ifK_eq, tsK_eq, tsK_eq] at h
        rw [ifK_eq]
        cases hb : cond b want (!want) with
        | true =>
          have : b = want := by cases b <;> cases want <;> first | rfl | cases hb
          subst this
          rw [hb, if_pos rfl, ts_same d T t _ hw ht hv] at h
          exact .inl ⟨rfl, h⟩
        | false =>
          have : b = (!want) := by cases b <;> cases want <;> first | rfl | cases hb
          subst this
          rw [hb, if_neg (by simp), ts_same d T t _ hw ht hv] at h
          exact .inr ⟨rfl, h⟩
      · exact h.elim

noncomputable def gopsK (P : Program) (d : Nat) (k : Tree Value → Heap → Nat → Prop) : List G → HT → Tree Value → Heap → Nat → Prop
  | [], _, T, H, nx => k T H nx
  | (g, l) :: gs, ht, T, H, nx => match ht with
    | .nil => False
    | .one r => wantK g T False (opsK P d (callP P) False (gopsK P d k gs r) l T H nx) (skipK d (fun T => gopsK P d k gs r T H nx) l T)
    | .tst y n => askK d g T (fun T => opsK P d (callP P) False (gopsK P d k gs y) l T H nx) (fun T => skipK d (fun T => gopsK P d k gs n T H nx) l T)

section
variable {P : Program} {d n : Nat} {ops : List Oper}
theorem compSs_split {l2 : List S} : ∀ {l1 : List S} {suf : List Oper}, compSs P n ops suf = some (l1 ++ l2) → ∃ s1 s2, suf = s1 ++ s2 ∧ compSs P n ops s1 = some l1 ∧ compSs P n ops s2 = some l2
  | [], suf, h => ⟨[], suf, rfl, rfl, h⟩
  | s :: l1, [], h => by simp [compSs] at h
  | s :: l1, o :: suf, h => by
    simp only [compSs] at h
    cases hs : compS P n ops o with
    | none => simp [hs] at h
    | some s' => cases hl : compSs P n ops suf with
      | none => simp [hs, hl] at h
      | some l' =>
        simp [hs, hl] at h
        obtain ⟨rfl, rfl⟩ := h
        obtain ⟨s1, s2, h1, h2, h3⟩ := compSs_split hl
        exact ⟨o :: s1, s2, by rw [h1]; rfl, by simp [compSs, hs, h2], h3⟩
theorem dsts_guard (g : Option (Nat × Bool)) : ∀ (l : List S), dsts (l.map (guardS g)) = dsts l
  | [] => rfl
  | s :: l => by simp [dsts, dsts_guard g l, guardS]
def dstsG : List G → List Nat
  | [] => []
  | (_, l) :: gs => dsts l ++ dstsG gs
/-- One group, whichever way its guard goes. -/
theorem group_way {g : Option (Nat × Bool)} {l : List S} {T : Tree Value} {H : Heap} {nx : Nat} {k : Tree Value → Heap → Nat → Prop} (hw : WF d T) (hok : okL d g l = true)
    (h : (wdec g T = some true ∧ opsK P d (callP P) False k l T H nx) ∨ (wdec g T = some false ∧ skipK d (fun T => k T H nx) l T)) : opsK P d (callP P) False k (l.map (guardS g)) T H nx := by
  rcases h with ⟨hd, h⟩ | ⟨hd, h⟩
  · rw [ops_yes g k l T H nx hw hok hd]; exact h
  · rw [ops_no g k l T H nx hw hok hd]; exact h
theorem gops_sound (hn : n ≤ 2 ^ d) (k : Tree Value → Heap → Nat → Prop) : ∀ (gs : List G) (ht : HT) (suf : List Oper) (i : Nat), compSs P n ops suf = some (eraseG gs) → (∀ j, j < suf.length → suf[j]? = ops[i + j]?) → okG d gs = true → ∀ (T : Tree Value) (H : Heap) (nx : Nat), WF d T →
    gopsK P d k gs ht T H nx → ∃ T' H' nx', k T' H' nx' ∧ WF d T' ∧ Agr n (dstsG gs) T T' ∧
      ∀ (F : FM) (a : Act) (w : World) (Q : Exit → Act → World → Prop), TR d F T n a.tmps → HR F H nx w →
        (∀ F' a' w', TR d F' T' n a'.tmps → Stp F H nx w F' H' nx' w' → a'.defers = a.defers → Q .normal a' w') → wpOps P ops.toArray Q (List.range' i suf.length) a w
  | [], ht, suf, i, hc, hsuf, hok, T, H, nx, hw, h => by
    cases suf with
    | nil => exact ⟨T, H, nx, h, hw, Agr.refl _ _ _, fun F a w Q ht hr hk => hk F a w ht (Stp.refl hr) rfl⟩
    | cons o suf =>
      simp only [eraseG, compSs] at hc
      split at hc <;> simp at hc
  | (g, l) :: gs, ht, suf, i, hc, hsuf, hok, T, H, nx, hw, h => by
    simp only [okG, Bool.and_eq_true] at hok
    obtain ⟨s1, s2, rfl, hc1, hc2⟩ := compSs_split hc
    -- the group's way
    have way : ∃ ht', opsK P d (callP P) False (gopsK P d k gs ht') (l.map (guardS g)) T H nx := by
      simp only [gopsK] at h
      cases ht with
      | nil => exact h.elim
      | one r =>
        dsimp only at h
        rw [wantK_dec] at h
        refine ⟨r, group_way hw hok.1.1.1 ?_⟩
        cases hd : wdec g T with
        | none => rw [hd] at h; exact h.elim
        | some b =>
          rw [hd] at h
          cases b with
          | true => exact .inl ⟨rfl, h⟩
          | false => exact .inr ⟨rfl, h⟩
      | tst y m =>
        dsimp only at h
        rcases ask_dec hw hok.2 h with ⟨hd, h⟩ | ⟨hd, h⟩
        · exact ⟨y, group_way hw hok.1.1.1 (.inl ⟨hd, h⟩)⟩
        · exact ⟨m, group_way hw hok.1.1.1 (.inr ⟨hd, h⟩)⟩
    obtain ⟨ht', h'⟩ := way
    have hs1 : ∀ j, j < s1.length → s1[j]? = ops[i + j]? := fun j hj => by
      have := hsuf j (by simp; omega)
      rw [List.getElem?_append_left hj] at this; exact this
    have hs2 : ∀ j, j < s2.length → s2[j]? = ops[i + s1.length + j]? := fun j hj => by
      have := hsuf (s1.length + j) (by simp; omega)
      rw [List.getElem?_append_right (by omega)] at this
      simpa [Nat.add_assoc] using this
    rcases ops_seg (d := d) hn (callP_ok P) False (gopsK P d k gs ht') s1 _ i hc1 hs1 T H nx with h1 | ⟨T1, H1, nx1, h1, hw1, hp1⟩
    · rw [h1] at h'; exact h'.elim
    · rw [h1] at h'
      obtain ⟨T2, H2, nx2, h2, hw2, hg2, hp2⟩ := gops_sound hn k gs ht' s2 (i + s1.length) hc2 hs2 hok.1.2 T1 H1 nx1 (hw1 hw).1 h'
      refine ⟨T2, H2, nx2, h2, hw2, ?_, fun F a w Q ht hr hk => ?_⟩
      · have := (hw1 hw).2
        rw [dsts_guard] at this
        exact this.trans hg2
      · have e : List.range' i (s1 ++ s2).length = List.range' i s1.length ++ List.range' (i + s1.length) s2.length := by
          rw [List.length_append, ← List.range'_append]; simp
        rw [e]
        refine hp1 F a w Q _ ht hr fun F' a' w' ht' hst hdf => ?_
        exact hp2 F' a' w' Q ht' hst.hr fun F2 a2 w2 ht2 hst2 hdf2 => hk F2 a2 w2 ht2 (hst.trans hst2) (hdf2.trans hdf)
end
end Go.Clo
