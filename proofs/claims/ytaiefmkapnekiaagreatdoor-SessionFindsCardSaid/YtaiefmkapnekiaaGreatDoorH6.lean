/-
  The closed executor: ranges over maps of several entries. Each round is run behind each set of entries that may have come before it; all orders come to the same.
-/
import Derived.Test.YtaiefmkapnekiaaGreatDoorH5
import Derived.Maps.RangeRun
set_option linter.all false
namespace Go.Clo
open Go.ChangeMaps (setBlock)

/-! Blocks made weaker, names given up. -/
mutual
theorem ren_id : ∀ v : Value, ren id v = v
  | .bool b => by rw [ren]
  | .int k n => by rw [ren]
  | .float k n => by rw [ren]
  | .complex k a b => by rw [ren]
  | .string s => by rw [ren]
  | .pointer none => by rw [ren]; rfl
  | .pointer (some ⟨b, o, none⟩) => by rw [ren]; rfl
  | .pointer (some ⟨b, o, some s⟩) => by rw [ren]; rfl
  | .slice none n c => by rw [ren]; rfl
  | .slice (some ⟨b, o, none⟩) n c => by rw [ren]; rfl
  | .slice (some ⟨b, o, some s⟩) n c => by rw [ren]; rfl
  | .map none => by rw [ren]; rfl
  | .map (some r) => by rw [ren]; rfl
  | .chan c => by rw [ren]
  | .func fn x y => by rw [ren, renA_id x, renA_id y]
  | .nilFunc => by rw [ren]
  | .iface t v => by rw [ren, ren_id v]
  | .nilIface => by rw [ren]
  | .agg x => by rw [ren, renA_id x]
  | .tuple x => by rw [ren, renA_id x]
theorem renA_id : ∀ x : Array Value, renA id x = x
  | ⟨l⟩ => by rw [renA, renL_id l]
theorem renL_id : ∀ l : List Value, renL id l = l
  | [] => by rw [renL]
  | v :: l => by rw [renL, ren_id v, renL_id l]
end
theorem renB_id (b : Blk) : renB id b = b := by
  cases b with
  | cells c s => simp [renB, renL_id]
  | map es k =>
    have : es.map (renE id) = es := by
      conv => rhs; rw [← List.map_id es]
      exact List.map_congr_left fun e _ => by simp [renE, ren_id]
    simp [renB, this]
  | rom c => simp [renB, renL_id]
  | iter m s q => simp [renB]
theorem VR.low {F : FM} {k n : Nat} {v v' : Value} (hl : lowV k n v = true) (h : VR F v v') : VR (unF n id F) v v' := VR.un k hl (by rw [ren_id]; exact h)
theorem BR.low {F : FM} {n : Nat} {t : Tgt} {b : Blk} {w : World} (hl : lowB n b = true) (h : BR F t b w) : BR (unF n id F) t b w := BR.un hl (by rw [renB_id]; exact h)
structure Wk (b1 b2 : Blk) : Prop where
  rom : b1.isRom = false ∧ b2.isRom = false
  br : ∀ F t w, BR F t b1 w → BR F t b2 w
theorem Wk.refl {b : Blk} (h : b.isRom = false) : Wk b b := ⟨⟨h, h⟩, fun _ _ _ h => h⟩
theorem unF_lt {m i : Nat} {F : FM} (h : i < m) : unF m id F i = F i := by simp [unF, h]
theorem Stp.gc {F : FM} {H : Heap} {nx : Nat} {w : World} {F1 : FM} {H1 : Heap} {nx1 : Nat} {w1 : World} (hst : Stp F H nx w F1 H1 nx1 w1) {m : Nat} (hm : nx ≤ m) {H2 : Heap}
    (h : ∀ i b2, getH H2 i = some b2 → i < m ∧ lowB m b2 = true ∧ ∃ b1, getH H1 i = some b1 ∧ Wk b1 b2) : Stp F H nx w (unF m id F1) H2 m w1 := by
  have own : ∀ b, Own (unF m id F1) H2 m b → Own F1 H1 nx1 b := by
    rintro b ⟨i, k, t, hi, hg, hrk, hF, e⟩
    obtain ⟨_, _, b1, hg1, hw⟩ := h i k hg
    exact ⟨i, b1, t, hst.hr.low hg1, hg1, hw.rom.1, by rw [unF_lt hi] at hF; exact hF, e⟩
  refine ⟨hm, fun i hi => (unF_lt (by omega)).trans (hst.ext i hi), hst.os, hst.tape, hst.output, hst.size, hst.frame, fun b hb => hst.own b (own b hb), fun i hi hn => ?_, fun i b hg hrb => ?_, ?_⟩
  · cases hg : getH H2 i with
    | none => rfl
    | some b2 => obtain ⟨_, _, b1, hg1, _⟩ := h i b2 hg; rw [hst.keep i hi hn] at hg1; cases hg1
  · obtain ⟨_, _, b1, _, hw⟩ := h i b hg; rw [hw.rom.2] at hrb; cases hrb
  · refine ⟨fun i b2 hi hg => ?_, fun i j bi bj ti tj hi hj gi gj fi fj e => ?_, fun i hi => by simp [unF]; omega, fun i hi => ?_, hst.hr.gl.1, fun x hx ho => hst.hr.gl.2 x hx (own _ ho)⟩
    · obtain ⟨_, hl, b1, hg1, hw⟩ := h i b2 hg
      obtain ⟨t, hF, hb⟩ := hst.hr.blk i b1 (hst.hr.low hg1) hg1
      exact ⟨t, (unF_lt hi).trans hF, BR.low hl (hw.br _ _ _ hb)⟩
    · obtain ⟨_, _, b1, hg1, hw1⟩ := h i bi gi
      obtain ⟨_, _, b2, hg2, hw2⟩ := h j bj gj
      rw [unF_lt hi] at fi; rw [unF_lt hj] at fj
      rcases hst.hr.inj i j b1 b2 ti tj (hst.hr.low hg1) (hst.hr.low hg2) hg1 hg2 fi fj e with h' | h'
      · exact .inl h'
      · rw [hw1.rom.1] at h'; cases h'.1
    · cases hg : getH H2 i with
      | none => rfl
      | some b2 => exact absurd (h i b2 hg).1 (by omega)
theorem Stp.wk {F : FM} {H : Heap} {nx : Nat} {w : World} {F1 : FM} {H1 : Heap} {nx1 : Nat} {w1 : World} (hst : Stp F H nx w F1 H1 nx1 w1) {H2 : Heap}
    (h : ∀ i b2, getH H2 i = some b2 → getH H1 i = some b2 ∨ ∃ b1, getH H1 i = some b1 ∧ Wk b1 b2) : Stp F H nx w F1 H2 nx1 w1 := by
  have own : ∀ b, Own F1 H2 nx1 b → Own F1 H1 nx1 b := by
    rintro b ⟨i, k, t, hi, hg, hrk, hF, e⟩
    rcases h i k hg with hg1 | ⟨b1, hg1, hw⟩
    · exact ⟨i, k, t, hi, hg1, hrk, hF, e⟩
    · exact ⟨i, b1, t, hi, hg1, hw.rom.1, hF, e⟩
  refine ⟨hst.le, hst.ext, hst.os, hst.tape, hst.output, hst.size, hst.frame, fun b hb => hst.own b (own b hb), fun i hi hn => ?_, fun i b hg hrb => ?_, ?_⟩
  · cases hg : getH H2 i with
    | none => rfl
    | some b2 => rcases h i b2 hg with hg1 | ⟨b1, hg1, _⟩ <;> (rw [hst.keep i hi hn] at hg1; cases hg1)
  · rcases h i b hg with hg1 | ⟨b1, _, hw⟩
    · exact hst.rom i b hg1 hrb
    · rw [hw.rom.2] at hrb; cases hrb
  · refine ⟨fun i b2 hi hg => ?_, fun i j bi bj ti tj hi hj gi gj fi fj e => ?_, hst.hr.fresh, fun i hi => ?_, hst.hr.gl.1, fun x hx ho => hst.hr.gl.2 x hx (own _ ho)⟩
    · rcases h i b2 hg with hg1 | ⟨b1, hg1, hw⟩
      · exact hst.hr.blk i b2 hi hg1
      · obtain ⟨t, hF, hb⟩ := hst.hr.blk i b1 hi hg1
        exact ⟨t, hF, hw.br _ _ _ hb⟩
    · have up : ∀ i b, getH H2 i = some b → ∃ b1, getH H1 i = some b1 ∧ (b1 = b ∨ b1.isRom = false) := fun i b hg => by
        rcases h i b hg with hg1 | ⟨b1, hg1, hw⟩
        · exact ⟨b, hg1, .inl rfl⟩
        · exact ⟨b1, hg1, .inr hw.rom.1⟩
      obtain ⟨b1, hg1, e1⟩ := up i bi gi
      obtain ⟨b2, hg2, e2⟩ := up j bj gj
      rcases hst.hr.inj i j b1 b2 ti tj hi hj hg1 hg2 fi fj e with h' | h'
      · exact .inl h'
      · refine .inr ⟨?_, ?_⟩
        · rcases e1 with rfl | e1
          · exact h'.1
          · rw [e1] at h'; cases h'.1
        · rcases e2 with rfl | e2
          · exact h'.2
          · rw [e2] at h'; cases h'.2
    · cases hg : getH H2 i with
      | none => rfl
      | some b2 => rcases h i b2 hg with hg1 | ⟨b1, hg1, _⟩ <;> (rw [hst.hr.top i hi] at hg1; cases hg1)
/-- The same entries in another order, their births forgotten. -/
theorem ML.wk {F : FM} {es es2 es' : List MapEntry} (h : ML F es es') (hp : (es2.map (·.key)).Perm (es.map (·.key))) (hv : ∀ e2 ∈ es2, ∃ e ∈ es, e.key = e2.key ∧ e.val = e2.val ∧ (e.born = e2.born ∨ e2.born = unb)) : ML F es2 es' := by
  obtain ⟨c, hc1, hc2⟩ := h.cls
  refine ⟨hp.nodup_iff.2 h.nd, h.nd', ?_, ⟨c, fun e2 he => ?_, hc2⟩, fun e2 he => ?_, fun e' he' => ?_⟩
  · rw [← h.len]; have := hp.length_eq; simpa using this
  · obtain ⟨e, he1, hk, _⟩ := hv e2 he; rw [← hk]; exact hc1 e he1
  · obtain ⟨e, he1, hk, hval, hb⟩ := hv e2 he
    obtain ⟨f1, e', hm, g1, g2, g3⟩ := h.fwd e he1
    refine ⟨by rw [← hk]; exact f1, e', hm, by rw [g1, hk], by rw [← hval]; exact g2, ?_⟩
    rcases hb with hb | hb
    · rw [← hb]; exact g3
    · exact .inr hb
  · obtain ⟨e, he, hk⟩ := h.bwd e' he'
    have : e'.key ∈ es2.map (·.key) := hp.mem_iff.2 (List.mem_map.2 ⟨e, he, hk⟩)
    obtain ⟨e2, he2, hk2⟩ := List.mem_map.1 this
    exact ⟨e2, he2, hk2⟩
theorem Wk.map {es es2 : List MapEntry} {k : Nat} (hp : (es2.map (·.key)).Perm (es.map (·.key))) (hv : ∀ e2 ∈ es2, ∃ e ∈ es, e.key = e2.key ∧ e.val = e2.val ∧ (e.born = e2.born ∨ e2.born = unb)) : Wk (.map es k) (.map es2 k) :=
  ⟨⟨rfl, rfl⟩, fun F t w ⟨h0, es', c', h1, hc, h2, h3⟩ => ⟨h0, es', c', h1, hc, h2.wk hp hv, h3⟩⟩

/-! Parts of a list. -/
def subs {α : Type} : List α → List (List α × List α)
  | [] => [([], [])]
  | a :: l => (subs l).map (fun p => (p.1, a :: p.2)) ++ (subs l).map (fun p => (a :: p.1, p.2))
theorem subs_nil {α : Type} : ∀ l : List α, ([], l) ∈ subs l
  | [] => by simp [subs]
  | a :: l => by simp only [subs, List.mem_append, List.mem_map]; exact .inl ⟨_, subs_nil l, rfl⟩
theorem subs_perm {α : Type} : ∀ {l : List α} {c r : List α}, (c, r) ∈ subs l → (c ++ r).Perm l
  | [], c, r, h => by simp [subs] at h; obtain ⟨rfl, rfl⟩ := h; exact List.Perm.refl _
  | a :: l, c, r, h => by
    simp only [subs, List.mem_append, List.mem_map] at h
    rcases h with ⟨p, hp, e⟩ | ⟨p, hp, e⟩
    · cases e; exact List.perm_middle.trans ((subs_perm hp).cons a)
    · cases e; exact (subs_perm hp).cons a
theorem subs_pick {α : Type} : ∀ {l : List α} {c r : List α}, (c, r) ∈ subs l → ∀ x ∈ r, ∃ c' r', (c', r') ∈ subs l ∧ c'.Perm (x :: c) ∧ r.Perm (x :: r')
  | [], c, r, h, x, hx => by simp [subs] at h; obtain ⟨rfl, rfl⟩ := h; cases hx
  | a :: l, c, r, h, x, hx => by
    simp only [subs, List.mem_append, List.mem_map] at h
    rcases h with ⟨p, hp, e⟩ | ⟨p, hp, e⟩
    · cases e
      rcases List.mem_cons.1 hx with rfl | hx
      · exact ⟨x :: p.1, p.2, by simp only [subs, List.mem_append, List.mem_map]; exact .inr ⟨p, hp, rfl⟩, List.Perm.refl _, List.Perm.refl _⟩
      · obtain ⟨c', r', h1, h2, h3⟩ := subs_pick hp x hx
        exact ⟨c', a :: r', by simp only [subs, List.mem_append, List.mem_map]; exact .inl ⟨_, h1, rfl⟩, h2, (h3.cons a).trans (List.Perm.swap _ _ _)⟩
    · cases e
      obtain ⟨c', r', h1, h2, h3⟩ := subs_pick hp x hx
      exact ⟨a :: c', r', by simp only [subs, List.mem_append, List.mem_map]; exact .inr ⟨_, h1, rfl⟩, (h2.cons a).trans (List.Perm.swap _ _ _), h3⟩

/-! Code as a function of its state. -/
structure Out where
  o : Ox
  T : Ev
  H : Heap
  nx : Nat
abbrev OCall := CallT (Option Out)
noncomputable def runC (c : C) (P : Program) (d : Nat) (call : OCall) (T : Ev) (H : Heap) (nx : Nat) : Option Out :=
  execC c P d call (chkB P) (fixN 1000000) none T H nx (fun T H nx => some ⟨.n, T, H, nx⟩) (fun id T H nx => some ⟨.x id, T, H, nx⟩) (fun T H nx => some ⟨.r, T, H, nx⟩)
/-- What is left of a round, behind its first operation. -/
noncomputable def roundM (l : List S) (c : C) (P : Program) (d : Nat) (call : OCall) (T : Ev) (H : Heap) (nx : Nat) : Option Out :=
  (rgC (Option Out) P d l).run call none (fun T H nx => runC c P d call T H nx) T H nx

section
variable {P : Program} {d n : Nat}
theorem runC_sound (hm : P.follows .mixedOrders = true) (hn : n ≤ 2 ^ d) {call : OCall} (hcall : CallOK P call) {code : Code} {c : C} (hc : compC P n code = some c) {T : Ev} {H : Heap} {nx : Nat} {o : Ox} {T' : Ev} {H' : Heap} {nx' : Nat}
    (h : runC c P d call T H nx = some ⟨o, T', H', nx'⟩) (hw : WF d T) : WF d T' ∧ CodeOK P d n code T H nx o T' H' nx' := by
  unfold runC at h
  rcases exec_sound (n := n) hm hn hcall (chkB_ok P) (fixN_ok 1000000) none code c hc T H nx (fun T H nx => some ⟨.n, T, H, nx⟩) (fun id T H nx => some ⟨.x id, T, H, nx⟩) (fun T H nx => some ⟨.r, T, H, nx⟩) hw with e | ⟨o1, T1, H1, nx1, e, hw1, hok⟩
  · rw [e] at h; cases h
  · rw [e] at h
    have : o = o1 ∧ T' = T1 ∧ H' = H1 ∧ nx' = nx1 := by cases o1 <;> (simp only [Ox.go, Option.some.injEq, Out.mk.injEq] at h; obtain ⟨h1, h2, h3, h4⟩ := h; exact ⟨h1.symm, h2.symm, h3.symm, h4.symm⟩)
    obtain ⟨rfl, rfl, rfl, rfl⟩ := this
    exact ⟨hw1, hok⟩
theorem roundM_sound (hm : P.follows .mixedOrders = true) (hn : n ≤ 2 ^ d) {call : OCall} (hcall : CallOK P call) {ops : Array Oper} {o0 : Oper} {tl : List Oper} (hops : ops.toList = o0 :: tl) {l : List S} (hl : compSs P n ops.toList tl = some l) {rest : Code} {c : C} (hc : compC P n rest = some c)
    {T : Ev} {H : Heap} {nx : Nat} {o : Ox} {T' : Ev} {H' : Heap} {nx' : Nat} (h : roundM l c P d call T H nx = some ⟨o, T', H', nx'⟩) (hw : WF d T) :
    WF d T' ∧ ∀ (F : FM) (a : Act) (w : World) (Q : Exit → Act → World → Prop), TR d F T n a.tmps → HR F H nx w →
      (∀ F' a' w', TR d F' T' n a'.tmps → Stp F H nx w F' H' nx' w' → a'.defers = a.defers → Q o.exit a' w') → wpOps P ops (Exit.then (rest.wp P Q) Q) (List.range' 1 tl.length) a w := by
  unfold roundM at h
  rw [rg_eq] at h
  rcases ops_seg (ops := ops.toList) hn hcall none (fun T H nx => runC c P d call T H nx) tl l 1 hl (fun j hj => by rw [hops, Nat.add_comm]; rfl) T H nx with e | ⟨T1, H1, nx1, e, hw1, hp⟩
  · rw [e] at h; cases h
  · rw [e] at h
    obtain ⟨hw2, hok⟩ := runC_sound hm hn hcall hc h (hw1 hw).1
    refine ⟨hw2, fun F a w Q ht hr hk => ?_⟩
    have := hp F a w (Exit.then (rest.wp P Q) Q) [] ht hr fun F1 a1 w1 ht1 hst1 hd1 => ?_
    · simpa using this
    · show wpOps P _ _ [] a1 w1
      simp only [wpOps, Exit.then]
      exact hok F1 a1 w1 Q ht1 hst1.hr fun F2 a2 w2 ht2 hst2 hd2 => hk F2 a2 w2 ht2 (hst1.trans hst2) (hd2.trans hd1)
/-- The head of a round: what is left of its first region, and the code that follows it, before the block. -/
theorem headM_sound (hm : P.follows .mixedOrders = true) (hn : n ≤ 2 ^ d) {call : OCall} (hcall : CallOK P call) {ops : Array Oper} {o0 : Oper} {tl : List Oper} (hops : ops.toList = o0 :: tl) {l : List S} (hl : compSs P n ops.toList tl = some l) {pre blk : Code} {c : C} (hc : compC P n pre = some c)
    {T : Ev} {H : Heap} {nx : Nat} {o : Ox} {T' : Ev} {H' : Heap} {nx' : Nat} (h : roundM l c P d call T H nx = some ⟨o, T', H', nx'⟩) (hw : WF d T) :
    WF d T' ∧ ∀ (F : FM) (a : Act) (w : World) (Q : Exit → Act → World → Prop), TR d F T n a.tmps → HR F H nx w →
      (∀ F' a' w', TR d F' T' n a'.tmps → Stp F H nx w F' H' nx' w' → a'.defers = a.defers → Exit.then (blk.wp P Q) Q o.exit a' w') → wpOps P ops (Exit.then ((Code.seq pre blk).wp P Q) Q) (List.range' 1 tl.length) a w := by
  unfold roundM at h
  rw [rg_eq] at h
  rcases ops_seg (ops := ops.toList) hn hcall none (fun T H nx => runC c P d call T H nx) tl l 1 hl (fun j hj => by rw [hops, Nat.add_comm]; rfl) T H nx with e | ⟨T1, H1, nx1, e, hw1, hp⟩
  · rw [e] at h; cases h
  · rw [e] at h
    obtain ⟨hw2, hok⟩ := runC_sound hm hn hcall hc h (hw1 hw).1
    refine ⟨hw2, fun F a w Q ht hr hk => ?_⟩
    have := hp F a w (Exit.then ((Code.seq pre blk).wp P Q) Q) [] ht hr fun F1 a1 w1 ht1 hst1 hd1 => ?_
    · simpa using this
    · show wpOps P _ _ [] a1 w1
      simp only [wpOps, Exit.then]
      exact wp_seq (hok F1 a1 w1 (Exit.then (blk.wp P Q) Q) ht1 hst1.hr fun F2 a2 w2 ht2 hst2 hd2 => hk F2 a2 w2 ht2 (hst1.trans hst2) (hd2.trans hd1))
end
end Go.Clo
