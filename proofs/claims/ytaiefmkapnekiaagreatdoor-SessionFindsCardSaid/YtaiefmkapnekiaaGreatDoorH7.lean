/-
  The closed executor: a loop over a map of any length whose rounds end with an entry put into a new map; functions that hold such loops. Each round is run once, without the new map: what it puts there does not depend on what stands there.
-/
import Derived.Test.YtaiefmkapnekiaaGreatDoorH6
set_option linter.all false
namespace Go.Clo
open Go.ChangeMaps (setBlock)

abbrev E2 := MapEntry × MapEntry
/-- The names in a value. -/
def namesV : Nat → Value → List Nat
  | 0, _ => []
  | k + 1, v => match v with
    | .pointer (some ⟨b, _, none⟩) => [b]
    | .slice (some ⟨b, _, none⟩) _ _ => [b]
    | .map (some r) => [r]
    | .iface _ v => namesV k v
    | .agg x => x.toList.flatMap (namesV k)
    | .tuple x => x.toList.flatMap (namesV k)
    | _ => []
noncomputable def namesT (T : Ev) : Nat → List Nat
  | 0 => []
  | t + 1 => namesV 6 (gv T t) ++ namesT T t
noncomputable def restH (H : Heap) : List Nat → Heap
  | [] => .leaf
  | i :: l => match getH H i with
    | some b => hsK (restH H l) i (some b) id
    | none => restH H l
theorem restH_sub {H : Heap} : ∀ {l : List Nat} {i : Nat} {b : Blk}, getH (restH H l) i = some b → getH H i = some b ∧ i ∈ l
  | [], i, b, h => by rw [restH, getH_leaf] at h; cases h
  | j :: l, i, b, h => by
    rw [restH] at h
    split at h
    · rename_i b0 hb0
      rw [hsK_eq] at h
      simp only [id] at h
      rw [getH_hs] at h
      by_cases e : i = j
      · subst e; rw [if_pos rfl] at h; cases h; exact ⟨hb0, by simp⟩
      · rw [if_neg e] at h
        obtain ⟨h1, h2⟩ := restH_sub h
        exact ⟨h1, List.mem_cons_of_mem _ h2⟩
    · obtain ⟨h1, h2⟩ := restH_sub h
      exact ⟨h1, List.mem_cons_of_mem _ h2⟩
noncomputable def poisonL (d : Nat) : List Nat → Ev → Ev
  | [], T => T
  | t :: l, T => tsK d T t poison (poisonL d l)
/-- The temporaries as they were, but for those that nobody looks at. -/
noncomputable def okTm (nx : Nat) (A B : Ev) : Nat → Bool
  | 0 => true
  | t + 1 => cond (match gv A t with
    | .chan none => true
    | v => veq 65536 v (gv B t) && lowV 16 nx v) (okTm nx A B t) false
noncomputable def okHm (nx D : Nat) (A B : Heap) : List Nat → Bool
  | [] => true
  | i :: l => cond (Nat.beq i D || (match getH A i with
    | none => true
    | some b => (match getH B i with
      | some b' => beqB b b' && lowB nx b
      | none => false))) (okHm nx D A B l) false
/-- What a round needs: the map D is being filled, ns are the names in the temporaries and behind them. -/
structure LpU where
  q : Nat
  ti : Nat
  l : List S
  cc : C
  q2 : Nat
  l2 : List S
  l3 : List S
  kd : TypeDesc
  M : X
  K1 : X
  V1 : X
  Tp : Ev
  Hs : Heap
  D : Nat
  ns : List Nat
noncomputable def tupE (e : MapEntry) : Value := .tuple ⟨[.bool true, e.key, e.val]⟩
noncomputable def pairE (e : MapEntry) : Value := .tuple ⟨[e.key, e.val]⟩
/-- The operations of a region, run. -/
noncomputable def midM (l : List S) (P : Program) (d : Nat) (call : OCall) (T : Ev) (H : Heap) (nx : Nat) : Option Out :=
  (rgC (Option Out) P d l).run call none (fun T H nx => some ⟨.n, T, H, nx⟩) T H nx
noncomputable def mid2 (P : Program) (d : Nat) (call : OCall) (l2 l3 : List S) (T : Ev) (H : Heap) (nx : Nat) : Option Out :=
  match midM l2 P d call T H nx with
  | some ⟨.n, T, H, nx⟩ => midM l3 P d call T H nx
  | _ => none
/-- A round that begins with an entry: the entry that it puts into D. -/
noncomputable def itemU (P : Program) (d n : Nat) (call : OCall) (L : LpU) (nx : Nat) (e : MapEntry) : Option MapEntry :=
  match tsK d L.Tp L.q (tupE e) fun T => roundM L.l L.cc P d call T L.Hs nx with
  | some ⟨.n, T, H, nx1⟩ => cond (veq 65536 (gv T L.ti) (gv L.Tp L.ti)) (tsK d T L.q2 (pairE e) fun T => match mid2 P d call L.l2 L.l3 T H nx1 with
    | some ⟨.n, T, H, _⟩ => cond (veq 65536 (ev T L.M) (.map (some L.D)) && (okTm nx L.Tp T n && (okHm nx L.D L.Hs H L.ns && (keyKind L.kd (ev T L.K1) && (lowV 16 nx (ev T L.K1) && lowV 16 nx (ev T L.V1))))))
      (some ⟨ev T L.K1, ev T L.V1, 1000000000000⟩) none
    | _ => none) none
  | _ => none
noncomputable def itemsU (P : Program) (d n : Nat) (call : OCall) (L : LpU) (nx : Nat) : List MapEntry → Option (List E2)
  | [] => some []
  | e :: es => match itemU P d n call L nx e, itemsU P d n call L nx es with
    | some f, some l => some ((e, f) :: l)
    | _, _ => none
theorem itemsU_inv {P : Program} {d n : Nat} {call : OCall} {L : LpU} {nx : Nat} : ∀ {es : List MapEntry} {its : List E2}, itemsU P d n call L nx es = some its → its.map (·.1) = es ∧ ∀ x ∈ its, itemU P d n call L nx x.1 = some x.2
  | [], its, h => by simp [itemsU] at h; subst h; exact ⟨rfl, fun _ h => by cases h⟩
  | e :: es, its, h => by
    simp only [itemsU] at h
    split at h
    · rename_i f l h1 h2
      cases h
      obtain ⟨g1, g2⟩ := itemsU_inv h2
      refine ⟨by simp [g1], fun x hx => ?_⟩
      rcases List.mem_cons.1 hx with rfl | hx
      · exact h1
      · exact g2 x hx
    · cases h
/-- No key twice. -/
def okK (kd : TypeDesc) : List E2 → Bool
  | [] => true
  | x :: l => cond (match Instr.findNow kd x.2.key (l.map (·.2)) 0 with
    | some none => true
    | _ => false) (okK kd l) false
def KR (x y : E2) : Prop := x.2.key ≠ y.2.key ∧ kcls x.2.key = kcls y.2.key
theorem KR.symm {x y : E2} (h : KR x y) : KR y x := ⟨h.1.symm, h.2.symm⟩
theorem okK_inv {kd : TypeDesc} : ∀ {l : List E2}, okK kd l = true → l.Pairwise KR
  | [], _ => List.Pairwise.nil
  | x :: l, h => by
    rw [okK] at h
    split at h
    · rename_i hf
      refine List.Pairwise.cons (fun y hy => ?_) (okK_inv h)
      obtain ⟨g1, g2⟩ := findNow_none hf y.2 (List.mem_map.2 ⟨y, hy, rfl⟩)
      exact ⟨fun e => g1 e.symm, g2.symm⟩
    · cases h
noncomputable def endR (P : Program) (d : Nat) (call : OCall) (L : LpU) (it : Nat) (H : Heap) (nx : Nat) (its : List E2) : Option Out :=
  tsK d L.Tp L.q (.tuple ⟨[.bool false]⟩) fun T => hsK H it none fun H => hsK H L.D (some (.map (its.map (·.2)) its.length)) fun H => match roundM L.l L.cc P d call T H nx with
    | some ⟨.n, _, _, _⟩ => none
    | r => r
/-- The new map: the last temporary that holds an empty one. -/
noncomputable def findD (T : Ev) (H : Heap) : Nat → Option Nat
  | 0 => none
  | t + 1 => match gv T t with
    | .map (some D) => (match getH H D with
      | some (.map [] 0) => some D
      | _ => findD T H t)
    | _ => findD T H t
noncomputable def mapLoop (P : Program) (d n : Nat) (call : OCall) (q ti : Nat) (l : List S) (cc : C) (q2 : Nat) (l2 l3 : List S) (kd : TypeDesc) (M K1 V1 : X) (dead : List Nat) (T : Ev) (H : Heap) (nx : Nat) : Option Out :=
  match gv T ti, findD T H n with
  | .pointer (some ⟨it, 0, none⟩), some D => (match getH H it, getH H D with
    | some (.iter (some r) since none), some (.map [] 0) => (match getH H r with
      | some (.map es clock) => cond (Nat.beq clock since && !(Nat.beq since 1000000000000) && !(Nat.beq D r) && !(Nat.beq D it) && Nat.ble 2 es.length && Nat.ble es.length 1000)
        ((fun (Tp : Ev) (ns : List Nat) => (fun L => match itemsU P d n call L nx es with
          | some its => cond (okK kd its && (okTm nx Tp T n && veq 65536 (gv Tp ti) (gv T ti))) (endR P d call L it H nx its) none
          | none => none) ⟨q, ti, l, cc, q2, l2, l3, kd, M, K1, V1, Tp, restH H ns, D, ns⟩) (poisonL d dead T) (((namesT T n).filter fun i => !(Nat.beq i it) && (!(Nat.beq i r) && !(Nat.beq i D))).eraseDups)) none
      | _ => none)
    | _, _ => none)
  | _, _ => none

section
variable {P : Program} {d n : Nat}
theorem okTm_sound {nx : Nat} {A B : Ev} : ∀ {n : Nat}, okTm nx A B n = true → ∀ t, t < n → gv A t = poison ∨ (gv A t = gv B t ∧ lowV 16 nx (gv A t) = true)
  | 0, _, t, ht => by omega
  | n + 1, h, t, ht => by
    rw [okTm] at h
    have key : (match gv A n with | .chan none => true | v => veq 65536 v (gv B n) && lowV 16 nx v) = true ∧ okTm nx A B n = true := by
      generalize (match gv A n with | .chan none => true | v => veq 65536 v (gv B n) && lowV 16 nx v) = b at *
      cases b with
      | true => exact ⟨rfl, h⟩
      | false => cases h
    by_cases e : t = n
    · subst e
      have k := key.1
      split at k
      · rename_i hp; exact .inl hp
      · rw [Bool.and_eq_true] at k
        exact .inr ⟨veq_eq k.1, k.2⟩
    · exact okTm_sound key.2 t (by omega)
theorem TR.ok {F : FM} {A B : Ev} {tmps : Array Value} {nx : Nat} (ht : TR d F B n tmps) (h : okTm nx A B n = true) : TR d (unF nx id F) A n tmps ∧ TR d F A n tmps := by
  have e : ∀ (T : Ev) (t : Nat), (tg T t).getD undef = gv T t := fun T t => by rw [tg_gv]; rfl
  refine ⟨⟨ht.wf, ht.size, ht.le, fun t hlt => ?_⟩, ⟨ht.wf, ht.size, ht.le, fun t hlt => ?_⟩⟩
  all_goals
    have := ht.get t hlt
    rw [e] at this ⊢
    rcases okTm_sound h t hlt with hp | ⟨hq, hl⟩
  · rw [hp]; exact .any _
  · rw [hq] at hl ⊢; exact VR.low hl this
  · rw [hp]; exact .any _
  · rw [hq]; exact this
theorem okHm_inv {nx D : Nat} {A B : Heap} : ∀ {ns : List Nat}, okHm nx D A B ns = true → ∀ i ∈ ns, i ≠ D → ∀ b, getH A i = some b → getH B i = some b ∧ lowB nx b = true
  | [], _, i, hi, _, _, _ => by cases hi
  | j :: l, h, i, hi, hne, b, hb => by
    rw [okHm] at h
    cases hc : (Nat.beq j D || (match getH A j with | none => true | some b => (match getH B j with | some b' => beqB b b' && lowB nx b | none => false))) with
    | false => rw [hc] at h; cases h
    | true =>
      rw [hc] at h
      rcases List.mem_cons.1 hi with rfl | hi
      · rw [Bool.or_eq_true] at hc
        rcases hc with hc | hc
        · exact absurd (Nat.eq_of_beq_eq_true hc) hne
        · rw [hb] at hc
          dsimp only at hc
          split at hc
          · rename_i b' hb'
            rw [Bool.and_eq_true] at hc
            exact ⟨by rw [hb', beqB_eq hc.1], hc.2⟩
          · cases hc
      · exact okHm_inv h i hi hne b hb
theorem nodup_key {es : List MapEntry} (h : (es.map (·.key)).Nodup) {a b : MapEntry} (ha : a ∈ es) (hb : b ∈ es) (hk : a.key = b.key) : a = b := by
  have := List.pairwise_map.1 h
  rcases Classical.em (a = b) with g | g
  · exact g
  · exfalso
    obtain ⟨i, hi, e1⟩ := List.mem_iff_getElem.1 ha
    obtain ⟨j, hj, e2⟩ := List.mem_iff_getElem.1 hb
    have hij : i ≠ j := fun e3 => g (by subst e3; rw [← e1, ← e2])
    have hn := List.pairwise_iff_getElem.1 this
    rcases Nat.lt_or_ge i j with h3 | h3
    · exact hn i j hi hj h3 (by rw [e1, e2, hk])
    · exact hn j i hj hi (by omega) (by rw [e1, e2, hk])
theorem nodup_born {es : List MapEntry} (h : (es.map (·.born)).Nodup) {a b : MapEntry} (ha : a ∈ es) (hb : b ∈ es) (hk : a.born = b.born) : a = b := by
  have := List.pairwise_map.1 h
  rcases Classical.em (a = b) with g | g
  · exact g
  · exfalso
    obtain ⟨i, hi, e1⟩ := List.mem_iff_getElem.1 ha
    obtain ⟨j, hj, e2⟩ := List.mem_iff_getElem.1 hb
    have hij : i ≠ j := fun e3 => g (by subst e3; rw [← e1, ← e2])
    have hn := List.pairwise_iff_getElem.1 this
    rcases Nat.lt_or_ge i j with h3 | h3
    · exact hn i j hi hj h3 (by rw [e1, e2, hk])
    · exact hn j i hj hi (by omega) (by rw [e1, e2, hk])
theorem setBlock_at {w : World} {r : Nat} {o : Obj} (h : r < w.heap.size) : (setBlock w r o).heap[r]? = some o := by simp [setBlock, h]
theorem setBlock_ne {w : World} {r k : Nat} {o : Obj} (h : k ≠ r) : (setBlock w r o).heap[k]? = w.heap[k]? := by simp [setBlock, Array.getElem?_setIfInBounds_ne (Ne.symm h)]


def lastO : List Oper → Option (List Oper × Oper)
  | [] => none
  | o :: l => match lastO l with
    | some (p, q) => some (o :: p, q)
    | none => match l with
      | [] => some ([], o)
      | _ => none
theorem lastO_app : ∀ {l p : List Oper} {q : Oper}, lastO l = some (p, q) → l = p ++ [q]
  | [], p, q, h => by cases h
  | [o], p, q, h => by cases h; rfl
  | o :: o2 :: l, p, q, h => by
    have e : lastO (o :: o2 :: l) = match lastO (o2 :: l) with
      | some (p, q) => some (o :: p, q)
      | none => none := by
      rw [show lastO (o :: o2 :: l) = _ from lastO.eq_def _]
    rw [e] at h
    cases h1 : lastO (o2 :: l) with
    | none => rw [h1] at h; cases h
    | some r =>
      rw [h1] at h
      cases h
      rw [lastO_app h1]; rfl
section
variable {P : Program} {d n : Nat}
theorem midM_sound (hn : n ≤ 2 ^ d) {call : OCall} (hcall : CallOK P call) {ops : Array Oper} {pre mid suf : List Oper} (hops : ops.toList = pre ++ (mid ++ suf)) {l : List S} (hl : compSs P n ops.toList mid = some l)
    {T : Ev} {H : Heap} {nx : Nat} {o : Ox} {T' : Ev} {H' : Heap} {nx' : Nat} (h : midM l P d call T H nx = some ⟨o, T', H', nx'⟩) (hw : WF d T) :
    o = .n ∧ WF d T' ∧ ∀ (F : FM) (a : Act) (w : World) (R : Exit → Act → World → Prop) (rest : List Nat), TR d F T n a.tmps → HR F H nx w →
      (∀ F' a' w', TR d F' T' n a'.tmps → Stp F H nx w F' H' nx' w' → a'.defers = a.defers → wpOps P ops R rest a' w') → wpOps P ops R (List.range' pre.length mid.length ++ rest) a w := by
  unfold midM at h
  rw [rg_eq] at h
  rcases ops_seg (ops := ops.toList) hn hcall none (fun T H nx => some (⟨.n, T, H, nx⟩ : Out)) mid l pre.length hl (fun j hj => by rw [hops, List.getElem?_append_right (by omega), Nat.add_sub_cancel_left, List.getElem?_append_left hj]) T H nx with e | ⟨T1, H1, nx1, e, hw1, hp⟩
  · rw [e] at h; cases h
  · rw [e] at h
    cases h
    exact ⟨rfl, (hw1 hw).1, fun F a w R rest ht hr hk => by simpa using hp F a w R rest ht hr fun F1 a1 w1 ht1 hst1 hd1 => by simpa using hk F1 a1 w1 ht1 hst1 hd1⟩
theorem mid2_inv {l2 l3 : List S} {call : OCall} {T : Ev} {H : Heap} {nx : Nat} {r : Out} (h : mid2 P d call l2 l3 T H nx = some r) : ∃ T1 H1 nx1, midM l2 P d call T H nx = some ⟨.n, T1, H1, nx1⟩ ∧ midM l3 P d call T1 H1 nx1 = some r := by
  unfold mid2 at h
  split at h
  · rename_i T1 H1 nx1 h1; exact ⟨T1, H1, nx1, h1, h⟩
  · cases h
theorem upd_one {kd : TypeDesc} {M K1 V1 : X} {T : Ev} {H : Heap} {nx D : Nat} {es : List MapEntry} {c : Nat} {call : OCall} (hM : ev T M = .map (some D)) (hD : getH H D = some (.map es c)) (hk : keyKind kd (ev T K1) = true) (hno : Instr.findNow kd (ev T K1) es 0 = some none) (hc : c < 1000000000000) :
    evE (.upd kd M K1 V1) call T H nx (none : Option Out) (fun _ H nx => some ⟨.n, T, H, nx⟩) = some ⟨.n, T, hs H D (some (.map (es ++ [⟨ev T K1, ev T V1, c⟩]) (c + 1))), nx⟩ := by
  show eUpd kd M K1 V1 call T H nx none (fun _ H nx => some ⟨.n, T, H, nx⟩) = _
  have hb : Nat.beq c 1000000000000 = false := by
    cases h : Nat.beq c 1000000000000 with
    | false => rfl
    | true => have := Nat.eq_of_beq_eq_true h; omega
  unfold eUpd
  rw [evK_eq, evK_eq, evK_eq, hM]
  dsimp only
  rw [getB_eq, hD]
  dsimp only [Option.elim_some]
  unfold updK
  dsimp only
  rw [hk, hno]
  dsimp only [cond_true]
  rw [spine_eq, forceN_eq, hsK_eq, hb]
  rfl
end
/-- The whole heap behind some entries. -/
noncomputable def HF (H0 : Heap) (it r since D : Nat) (c : List E2) : Heap := hs (hs H0 it (some (.iter (some r) since (some unb)))) D (some (.map (c.map (·.2)) c.length))
theorem loop_main (hm : P.follows .mixedOrders = true) (hn : n ≤ 2 ^ d) {call : OCall} (hcall : CallOK P call) {id : Nat} {ops : Array Oper} {o0 : Oper} {tl : List Oper} (hops : ops.toList = o0 :: tl) {L : LpU} (hl : compSs P n ops.toList tl = some L.l)
    {pre : Code} (hcc : compC P n pre = some L.cc) {bid id2 : Nat} {ops2 : Array Oper} {o1 oU : Oper} {tl2 mid : List Oper} (hops2 : ops2.toList = o1 :: tl2) (hl2 : compSs P n ops2.toList tl2 = some L.l2) {id3 : Nat} {ops3 : Array Oper} (hops3 : ops3.toList = mid ++ [oU]) (hl3 : compSs P n ops3.toList mid = some L.l3)
    {t0 : TypeId} {m0 k0 v0 : Operand} {kt et : TypeId} (hgU : oU.guard = none) (hdU : oU.dst = none) (hoU : oU.op = .mapUpdate t0 m0 k0 v0) (hM : compX n m0 = some L.M) (hK : compX n k0 = some L.K1) (hV : compX n v0 = some L.V1) (hu : P.underlying t0 = some (.map kt et)) (hku : P.underlying kt = some L.kd)
    (hg0 : o0.guard = none) (hd0 : o0.dst = some L.q) (ho0 : o0.op = .next (.tmp L.ti) false) (hqn : L.q < n) (htn : L.ti < n) (hg1 : o1.guard = none) (hd1 : o1.dst = some L.q2) (ho1 : o1.op = .entry (.tmp L.ti)) (hqn2 : L.q2 < n)
    {its : List E2} {nx : Nat} (hall : ∀ x ∈ its, itemU P d n call L nx x.1 = some x.2) (hkr : its.Pairwise KR) (hlen : its.length ≤ 1000) (hwT : WF d L.Tp)
    {H0 : Heap} {it r since : Nat} {es : List MapEntry} (hes : its.map (·.1) = es) (hDit : L.D ≠ it) (hDr : L.D ≠ r) (hit : getH H0 it = some (.iter (some r) since none)) (hr0 : getH H0 r = some (.map es since)) (hrit : r ≠ it)
    (hsub : ∀ i b, getH L.Hs i = some b → (i ≠ it ∧ i ≠ r ∧ i ≠ L.D) ∧ getH H0 i = some b ∧ i ∈ L.ns) (hti : gv L.Tp L.ti = .pointer (some ⟨it, 0, none⟩)) {o : Ox} {T' : Ev} {H' : Heap} {nx' : Nat} (hend : endR P d call L it H0 nx its = some ⟨o, T', H', nx'⟩) :
    ∀ (m : Nat) (c r' : List E2), (c, r') ∈ subs its → r'.length = m → ∀ (F : FM) (a : Act) (w : World) (Q : Exit → Act → World → Prop) (es' : Array MapEntry) (c' : Nat) (sn : Array Nat) (tt tr : Tgt),
      TR d F L.Tp n a.tmps → HR F (HF H0 it r since L.D c) nx w → F it = some tt → tt.base = 0 → F r = some tr → w.heap[tt.blk]? = some (.mapIter (some tr.blk) c' sn c') → w.heap[tr.blk]? = some (.map es' c') → ML F es es'.toList → MapKept.Stamped es' c' →
      (∀ x ∈ es'.toList, sn.contains x.born = true ↔ ∃ p ∈ c, p.1.key = x.key) →
      (∀ F' a' w', TR d F' T' n a'.tmps → Stp F (HF H0 it r since L.D c) nx w F' H' nx' w' → a'.defers = a.defers → Q o.exit a' w') →
      Code.rounds P (.seq (.region id ops false) (.seq pre (.block bid (.seq (.region id2 ops2 false) (.region id3 ops3 false))))) Q (m + 1) a w := by
  have hHF : ∀ c i, getH (HF H0 it r since L.D c) i = if i = L.D then some (.map (c.map (·.2)) c.length) else if i = it then some (.iter (some r) since (some unb)) else getH H0 i := fun c i => by
    unfold HF; rw [getH_hs, getH_hs]
  intro m
  induction m using Nat.strongRecOn with
  | ind m ih =>
  intro c r' hcr hr' F a w Q es' c' sn tt tr ht hr hFt hbt hFr hwt hwr hml hst hsn hpost
  have hrange : List.range ops.size = 0 :: List.range' 1 tl.length := by
    have : ops.size = tl.length + 1 := by have := congrArg List.length hops; simpa using this
    rw [this, List.range_eq_range', List.range'_succ]
  have hperm := subs_perm hcr
  have hkeys : (its.map fun p => p.1.key).Nodup := by
    have h1 := hml.nd
    rw [← hes, List.map_map] at h1
    exact h1
  have hdis : ∀ p ∈ c, ∀ x ∈ r', p.1.key ≠ x.1.key := by
    have h1 : ((c ++ r').map fun p => p.1.key).Nodup := (hperm.map _).nodup_iff.2 hkeys
    rw [List.map_append] at h1
    have h2 := (List.nodup_append.1 h1).2.2
    intro p hp x hx e
    exact h2 _ (List.mem_map.2 ⟨p, hp, rfl⟩) _ (List.mem_map.2 ⟨x, hx, rfl⟩) e
  have hitn : it < nx := hr.low (i := it) (b := .iter (some r) since (some unb)) (by rw [hHF, if_neg (Ne.symm hDit), if_pos rfl])
  have hmem : o0 ∈ ops.toList := by rw [hops]; simp
  have hio : ops[0]? = some o0 := by rw [← Array.getElem?_toList, hops]; rfl
  have hev : a.eval (.tmp L.ti) = .pointer (some ⟨tt.blk, 0, none⟩) := by
    have h1 := ht.get L.ti htn
    have e : (tg L.Tp L.ti).getD undef = gv L.Tp L.ti := by rw [tg_gv]; rfl
    rw [e, hti] at h1
    obtain ⟨_, t, hF, he⟩ := h1.ptr_inv
    rw [hFt] at hF; cases hF
    rw [hbt] at he
    exact he
  rw [rounds_succ]
  refine wp_seq (wp_region ?_)
  rw [hrange, wpOps_cons]
  unfold wpOp
  simp only [hio]
  rw [if_pos (by simp [Region.wanted, hg0])]
  refine .inl ?_
  rcases run_next_at (P := P) w o0.type tt.blk tr.blk c' c' sn es' c' hwt hwr hst.1 (Nat.le_refl _) with ⟨h0, hrun⟩ | ⟨e', he', w1, hw1, hrun⟩
  · -- nothing is left
    have hall' : ∀ x ∈ es'.toList, sn.contains x.born = true := by
      intro x hx
      cases hc : sn.contains x.born with
      | true => rfl
      | false =>
        exfalso
        have : x ∈ leftOf es' sn := by unfold leftOf; rw [Array.mem_filter]; exact ⟨by simpa using hx, by rw [hc]; rfl⟩
        have := Array.size_pos_of_mem this
        omega
    have hnil : r' = [] := by
      rcases List.eq_nil_or_concat r' with h | ⟨l, x, h⟩
      · exact h
      · exfalso
        have hx : x ∈ r' := by rw [h]; simp
        have hxi : x.1 ∈ es := by rw [← hes]; exact List.mem_map.2 ⟨x, hperm.mem_iff.1 (by simp [hx]), rfl⟩
        obtain ⟨_, x', hx', hk, _⟩ := hml.fwd x.1 hxi
        obtain ⟨p, hp, hpk⟩ := (hsn x' hx').1 (hall' x' hx')
        exact hdis p hp x hx (by rw [hpk, hk])
    subst hnil
    rw [List.append_nil] at hperm
    refine wp_of_value (v := .tuple #[.bool false]) (w' := w) ?_ ?_
    · simp only [execOp, ho0, hev, Sem.run_bind, hrun, Result.andThen_ok, Sem.run_pure]
    · rw [hd0]
      unfold endR at hend
      rw [tsK_eq, hsK_eq, hsK_eq] at hend
      split at hend
      · cases hend
      · rename_i hne
        obtain ⟨hw2, hok⟩ := headM_sound (blk := .block bid (.seq (.region id2 ops2 false) (.region id3 ops3 false))) hm hn hcall hops hl hcc hend (WF_ts d L.Tp L.q _ hwT)
        have hHe : ∀ i, getH (hs (hs H0 it none) L.D (some (.map (its.map (·.2)) its.length))) i = if i = L.D then some (.map (its.map (·.2)) its.length) else if i = it then none else getH H0 i := fun i => by rw [getH_hs, getH_hs]
        have hst1 : Stp F (HF H0 it r since L.D c) nx w F (hs (hs H0 it none) L.D (some (.map (its.map (·.2)) its.length))) nx w := by
          refine (Stp.refl hr).wk fun i b2 hb2 => ?_
          rw [hHe] at hb2
          rw [hHF]
          by_cases e1 : i = L.D
          · rw [if_pos e1] at hb2 ⊢; cases hb2
            refine .inr ⟨_, rfl, ?_⟩
            rw [show c.length = its.length from hperm.length_eq]
            refine Wk.map ?_ fun e2 he2 => ?_
            · rw [List.map_map, List.map_map]; exact (hperm.symm.map _)
            · obtain ⟨p, hp, rfl⟩ := List.mem_map.1 he2
              exact ⟨p.2, List.mem_map.2 ⟨p, hperm.mem_iff.2 hp, rfl⟩, rfl, rfl, .inl rfl⟩
          · rw [if_neg e1] at hb2 ⊢
            by_cases e2 : i = it
            · rw [if_pos e2] at hb2; cases hb2
            · rw [if_neg e2] at hb2 ⊢; exact .inl hb2
        have ht1 : TR d F (ts d L.Tp L.q (.tuple ⟨[.bool false]⟩)) n (a.put (some L.q) (.tuple #[.bool false])).tmps := ht.put hqn (VR.tuple' (.cons (.bool false) .nil))
        refine hok F _ w (Exit.then (Code.rounds P _ Q m) Q) ht1 hst1.hr fun F' a' w' ht' hst' hd' => ?_
        have := hpost F' a' w' ht' (hst1.trans hst') hd'
        cases o with
        | n => exact absurd hend (hne _ _ _)
        | x id => exact this
        | r => exact this
  · -- one entry comes
    have hel : e' ∈ es'.toList ∧ sn.contains e'.born = false := by
      unfold leftOf at he'
      simp only [Array.toList_filter, List.mem_filter] at he'
      exact ⟨he'.1, by simpa using he'.2⟩
    obtain ⟨e, hee, hek⟩ := hml.bwd e' hel.1
    obtain ⟨p, hpi, rfl⟩ : ∃ p ∈ its, p.1 = e := by rw [← hes] at hee; exact List.mem_map.1 hee
    have hpr : p ∈ r' := by
      rcases List.mem_append.1 (hperm.mem_iff.2 hpi) with h | h
      · have := (hsn e' hel.1).2 ⟨p, h, hek⟩
        rw [hel.2] at this; cases this
      · exact h
    obtain ⟨hfl, e2, he2, hk2, hvr, _⟩ := hml.fwd p.1 hee
    obtain rfl : e2 = e' := nodup_key hml.nd' he2 hel.1 (by rw [hk2, hek])
    have hchk := hall p (hperm.mem_iff.1 (by simp [hpr]))
    unfold itemU at hchk
    split at hchk
    case h_2 => cases hchk
    · rename_i Tm Hm nxm hhd
      rw [tsK_eq] at hhd
      cases hvq : veq 65536 (gv Tm L.ti) (gv L.Tp L.ti) with
      | false => rw [hvq] at hchk; cases hchk
      | true =>
      rw [hvq] at hchk
      simp only [cond_true] at hchk
      rw [tsK_eq] at hchk
      have htim : gv Tm L.ti = .pointer (some ⟨it, 0, none⟩) := by rw [veq_eq hvq, hti]
      split at hchk
      case h_2 => cases hchk
      · rename_i T1 H1 nx1 hmd
        rw [Bool.cond_eq_ite] at hchk
        split at hchk
        case isFalse => cases hchk
        rename_i hcs
        simp only [Bool.and_eq_true] at hcs
        obtain ⟨hMD, hokT, hokH, hkk, hlk, hlv⟩ := hcs
        have hMD := veq_eq hMD
        have hp2 : p.2 = ⟨ev T1 L.K1, ev T1 L.V1, unb⟩ := (Option.some.inj hchk).symm
        obtain ⟨hwm, hokh⟩ := headM_sound (blk := .block bid (.seq (.region id2 ops2 false) (.region id3 ops3 false))) hm hn hcall hops hl hcc hhd (WF_ts d L.Tp L.q _ hwT)
        obtain ⟨T2, H2, nx2, hmd2, hmd3⟩ := mid2_inv hmd
        obtain ⟨_, hw2, hok⟩ := midM_sound (pre := [o1]) (suf := []) hn hcall (by rw [hops2]; simp) hl2 hmd2 (WF_ts d Tm L.q2 _ hwm)
        obtain ⟨_, hw3, hok3⟩ := midM_sound (pre := []) (suf := [oU]) hn hcall (by rw [hops3]; rfl) hl3 hmd3 hw2
        -- the iterator's step
        have hwh : w1.heap = w.heap := by rcases hw1 with rfl | rfl <;> rfl
        have hlt : tt.blk < w1.heap.size := by rw [hwh]; exact (Array.getElem?_eq_some_iff.1 hwt).1
        have hne : tr.blk ≠ tt.blk := fun e => by rw [e, hwt] at hwr; cases hwr
        generalize hW : setBlock w1 tt.blk (.mapIter (some tr.blk) c' (sn.push e2.born) c') = W at hrun
        have hWt : W.heap[tt.blk]? = some (.mapIter (some tr.blk) c' (sn.push e2.born) c') := by rw [← hW]; exact setBlock_at hlt
        have hWo : ∀ k, k ≠ tt.blk → W.heap[k]? = w.heap[k]? := fun k hk => by rw [← hW, setBlock_ne hk, hwh]
        have hWs : W.heap.size = w.heap.size := by rw [← hW]; simp [setBlock, hwh]
        have hst1 : Stp F (HF H0 it r since L.D c) nx w F (HF H0 it r since L.D c) nx W := by
          have := Stp.updateG (w' := W) (new := .iter (some r) since (some unb)) hr hitn (by rw [hHF, if_neg (Ne.symm hDit), if_pos rfl]) rfl rfl hFt (by rw [← hW]; rcases hw1 with rfl | rfl <;> rfl) (by rw [← hW]; rcases hw1 with rfl | rfl <;> rfl) (by rw [← hW]; rcases hw1 with rfl | rfl <;> rfl) (by omega) (fun k hk _ => hWo k hk) ?_
          · refine this.wk fun i b hb => .inl ?_
            rw [getH_hs]
            by_cases e : i = it
            · rw [if_pos e]; rw [hHF, e, if_neg (Ne.symm hDit), if_pos rfl] at hb; exact hb
            · rw [if_neg e]; exact hb
          · have hbr := hr.hb.get hFt (by rw [hHF, if_neg (Ne.symm hDit), if_pos rfl])
            obtain ⟨q0, m', si, sn', last, q1, q2, ⟨u, q3, q4⟩, q5⟩ := hbr
            rw [hwt] at q1
            simp only [Option.some.injEq, Obj.mapIter.injEq] at q1
            obtain ⟨_, rfl, _, rfl⟩ := q1
            exact ⟨q0, _, _, _, _, hWt, q2, ⟨tr, hFr, rfl⟩, .inl rfl⟩
        -- the round, on the blocks that it knows
        have hsubF : ∀ c i b, getH L.Hs i = some b → getH (HF H0 it r since L.D c) i = some b := by
          intro c i b hb
          obtain ⟨⟨k1, _, k3⟩, k2, _⟩ := hsub i b hb
          rw [hHF, if_neg k3, if_neg k1]; exact k2
        have hrS : HR F L.Hs nx W := hst1.hr.sub (hsubF c)
        have hnot : ∀ t0 i0, F i0 = some t0 → i0 < nx → (∃ b0, getH (HF H0 it r since L.D c) i0 = some b0 ∧ b0.isRom = false) → getH L.Hs i0 = none → ¬ Own F L.Hs nx t0.blk := by
          rintro t0 i0 hF0 hi0 ⟨b0, hb0, hrom⟩ hn0 ⟨j, k, u, hj, hgj, hrk, hFj, e⟩
          rcases hst1.hr.inj j i0 k b0 u t0 hj hi0 (hsubF c j k hgj) hb0 hFj hF0 e with h | h
          · subst h; rw [hn0] at hgj; cases hgj
          · rw [hrk] at h; cases h.1
        have hnit : getH L.Hs it = none := by
          cases hg : getH L.Hs it with
          | none => rfl
          | some b => exact absurd rfl (hsub it b hg).1.1
        have hnr : getH L.Hs r = none := by
          cases hg : getH L.Hs r with
          | none => rfl
          | some b => exact absurd rfl (hsub r b hg).1.2.1
        have hnD : getH L.Hs L.D = none := by
          cases hg : getH L.Hs L.D with
          | none => rfl
          | some b => exact absurd rfl (hsub L.D b hg).1.2.2
        have hrF : getH (HF H0 it r since L.D c) r = some (.map es since) := by rw [hHF, if_neg (Ne.symm hDr), if_neg hrit]; exact hr0
        have hrn : r < nx := hr.low hrF
        have hno1 := hnot tt it hFt hitn ⟨_, by rw [hHF, if_neg (Ne.symm hDit), if_pos rfl], rfl⟩ hnit
        have hno2 := hnot tr r hFr hrn ⟨_, hrF, rfl⟩ hnr
        have ht1 : TR d F (ts d L.Tp L.q (tupE p.1)) n (a.put (some L.q) (.tuple #[.bool true, e2.key, e2.val])).tmps :=
          ht.put hqn (VR.tuple' (.cons (.bool true) (.cons (by rw [hk2]; exact flat1_refl F _ hfl) (.cons hvr .nil))))
        obtain ⟨cc, rr, hcc, hcp, hrp⟩ := subs_pick hcr p hpr
        have hmm : rr.length + 1 = m := by have := hrp.length_eq; simp at this; omega
        refine wp_of_value (v := .tuple #[.bool true, e2.key, e2.val]) (w' := W) ?_ ?_
        · simp only [execOp, ho0, hev, Sem.run_bind, hrun, Result.andThen_ok, Sem.run_pure]
        · rw [hd0]
          refine hokh F _ W (Exit.then (Code.rounds P _ Q m) Q) ht1 hrS fun Fm am wm htm hstm hdm => ?_
          have htl : tt.blk < W.heap.size := by rw [hWs, ← hwh]; exact hlt
          have hrl : tr.blk < W.heap.size := by rw [hWs]; exact (Array.getElem?_eq_some_iff.1 hwr).1
          have hrange2 : List.range ops2.size = 0 :: List.range' 1 tl2.length := by
            have : ops2.size = tl2.length + 1 := by have := congrArg List.length hops2; simpa using this
            rw [this, List.range_eq_range', List.range'_succ]
          have hio2 : ops2[0]? = some o1 := by rw [← Array.getElem?_toList, hops2]; rfl
          have hwmt : wm.heap[tt.blk]? = some (.mapIter (some tr.blk) c' (sn.push e2.born) c') := (hstm.frame _ htl hno1).trans hWt
          have hwmr : wm.heap[tr.blk]? = some (.map es' c') := (hstm.frame _ hrl hno2).trans ((hWo _ hne).trans hwr)
          have hrune := run_entry_at (P := P) wm tt.blk tr.blk c' sn es' c' e2 hwmt hwmr hel.1 hst.2.1
          have hevm : am.eval (.tmp L.ti) = .pointer (some ⟨tt.blk, 0, none⟩) := by
            have h1 := htm.get L.ti htn
            have e : (tg Tm L.ti).getD undef = gv Tm L.ti := by rw [tg_gv]; rfl
            rw [e, htim] at h1
            obtain ⟨_, t, hF, he⟩ := h1.ptr_inv
            rw [hstm.ext it hitn, hFt] at hF; cases hF
            rw [hbt] at he
            exact he
          show (Code.block bid (.seq (.region id2 ops2 false) (.region id3 ops3 false))).wp P _ am wm
          refine wp_block (wp_seq (wp_region ?_))
          rw [hrange2, wpOps_cons]
          unfold wpOp
          simp only [hio2]
          rw [if_pos (by simp [Region.wanted, hg1])]
          refine .inl ?_
          refine wp_of_value (v := .tuple #[e2.key, e2.val]) (w' := wm) ?_ ?_
          · simp only [execOp, ho1, hevm, Sem.run_bind, hrune, Result.andThen_ok, Sem.run_pure]
          rw [hd1]
          have htm1 : TR d Fm (ts d Tm L.q2 (pairE p.1)) n (am.put (some L.q2) (.tuple #[e2.key, e2.val])).tmps :=
            htm.put hqn2 (VR.tuple' (.cons (by rw [hk2]; exact flat1_refl Fm _ hfl) (.cons (hvr.mono (hstm.fle hrS)) .nil)))
          have key1 := fun R hk => hok Fm (am.put (some L.q2) (.tuple #[e2.key, e2.val])) wm R [] htm1 hstm.hr hk
          rw [List.append_nil] at key1
          refine key1 _ fun Fa aa wa hta hsta hda => ?_
          simp only [wpOps]
          show (Code.region id3 ops3 false).wp P _ aa wa
          refine wp_region ?_
          have hrange3 : List.range ops3.size = List.range' 0 mid.length ++ [mid.length] := by
            have : ops3.size = mid.length + 1 := by have := congrArg List.length hops3; simpa using this
            rw [this, List.range_eq_range', ← List.range'_append_1, Nat.zero_add]; rfl
          rw [hrange3]
          refine hok3 Fa aa wa _ [mid.length] hta hsta.hr fun F1 a2 w2 ht2 hst2b hd2b => ?_
          have hst2' := hsta.trans hst2b
          have hd2' := hd2b.trans hda
          rw [wpOps_cons]
          have hst2 := hstm.trans hst2'
          -- what is kept of it
          have hDn : L.D < nx := hr.low (i := L.D) (b := .map (c.map (·.2)) c.length) (by rw [hHF, if_pos rfl])
          have hgc : Stp F L.Hs nx W (unF nx _root_.id F1) L.Hs nx w2 := by
            refine hst2.gc (Nat.le_refl _) fun i b2 hb2 => ?_
            obtain ⟨⟨_, _, e1⟩, k2, k3⟩ := hsub i b2 hb2
            obtain ⟨k4, k5⟩ := okHm_inv hokH i k3 e1 b2 hb2
            exact ⟨hrS.low hb2, k5, b2, k4, Wk.refl (lowB_rom k5)⟩
          have hbes : Stp F (HF H0 it r since L.D c) nx W (unF nx _root_.id F1) (HF H0 it r since L.D c) nx w2 := by
            refine Stp.beside hst1.hr (fun i b _ hb => hsubF c i b hb) hgc fun i => ?_
            cases hg : getH L.Hs i with
            | some b => rw [hsubF c i b hg]; simp
            | none =>
              by_cases hi : i < nx
              · cases hg0 : getH (HF H0 it r since L.D c) i <;> simp [hi]
              · simp only [hi, false_and, if_false]
                exact hst1.hr.top i (by omega)
          -- the map's update
          have hgD : getH (HF H0 it r since L.D c) L.D = some (.map (c.map (·.2)) c.length) := by rw [hHF, if_pos rfl]
          generalize hHd : hs Heap.leaf L.D (some (.map (c.map (·.2)) c.length)) = Hd
          have hHdi : ∀ i, getH Hd i = if i = L.D then some (.map (c.map (·.2)) c.length) else none := fun i => by rw [← hHd, getH_hs, getH_leaf]
          have hrD : HR (unF nx _root_.id F1) Hd nx w2 := hbes.hr.sub fun i b hb => by
            rw [hHdi] at hb
            by_cases e1 : i = L.D
            · rw [if_pos e1] at hb; rw [e1, hgD]; exact hb
            · rw [if_neg e1] at hb; cases hb
          have hkr2 := (hperm.pairwise_iff (fun h => KR.symm h)).2 hkr
          have hno : Instr.findNow L.kd (ev T1 L.K1) (c.map (·.2)) 0 = some none := findNow_no hkk 0 fun e he => by
            obtain ⟨y, hy, rfl⟩ := List.mem_map.1 he
            have := (List.pairwise_append.1 hkr2).2.2 y hy p hpr
            rw [KR, hp2] at this
            exact this
          have hlc : c.length ≤ 1000 := by have := hperm.length_eq; simp at this; omega
          have hup := upd_one (V1 := L.V1) (call := call) (nx := nx) hMD (by rw [hHdi, if_pos rfl]) hkk hno (by omega)
          have hevU : ∃ u, EV P d n oU T1 Hd nx u (hs Hd L.D (some (.map (c.map (·.2) ++ [⟨ev T1 L.K1, ev T1 L.V1, c.length⟩]) (c.length + 1)))) nx := by
            rcases upd_sound (d := d) hoU (Or.inl rfl) hM hK hV hu hku call (none : Option Out) (fun _ H nx => some ⟨.n, T1, H, nx⟩) with e | ⟨u, H', nx', e, hE⟩
            · rw [hup] at e; cases e
            · rw [hup] at e; cases e
              exact ⟨u, hE⟩
          obtain ⟨u, hevU⟩ := hevU
          have hioU : ops3[mid.length]? = some oU := by rw [← Array.getElem?_toList, hops3]; simp
          unfold wpOp
          simp only [hioU]
          rw [if_pos (by simp [Region.wanted, hgU])]
          refine .inl (hevU _ a2 w2 _ _ ?_ hrD fun v' F4 w3 hv hstU => ?_)
          · intro x hx y hy
            rw [hoU] at hx
            have hx : x = m0 ∨ x = k0 ∨ x = v0 := by simpa [Op.operands] using hx
            rcases hx with rfl | rfl | rfl
            · rw [hM] at hy; cases hy
              exact VR.low (k := 1) (by rw [hMD]; show Nat.blt _ _ = true; rw [Nat.blt_eq]; exact hDn) (ht2.evX hM)
            · rw [hK] at hy; cases hy; exact VR.low hlk (ht2.evX hK)
            · rw [hV] at hy; cases hy; exact VR.low hlv (ht2.evX hV)
          rw [hdU]
          show wpOps P ops3 _ [] a2 w3
          simp only [wpOps]
          show Code.rounds P _ Q m a2 w3
          have hlen2 : cc.length = c.length + 1 := by have := hcp.length_eq; simpa using this
          have hstU2 : Stp (unF nx _root_.id F1) Hd nx w2 F4 (hs Heap.leaf L.D (some (.map (cc.map (·.2)) cc.length))) nx w3 := by
            refine hstU.wk fun i b2 hb2 => ?_
            rw [getH_hs, getH_leaf] at hb2
            by_cases e1 : i = L.D
            · rw [if_pos e1] at hb2; cases hb2
              refine .inr ⟨_, by rw [getH_hs, if_pos e1], ?_⟩
              rw [hlen2]
              refine Wk.map ?_ fun f hf => ?_
              · have h1 := (hcp.map (fun q => q.2)).map (·.key)
                refine h1.trans ?_
                simp only [List.map_cons, List.map_append, List.map_nil, hp2]
                exact List.perm_append_singleton _ _ |>.symm
              · obtain ⟨y, hy, rfl⟩ := List.mem_map.1 hf
                rcases List.mem_cons.1 (hcp.mem_iff.1 hy) with rfl | hy
                · exact ⟨⟨ev T1 L.K1, ev T1 L.V1, c.length⟩, by simp, by rw [hp2], by rw [hp2], .inr (by rw [hp2])⟩
                · exact ⟨y.2, by simp only [List.mem_append, List.mem_map]; exact .inl ⟨y, hy, rfl⟩, rfl, rfl, .inl rfl⟩
            · rw [if_neg e1] at hb2; cases hb2
          have hbes2 : Stp (unF nx _root_.id F1) (HF H0 it r since L.D c) nx w2 F4 (HF H0 it r since L.D cc) nx w3 := by
            refine Stp.beside hbes.hr (fun i b _ hb => ?_) hstU2 fun i => ?_
            · rw [hHdi] at hb
              by_cases e1 : i = L.D
              · rw [if_pos e1] at hb; rw [e1, hgD]; exact hb
              · rw [if_neg e1] at hb; cases hb
            · rw [hHF cc, hHF c, getH_hs, getH_leaf, hHdi]
              by_cases e1 : i = L.D
              · subst e1; simp
              · simp only [if_neg e1, true_and]
                by_cases hi : i < nx
                · simp only [hi, true_and]
                  by_cases e2 : i = it
                  · simp [e2]
                  · simp only [if_neg e2]
                    cases hg0 : getH H0 i <;> simp
                · simp only [hi, false_and, if_false]
                  have := hr.top i (by omega)
                  rw [hHF, if_neg e1] at this
                  exact this
          have hb2 := hbes.trans hbes2
          have hfr : ∀ b, b < W.heap.size → ¬ Own F L.Hs nx b → ¬ Own (unF nx _root_.id F1) Hd nx b → w3.heap[b]? = W.heap[b]? := fun b h1 h2 h3 => by
            rw [hstU.frame b (Nat.lt_of_lt_of_le h1 hst2.size) h3, hst2.frame b h1 h2]
          have hnD2 : ∀ t0 i0, F i0 = some t0 → i0 < nx → i0 ≠ L.D → (∃ b0, getH (HF H0 it r since L.D c) i0 = some b0 ∧ b0.isRom = false) → ¬ Own (unF nx _root_.id F1) Hd nx t0.blk := by
            rintro t0 i0 hF0 hi0 hne0 ⟨b0, hb0, hrom⟩ ⟨j, k, u, hj, hgj, hrk, hFj, e⟩
            rw [hHdi] at hgj
            by_cases e1 : j = L.D
            · subst e1
              rw [if_pos rfl] at hgj; cases hgj
              rcases hbes.hr.inj _ i0 _ b0 u t0 hj hi0 hgD hb0 hFj (by rw [hbes.ext i0 hi0]; exact hF0) e with h | h
              · exact hne0 h.symm
              · cases h.1
            · rw [if_neg e1] at hgj; cases hgj
          have hno1' := hnD2 tt it hFt hitn (Ne.symm hDit) ⟨_, by rw [hHF, if_neg (Ne.symm hDit), if_pos rfl], rfl⟩
          have hno2' := hnD2 tr r hFr hrn (Ne.symm hDr) ⟨_, hrF, rfl⟩
          have key := ih rr.length (by omega) cc rr hcc rfl F4 a2 w3 Q es' c' (sn.push e2.born) tt tr ((ht2.ok hokT).1.mono (hstU.fle hrD)) hb2.hr (by rw [hb2.ext it hitn]; exact hFt) hbt (by rw [hb2.ext r hrn]; exact hFr)
            ((hfr _ htl hno1 hno1').trans hWt) ((hfr _ hrl hno2 hno2').trans ((hWo _ hne).trans hwr)) (hml.mono (hb2.fle hst1.hr)) hst ?_ ?_
          · rw [hmm] at key; exact key
          · intro x hx
            rw [Array.contains_push]
            simp only [Bool.or_eq_true, beq_iff_eq]
            constructor
            · rintro (h | h)
              · obtain ⟨y, hy, hyk⟩ := (hsn x hx).1 h
                exact ⟨y, hcp.mem_iff.2 (by simp [hy]), hyk⟩
              · have : x = e2 := nodup_born hst.2.1 hx hel.1 h
                subst this
                exact ⟨p, hcp.mem_iff.2 (by simp), hek⟩
            · rintro ⟨y, hy, hyk⟩
              rcases List.mem_cons.1 (hcp.mem_iff.1 hy) with rfl | hy
              · have : x = e2 := nodup_key hml.nd' hx hel.1 (by rw [← hyk, hek])
                subst this
                exact .inr rfl
              · exact .inl ((hsn x hx).2 ⟨y, hy, hyk⟩)
          · intro F' a' w' ht' hst' hd'
            exact hpost F' a' w' ht' (hst1.trans (hb2.trans hst')) (hd'.trans (hd2'.trans (by simpa [Act.put] using hdm)))

theorem mapLoop_sound (hm : P.follows .mixedOrders = true) (hn : n ≤ 2 ^ d) {call : OCall} (hcall : CallOK P call) {id : Nat} {ops : Array Oper} {o0 : Oper} {tl : List Oper} (hops : ops.toList = o0 :: tl) {l : List S} (hl : compSs P n ops.toList tl = some l)
    {pre : Code} {cc : C} (hcc : compC P n pre = some cc) {bid id2 : Nat} {ops2 : Array Oper} {o1 oU : Oper} {tl2 mid : List Oper} (hops2 : ops2.toList = o1 :: tl2) {l2 : List S} (hl2 : compSs P n ops2.toList tl2 = some l2)
    {id3 : Nat} {ops3 : Array Oper} (hops3 : ops3.toList = mid ++ [oU]) {l3 : List S} (hl3 : compSs P n ops3.toList mid = some l3) {t0 : TypeId} {m0 k0 v0 : Operand} {kt et : TypeId} {kd : TypeDesc} {M K1 V1 : X} (hgU : oU.guard = none) (hdU : oU.dst = none) (hoU : oU.op = .mapUpdate t0 m0 k0 v0) (hM : compX n m0 = some M) (hK : compX n k0 = some K1) (hV : compX n v0 = some V1) (hu : P.underlying t0 = some (.map kt et)) (hku : P.underlying kt = some kd) {q ti q2 : Nat} (hg0 : o0.guard = none) (hd0 : o0.dst = some q) (ho0 : o0.op = .next (.tmp ti) false) (hqn : q < n) (htn : ti < n) (hg1 : o1.guard = none) (hd1 : o1.dst = some q2) (ho1 : o1.op = .entry (.tmp ti)) (hqn2 : q2 < n) {dead : List Nat} {T : Ev} {H : Heap} {nx : Nat} {o : Ox} {T' : Ev} {H' : Heap} {nx' : Nat}
    (h : mapLoop P d n call q ti l cc q2 l2 l3 kd M K1 V1 dead T H nx = some ⟨o, T', H', nx'⟩) (hw : WF d T) : WF d T' ∧ CodeOK P d n (.loop (.seq (.region id ops false) (.seq pre (.block bid (.seq (.region id2 ops2 false) (.region id3 ops3 false)))))) T H nx o T' H' nx' := by
  unfold mapLoop at h
  split at h
  · rename_i it D hti htD
    split at h
    · rename_i r since hit hD
      split at h
      · rename_i es clock hr0
        generalize hTp : poisonL d dead T = Tp at h
        generalize hns : ((namesT T n).filter fun i => !(Nat.beq i it) && (!(Nat.beq i r) && !(Nat.beq i D))).eraseDups = ns at h
        cases hcd : (Nat.beq clock since && !(Nat.beq since 1000000000000) && !(Nat.beq D r) && !(Nat.beq D it) && Nat.ble 2 es.length && Nat.ble es.length 1000) with
        | false => rw [hcd] at h; cases h
        | true =>
          rw [hcd] at h
          simp only [cond_true] at h
          split at h
          · rename_i its hits
            cases hch : (okK kd its && (okTm nx Tp T n && veq 65536 (gv Tp ti) (gv T ti))) with
            | false => rw [hch] at h; cases h
            | true =>
              rw [hch] at h
              simp only [cond_true] at h
              simp only [Bool.and_eq_true, Bool.not_eq_true'] at hcd hch
              obtain ⟨⟨⟨⟨⟨b1, b2⟩, b3⟩, b4⟩, _⟩, b6⟩ := hcd
              have b1 := Nat.eq_of_beq_eq_true b1
              subst b1
              have nb : ∀ {x y : Nat}, Nat.beq x y = false → x ≠ y := fun h e => by subst e; rw [Nat.beq_refl] at h; cases h
              have hDr := nb b3
              have hDit := nb b4
              have hcu : ¬ clock = unb := nb b2
              have hrit : r ≠ it := fun e => by rw [e, hit] at hr0; cases hr0
              have hwTp : WF d Tp := hw
              have hsub : ∀ i b, getH (restH H ns) i = some b → (i ≠ it ∧ i ≠ r ∧ i ≠ D) ∧ getH H i = some b ∧ i ∈ ns := by
                intro i b hb
                obtain ⟨k1, k2⟩ := restH_sub hb
                have k3 := k2
                rw [← hns, List.mem_eraseDups, List.mem_filter] at k3
                simp only [Bool.and_eq_true, Bool.not_eq_true'] at k3
                exact ⟨⟨nb k3.2.1, nb k3.2.2.1, nb k3.2.2.2⟩, k1, k2⟩
              have hend := h
              have hti2 : gv Tp ti = .pointer (some ⟨it, 0, none⟩) := by rw [veq_eq hch.2.2, hti]
              refine ⟨hw, fun F a w Q ht hr hk => ?_⟩
              obtain ⟨tt, hFt, hb0, m', si, sn, last, hw1, hsi, ⟨u, hFu, hm'⟩, hsn, hla⟩ := hr.blk it _ (hr.low hit) hit
              obtain ⟨tr, hFr, _, es', c', hw2, hcl, hml, hst⟩ := hr.blk r _ (hr.low hr0) hr0
              rw [hFr] at hFu; cases hFu
              obtain rfl := hsi.resolve_right hcu
              obtain rfl := hcl.resolve_right hcu
              subst hm'; subst hsn; subst hla
              have hHF : ∀ i, getH (HF H it r last D []) i = if i = D then some (.map [] 0) else if i = it then some (.iter (some r) last (some unb)) else getH H i := fun i => by
                unfold HF; rw [getH_hs, getH_hs]; rfl
              have hst0 : Stp F H nx w F (HF H it r last D []) nx w := by
                refine (Stp.refl hr).wk fun i b2 hb2 => ?_
                rw [hHF] at hb2
                by_cases e1 : i = D
                · rw [if_pos e1] at hb2; cases hb2; exact .inl (by rw [e1]; exact hD)
                · rw [if_neg e1] at hb2
                  by_cases e2 : i = it
                  · rw [if_pos e2] at hb2; cases hb2
                    refine .inr ⟨.iter (some r) last none, by rw [e2]; exact hit, ⟨rfl, rfl⟩, fun F t w h => ?_⟩
                    obtain ⟨g0, m', si, sn, last', g1, g2, g3, g4⟩ := h
                    exact ⟨g0, m', si, sn, last', g1, g2, g3, .inl rfl⟩
                  · rw [if_neg e2] at hb2; exact .inl hb2
              refine wp_loop_rounds (its.length + 1) ?_
              obtain ⟨hit1, hit2⟩ := itemsU_inv hits
              exact loop_main (L := ⟨q, ti, l, cc, q2, l2, l3, kd, M, K1, V1, Tp, restH H ns, D, ns⟩) hm hn hcall hops hl hcc hops2 hl2 hops3 hl3 hgU hdU hoU hM hK hV hu hku hg0 hd0 ho0 hqn htn hg1 hd1 ho1 hqn2 hit2 (okK_inv hch.1) (by have := congrArg List.length hit1; simp at this; rw [this]; exact Nat.le_of_ble_eq_true b6) hw hit1 hDit hDr hit hr0 hrit hsub hti2 hend its.length [] its (subs_nil its) rfl F a w Q es' last #[] tt _
                (ht.ok hch.2.1).2 hst0.hr hFt hb0 hFr hw1 hw2 hml hst (fun x _ => by simp) fun F' a' w' ht' hst' hd' => hk F' a' w' ht' (hst0.trans hst') hd'
          · cases h
      · cases h
    · cases h
  · cases h

/-! Functions that hold such loops. -/
def dstsO : List Oper → List Nat
  | [] => []
  | o :: l => match o.dst with
    | some t => t :: dstsO l
    | none => dstsO l
def dstsC : Code → List Nat
  | .region _ ops _ => dstsO ops.toList
  | .seq a b => dstsC a ++ dstsC b
  | .cond _ a b => dstsC a ++ dstsC b
  | .block _ a => dstsC a
  | .loop a => dstsC a
  | _ => []
/-- The parts of a round. -/
noncomputable def tryLoop (P : Program) (d n : Nat) (call : OCall) (a : Code) (T : Ev) (H : Heap) (nx : Nat) : Option Out :=
  match a with
  | .seq (.region _ ops false) (.seq pre (.block _ (.seq (.region _ ops2 false) (.region _ ops3 false)))) => (match ops.toList, ops2.toList with
    | o0 :: tl, o1 :: tl2 => (match o0.guard, o0.dst, o0.op, o1.guard, o1.dst, o1.op, lastO ops3.toList with
      | none, some q, .next (.tmp ti) false, none, some q2, .entry (.tmp ti2), some (mid, oU) => (match oU.guard, oU.dst, oU.op with
        | none, none, .mapUpdate t m key v => cond (Nat.beq ti ti2 && Nat.blt q n && Nat.blt ti n && Nat.blt q2 n) (match compSs P n ops.toList tl, compC P n pre, compSs P n ops2.toList tl2, compSs P n ops3.toList mid, compX n m, compX n key, compX n v, P.underlying t with
          | some l, some cc, some l2, some l3, some M, some K1, some V1, some (.map kt _) => (match P.underlying kt with
            | some kd => mapLoop P d n call q ti l cc q2 l2 l3 kd M K1 V1 (dstsC (.seq (.region 0 ops false) (.seq pre (.seq (.region 0 ops2 false) (.region 0 ops3 false))))) T H nx
            | none => none)
          | _, _, _, _, _, _, _, _ => none) none
        | _, _, _ => none)
      | _, _, _, _, _, _, _ => none)
    | _, _ => none)
  | _ => none
theorem tryLoop_sound (hm : P.follows .mixedOrders = true) (hn : n ≤ 2 ^ d) {call : OCall} (hcall : CallOK P call) {a : Code} {T : Ev} {H : Heap} {nx : Nat} {o : Ox} {T' : Ev} {H' : Heap} {nx' : Nat}
    (h : tryLoop P d n call a T H nx = some ⟨o, T', H', nx'⟩) (hw : WF d T) : WF d T' ∧ CodeOK P d n (.loop a) T H nx o T' H' nx' := by
  unfold tryLoop at h
  split at h
  · rename_i id ops pre bid id2 ops2 id3 ops3
    split at h
    · rename_i o0 tl o1 tl2 hops hops2
      split at h
      · rename_i q ti q2 ti2 mid oU hg hd ho hg1 hd1 ho1 hla
        split at h
        · rename_i t m key v hgU hdU hoU
          cases hb : (Nat.beq ti ti2 && Nat.blt q n && Nat.blt ti n && Nat.blt q2 n) with
          | false => rw [hb] at h; cases h
          | true =>
            rw [hb] at h
            simp only [cond_true] at h
            simp only [Bool.and_eq_true, Nat.blt_eq] at hb
            obtain ⟨⟨⟨b1, b2⟩, b3⟩, b4⟩ := hb
            have b1 := Nat.eq_of_beq_eq_true b1
            subst b1
            split at h
            · rename_i l cc l2 l3 M K1 V1 kt et hl hcc hl2 hl3 hM hK hV hu
              split at h
              · rename_i kd hku
                exact mapLoop_sound hm hn hcall hops hl hcc hops2 hl2 (lastO_app hla) hl3 hgU hdU hoU hM hK hV hu hku hg hd ho b2 b3 hg1 hd1 ho1 b4 h hw
              · cases h
            · cases h
        · cases h
      · cases h
    · cases h
  · cases h
noncomputable def loopM (f : Ev → Heap → Nat → Option Out) (m : Nat) : Ev → Heap → Nat → Option Out :=
  @Nat.rec (fun _ => Ev → Heap → Nat → Option Out) (fun _ _ _ => none) (fun _ ih T H nx => match f T H nx with
    | some ⟨.n, T, H, nx⟩ => ih T H nx
    | r => r) m
noncomputable def leafM (P : Program) (d n : Nat) (call : OCall) (c : Code) (T : Ev) (H : Heap) (nx : Nat) : Option Out :=
  match compC P n c with
  | some c => runC c P d call T H nx
  | none => none
noncomputable def execM (P : Program) (d n : Nat) (call : OCall) : Code → Ev → Heap → Nat → Option Out
  | .seq a b => fun T H nx => match execM P d n call a T H nx with
    | some ⟨.n, T, H, nx⟩ => execM P d n call b T H nx
    | r => r
  | .block id a => fun T H nx => match execM P d n call a T H nx with
    | some ⟨.x id', T, H, nx⟩ => cond (Nat.beq id' id) (some ⟨.n, T, H, nx⟩) (some ⟨.x id', T, H, nx⟩)
    | r => r
  | .cond v a b => fun T H nx => match compX n v with
    | some x => (match ev T x with
      | .bool true => execM P d n call a T H nx
      | .bool false => execM P d n call b T H nx
      | _ => none)
    | none => none
  | .loop a => fun T H nx => match tryLoop P d n call a T H nx with
    | some r => some r
    | none => loopM (execM P d n call a) 10000 T H nx
  | c => leafM P d n call c
theorem execM_sound (hm : P.follows .mixedOrders = true) (hn : n ≤ 2 ^ d) {call : OCall} (hcall : CallOK P call) : ∀ (c : Code) {T : Ev} {H : Heap} {nx : Nat} {o : Ox} {T' : Ev} {H' : Heap} {nx' : Nat}, execM P d n call c T H nx = some ⟨o, T', H', nx'⟩ → WF d T → WF d T' ∧ CodeOK P d n c T H nx o T' H' nx' := by
  have leaf : ∀ (c : Code) {T : Ev} {H : Heap} {nx : Nat} {o : Ox} {T' : Ev} {H' : Heap} {nx' : Nat}, leafM P d n call c T H nx = some ⟨o, T', H', nx'⟩ → WF d T → WF d T' ∧ CodeOK P d n c T H nx o T' H' nx' := by
    intro c T H nx o T' H' nx' h hw
    unfold leafM at h
    split at h
    · rename_i c' hc; exact runC_sound hm hn hcall hc h hw
    · cases h
  intro c
  induction c with
  | seq a b iha ihb =>
    intro T H nx o T' H' nx' h hw
    rw [execM] at h
    dsimp only at h
    split at h
    · rename_i T1 H1 nx1 h1
      obtain ⟨w1, k1⟩ := iha h1 hw
      obtain ⟨w2, k2⟩ := ihb h w1
      exact ⟨w2, fun F ac w Q ht hr hk => wp_seq (k1 F ac w _ ht hr fun F' a' w' ht' hst hdf => k2 F' a' w' Q ht' hst.hr fun F2 a2 w2 ht2 hst2 hdf2 => hk F2 a2 w2 ht2 (hst.trans hst2) (hdf2.trans hdf))⟩
    · rename_i hne
      obtain ⟨w1, k1⟩ := iha h hw
      refine ⟨w1, fun F ac w Q ht hr hk => wp_seq (k1 F ac w _ ht hr fun F' a' w' ht' hst hdf => ?_)⟩
      have := hk F' a' w' ht' hst hdf
      cases o with
      | n => exact absurd h (hne _ _ _)
      | x id => exact this
      | r => exact this
  | block id a iha =>
    intro T H nx o T' H' nx' h hw
    rw [execM] at h
    dsimp only at h
    split at h
    · rename_i id' T1 H1 nx1 h1
      obtain ⟨w1, k1⟩ := iha h1 hw
      cases hb : Nat.beq id' id with
      | true =>
        rw [hb] at h; cases h
        have := Nat.eq_of_beq_eq_true hb
        subst this
        exact ⟨w1, fun F ac w Q ht hr hk => wp_block (k1 F ac w _ ht hr fun F' a' w' ht' hst hdf => by simp only [Ox.exit, Exit.inBlock, if_true]; exact hk F' a' w' ht' hst hdf)⟩
      | false =>
        rw [hb] at h; cases h
        have hne : ¬ id' = id := fun e => by subst e; rw [Nat.beq_refl] at hb; cases hb
        exact ⟨w1, fun F ac w Q ht hr hk => wp_block (k1 F ac w _ ht hr fun F' a' w' ht' hst hdf => by simp only [Ox.exit, Exit.inBlock, if_neg hne]; exact hk F' a' w' ht' hst hdf)⟩
    · rename_i hne
      obtain ⟨w1, k1⟩ := iha h hw
      refine ⟨w1, fun F ac w Q ht hr hk => wp_block (k1 F ac w _ ht hr fun F' a' w' ht' hst hdf => ?_)⟩
      have := hk F' a' w' ht' hst hdf
      cases o with
      | n => exact this
      | x id => exact absurd h (hne _ _ _ _)
      | r => exact this
  | cond v a b iha ihb =>
    intro T H nx o T' H' nx' h hw
    rw [execM] at h
    dsimp only at h
    split at h
    · rename_i x hx
      split at h
      · rename_i hv
        obtain ⟨w1, k1⟩ := iha h hw
        refine ⟨w1, fun F ac w Q ht hr hk => wp_cond_true ?_ (k1 F ac w Q ht hr hk)⟩
        have := ht.evX hx; rw [hv] at this; exact this.bool_inv
      · rename_i hv
        obtain ⟨w1, k1⟩ := ihb h hw
        refine ⟨w1, fun F ac w Q ht hr hk => wp_cond_false ?_ (k1 F ac w Q ht hr hk)⟩
        have := ht.evX hx; rw [hv] at this; exact this.bool_inv
      · cases h
    · cases h
  | loop a iha =>
    intro T H nx o T' H' nx' h hw
    rw [execM] at h
    dsimp only at h
    split at h
    · rename_i r hr
      cases h
      exact tryLoop_sound hm hn hcall hr hw
    · have rounds : ∀ (m : Nat) (T : Ev) (H : Heap) (nx : Nat), loopM (execM P d n call a) m T H nx = some ⟨o, T', H', nx'⟩ → WF d T → WF d T' ∧
          ∀ (F : FM) (ac : Act) (w : World) (Q : Exit → Act → World → Prop), TR d F T n ac.tmps → HR F H nx w →
            (∀ F' a' w', TR d F' T' n a'.tmps → Stp F H nx w F' H' nx' w' → a'.defers = ac.defers → Q o.exit a' w') → Code.rounds P a Q m ac w := by
        intro m
        induction m with
        | zero => intro T H nx h; cases h
        | succ m ihm =>
          intro T H nx h hw
          have e : loopM (execM P d n call a) (m + 1) T H nx = match execM P d n call a T H nx with
            | some ⟨.n, T, H, nx⟩ => loopM (execM P d n call a) m T H nx
            | r => r := rfl
          rw [e] at h
          split at h
          · rename_i T1 H1 nx1 h1
            obtain ⟨w1, k1⟩ := iha h1 hw
            obtain ⟨w2, k2⟩ := ihm T1 H1 nx1 h w1
            refine ⟨w2, fun F ac w Q ht hr hk => ?_⟩
            rw [rounds_succ]
            exact k1 F ac w _ ht hr fun F' a' w' ht' hst hdf => k2 F' a' w' Q ht' hst.hr fun F2 a2 w2 ht2 hst2 hdf2 => hk F2 a2 w2 ht2 (hst.trans hst2) (hdf2.trans hdf)
          · rename_i hne
            obtain ⟨w1, k1⟩ := iha h hw
            refine ⟨w1, fun F ac w Q ht hr hk => ?_⟩
            rw [rounds_succ]
            refine k1 F ac w _ ht hr fun F' a' w' ht' hst hdf => ?_
            have := hk F' a' w' ht' hst hdf
            cases o with
            | n => exact absurd h (hne _ _ _)
            | x id => exact this
            | r => exact this
      obtain ⟨w1, k1⟩ := rounds 10000 T H nx h hw
      exact ⟨w1, fun F ac w Q ht hr hk => wp_loop_rounds 10000 (k1 F ac w Q ht hr hk)⟩
  | _ => intro T H nx o T' H' nx' h hw; rw [execM] at h <;> first | exact leaf _ h hw | contradiction | (intros; contradiction)

/-- A call of such a function. -/
noncomputable def runM (P : Program) (call : OCall) (f : FuncId) (args : List Value) (H : Heap) (nx : Nat) : Option (Value × Heap × Nat) :=
  match nth P.funcs.toList f with
  | some fn => (match fn.body, compR P fn.ntmps fn.results.toList with
    | some c, some res => cond (Nat.ble (Nat.log2 fn.ntmps + 1) 8 && Nat.ble args.length fn.ntmps)
      (match initT (Nat.log2 fn.ntmps + 1) args 0 .leaf fun T => execM P (Nat.log2 fn.ntmps + 1) fn.ntmps call c T H nx with
        | some ⟨.n, T, H, nx⟩ => resK P T H none (fun vs => forceV (tup vs) fun v => some (v, H, nx)) res
        | some ⟨.r, T, H, nx⟩ => resK P T H none (fun vs => forceV (tup vs) fun v => some (v, H, nx)) res
        | _ => none) none
    | _, _ => none)
  | none => none
theorem runM_sound (hm : P.follows .mixedOrders = true) (hNG : NamesOK P) {call : OCall} (hcall : CallOK P call) {f : FuncId} {args : List Value} {H : Heap} {nx : Nat} {v : Value} {H' : Heap} {nx' : Nat}
    (h : runM P call f args H nx = some (v, H', nx')) : CS P f args H nx v H' nx' := by
  unfold runM at h
  rw [nth_eq] at h
  split at h
  · rename_i fn hf
    have hf' : P.funcs[f]? = some fn := by simpa using hf
    split at h
    · rename_i c res hb hres
      cases hcd : (Nat.ble (Nat.log2 fn.ntmps + 1) 8 && Nat.ble args.length fn.ntmps) with
      | false => rw [hcd] at h; cases h
      | true =>
        rw [hcd] at h
        simp only [cond_true] at h
        rw [Bool.and_eq_true] at hcd
        have h8 := Nat.le_of_ble_eq_true hcd.1
        have hl := Nat.le_of_ble_eq_true hcd.2
        have hd : fn.ntmps ≤ 2 ^ (Nat.log2 fn.ntmps + 1) := Nat.le_of_lt Nat.lt_log2_self
        rw [initT_eq] at h
        have wl : WF (Nat.log2 fn.ntmps + 1) (.leaf : Ev) := h8
        have hw := fillT_wf (Nat.log2 fn.ntmps + 1) args 0 .leaf wl
        have fin : ∀ (o : Ox) (T' : Ev) (H1 : Heap) (nx1 : Nat), (o = .n ∨ o = .r) → execM P (Nat.log2 fn.ntmps + 1) fn.ntmps call c (fillT (Nat.log2 fn.ntmps + 1) args 0 .leaf) H nx = some ⟨o, T', H1, nx1⟩ →
            resK P T' H1 none (fun vs => forceV (tup vs) fun v => some (v, H1, nx1)) res = some (v, H', nx') → CS P f args H nx v H' nx' := by
          intro o T' H1 nx1 ho he h
          obtain ⟨_, hok⟩ := execM_sound hm hd hcall c he hw
          rcases resK_sound (d := Nat.log2 fn.ntmps + 1) (T := T') (H := H1) (nx := nx1) none _ res hres (fun vs => forceV (tup vs) fun v => some (v, H1, nx1)) with h2 | ⟨vs, h2, hok2⟩
          · rw [h2] at h; cases h
          · rw [h2, forceV_eq] at h; cases h
            refine ⟨⟨fn, c, hf', hb, hNG f fn hf'⟩, fun F args' w hr hv => ?_⟩
            refine calls_of_wp hf' hb (hok F _ w _ (TR_start hv hd h8 hl) hr fun F' a' w' ht' hst hdf => ?_)
            obtain ⟨vs', h3, h4⟩ := hok2 F' a'.tmps w' ht' hst.hr.hb
            have hpost : a'.defers = [] ∧ ∃ v, (results fn a'.tmps).run P w' = .ok v w' ∧ (∃ v' F', Ending.returned v = .returned v' ∧ VR F' (tup vs) v' ∧ Stp F H nx w F' H' nx' w') :=
              ⟨hdf, tup vs', results_run h3, tup vs', F', rfl, tup_vr h4, hst⟩
            rcases ho with rfl | rfl <;> exact hpost
        split at h
        · rename_i T1 H1 nx1 he; exact fin .n T1 H1 nx1 (.inl rfl) he h
        · rename_i T1 H1 nx1 he; exact fin .r T1 H1 nx1 (.inr rfl) he h
        · cases h
    · cases h
  · cases h
end
end Go.Clo
