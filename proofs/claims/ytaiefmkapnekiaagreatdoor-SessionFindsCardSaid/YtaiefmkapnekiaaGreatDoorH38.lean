/-
  The laws' runs: begin, awake, and what of them is the same everywhere; remainders of bytes given.
-/
import Derived.Test.YtaiefmkapnekiaaGreatDoorH9
import Derived.Test.YtaiefmkapnekiaaGreatDoorH11
import Derived.Test.YtaiefmkapnekiaaGreatDoorH35
import Derived.Test.YtaiefmkapnekiaaGreatDoorH37
set_option linter.all false
namespace Go.Proofs.YtaiefmkapnekiaaGreatDoor
open Go.Clo
def awakeO : O := fun args H nx => match args with
  | [] => some (.bool true, H, nx)
  | _ => none
noncomputable def beginO : O := litO [] [] 0 r4V r4L r4N
noncomputable def orc3 : Orc := fun f => cond (Nat.beq f 5) (some beginO) (cond (Nat.beq f 14) (some awakeO) (orc1 f))
theorem beginO_ok {args : List Value} {H : Heap} {nx : Nat} {v : Value} {H' : Heap} {nx' : Nat} (h : beginO args H nx = some (v, H', nx')) : CS Tryz.prog 5 args H nx v H' nx' :=
  litO_ok begin_cs rfl h
set_option maxRecDepth 100000 in
theorem orc3_ok : OrcOK Tryz.prog orc3 := by
  intro f o h args H nx v H' nx' ho
  unfold orc3 at h
  cases h1 : Nat.beq f 5 with
  | true => rw [h1] at h; cases h; rw [Nat.eq_of_beq_eq_true h1]; exact beginO_ok ho
  | false =>
    rw [h1] at h
    simp only [cond_false] at h
    cases h2 : Nat.beq f 14 with
    | true =>
      rw [h2] at h; cases h; rw [Nat.eq_of_beq_eq_true h2]
      unfold awakeO at ho
      split at ho
      · cases ho; exact awake_cs H nx
      · cases ho
    | false => rw [h2] at h; exact orc1_ok f o h args H nx v H' nx' ho
/-- planner.Make and planner.Run as given. -/
noncomputable def orcW (mk rn : O) : Orc := fun f => cond (Nat.beq f 83) (some mk) (cond (Nat.beq f 85) (some rn) (orc3 f))
def OK1 (f : FuncId) (o : O) : Prop := ∀ {args : List Value} {H : Heap} {nx : Nat} {v : Value} {H' : Heap} {nx' : Nat}, o args H nx = some (v, H', nx') → CS Tryz.prog f args H nx v H' nx'
set_option maxRecDepth 100000 in
theorem orcW_ok {mk rn : O} (hm : OK1 83 mk) (hr : OK1 85 rn) : OrcOK Tryz.prog (orcW mk rn) := by
  intro f o h args H nx v H' nx' ho
  unfold orcW at h
  cases h1 : Nat.beq f 83 with
  | true => rw [h1] at h; cases h; rw [Nat.eq_of_beq_eq_true h1]; exact hm ho
  | false =>
    rw [h1] at h
    simp only [cond_false] at h
    cases h2 : Nat.beq f 85 with
    | true => rw [h2] at h; cases h; rw [Nat.eq_of_beq_eq_true h2]; exact hr ho
    | false => rw [h2] at h; exact orc3_ok f o h args H nx v H' nx' ho
/-- The one, or the other. -/
def orO (a b : O) : O := fun args H nx => match a args H nx with
  | some r => some r
  | none => b args H nx
theorem orO_ok {f : FuncId} {a b : O} (ha : OK1 f a) (hb : OK1 f b) : OK1 f (orO a b) := by
  intro args H nx v H' nx' h
  unfold orO at h
  split at h
  · rename_i r hr; cases h; exact ha hr
  · exact hb h
noncomputable def callW (mk rn : O) : PCall := callD (β := Prop) Tryz.prog (orcW mk rn) dok 200
theorem callW_okn {mk rn : O} (hm : OK1 83 mk) (hr : OK1 85 rn) (n : Nat) : CallOK Tryz.prog (callD (β := Prop) Tryz.prog (orcW mk rn) dok n) := callD_sound mixed namesOK (orcW_ok hm hr) dok_ok n
set_option maxRecDepth 100000 in
theorem callW_ok {mk rn : O} (hm : OK1 83 mk) (hr : OK1 85 rn) : CallOK Tryz.prog (callW mk rn) := by unfold callW; exact callW_okn hm hr 200
/-- One case for each remainder below the last number. -/
def splitN (q m : Nat) (g : Nat → Prop) : Nat → Prop
  | 0 => True
  | i + 1 => splitN q m g i ∧ (m % q = i → g i)
theorem splitN_ok {q m : Nat} {g : Nat → Prop} : ∀ {n : Nat}, splitN q m g n → m % q < n → g (m % q)
  | 0, _, h => by omega
  | n + 1, h, hlt => by
    by_cases e : m % q = n
    · rw [e]; exact h.2 e
    · exact splitN_ok h.1 (by omega)
/-- What is asked at the end: the same under another name (the kernel shall not compare the two for every number at once). -/
def splitT (q m : Nat) (g : Nat → Prop) : Nat → Prop
  | 0 => True
  | i + 1 => splitT q m g i ∧ (m % q = i → g i)
theorem splitT_all {q m : Nat} {g : Nat → Prop} : ∀ n, (∀ i, i < n → g i) → splitT q m g n
  | 0, _ => trivial
  | n + 1, h => ⟨splitT_all n fun i hi => h i (by omega), fun _ => h n (by omega)⟩
theorem wrap_i64 {m : Nat} (h : m < 256) : IntKind.i64.wrap (Int.ofNat m) = Int.ofNat m := by
  show IntKind.i64.wrap (m : Int) = (m : Int)
  simp only [IntKind.wrap, IntKind.signed, IntKind.bits]; simp; omega
theorem wrap_u64 {m : Nat} (h : m < 256) : IntKind.u64.wrap (Int.ofNat m) = Int.ofNat m := by
  show IntKind.u64.wrap (m : Int) = (m : Int)
  simp only [IntKind.wrap, IntKind.signed, IntKind.bits]; simp; omega
def yes (v : Value) : Prop := match v with
  | .bool true => True
  | _ => False
theorem yes_inv {v : Value} (h : yes v) : v = .bool true := by
  unfold yes at h
  split at h
  · rfl
  · exact h.elim
/-- From the run's end to the call in the world. -/
theorem calls_of_run {f : FuncId} {args : List Value} (hfl : VL (fun _ => none) args args) {v : Value} {H' : Heap} {nx' : Nat} (hv : yes v) (hcs : CS Tryz.prog f args .leaf 0 v H' nx') (w : World) (hg : GlW w) :
    Calls Tryz.prog f args.toArray w fun e w' => e = .returned (.bool true) ∧ RowKit.Below w.heap.size w w' := by
  obtain rfl := yes_inv hv
  have h0 : HR (fun _ => none) .leaf 0 w :=
    ⟨fun i b hi => by omega, fun i j bi bj ti tj hi => by omega, fun _ _ => rfl, fun i _ => getH_leaf i, ⟨hg, fun x hx ⟨i, _, _, hi, _⟩ => by omega⟩⟩
  refine (hcs.2 (fun _ => none) args w h0 hfl).mono fun e w' ⟨v', F', he, hvr, hst⟩ => ?_
  exact ⟨by rw [he, flat_eq hvr rfl], hst.os, hst.tape, hst.output, hst.size, fun b hb => hst.frame b hb fun ⟨i, _, _, hi, _⟩ => by omega⟩
end Go.Proofs.YtaiefmkapnekiaaGreatDoor
