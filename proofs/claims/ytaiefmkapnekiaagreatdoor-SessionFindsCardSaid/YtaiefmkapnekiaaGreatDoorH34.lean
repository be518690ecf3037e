/-
  The oracles of the sessions' runs: changed and moved besides, for maps of any length.
-/
import Derived.Test.YtaiefmkapnekiaaGreatDoorH33
set_option linter.all false
namespace Go.Proofs.YtaiefmkapnekiaaGreatDoor
open Go.Clo
theorem call_ok (n : Nat) : CallOK Tryz.prog (callD (β := Option Out) Tryz.prog orc0 dok n) := callD_sound mixed namesOK orc0_ok dok_ok n
set_option maxRecDepth 100000 in
theorem call0_ok : CallOK Tryz.prog call0 := by unfold call0; exact call_ok 200
set_option maxRecDepth 100000 in
theorem run_ok {call : OCall} (hc : CallOK Tryz.prog call) {f : FuncId} {o : O} (e : o = runM Tryz.prog call f) {args : List Value} {H : Heap} {nx : Nat} {v : Value} {H' : Heap} {nx' : Nat} (h : o args H nx = some (v, H', nx')) : CS Tryz.prog f args H nx v H' nx' := by
  rw [e] at h; exact runM_sound mixed namesOK hc h
set_option maxRecDepth 100000 in
theorem orcC_ok : OrcOK Tryz.prog orcC := by
  intro f o h args H nx v H' nx' ho
  unfold orcC at h
  cases h1 : Nat.beq f 28 with
  | true =>
    rw [h1] at h; cases h; rw [Nat.eq_of_beq_eq_true h1]
    exact run_ok call0_ok (by unfold changedO; rfl) ho
  | false => rw [h1] at h; exact orc0_ok f o h args H nx v H' nx' ho
theorem callC_okn (n : Nat) : CallOK Tryz.prog (callD (β := Option Out) Tryz.prog orcC dok n) := callD_sound mixed namesOK orcC_ok dok_ok n
set_option maxRecDepth 100000 in
theorem callC_ok : CallOK Tryz.prog callC := by unfold callC; exact callC_okn 200
set_option maxRecDepth 100000 in
theorem orc1_ok : OrcOK Tryz.prog orc1 := by
  intro f o h args H nx v H' nx' ho
  unfold orc1 at h
  cases h1 : Nat.beq f 31 with
  | true =>
    rw [h1] at h; cases h; rw [Nat.eq_of_beq_eq_true h1]
    exact run_ok callC_ok (by unfold movedO; rfl) ho
  | false => rw [h1] at h; exact orcC_ok f o h args H nx v H' nx' ho
end Go.Proofs.YtaiefmkapnekiaaGreatDoor
