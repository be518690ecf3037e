/-
  The law, for every two bytes.
-/
import Derived.Test.YtiigcedfkkaaiaaGreatDoorQ39
import Derived.Test.YtiigcedfkkaaiaaGreatDoorQ43
import Derived.Test.YtiigcedfkkaaiaaGreatDoorQ44
import Derived.Test.YtiigcedfkkaaiaaGreatDoorQ45
import Derived.Test.YtiigcedfkkaaiaaGreatDoorQ46
import Derived.Test.YtiigcedfkkaaiaaGreatDoorQ47
set_option linter.all false
namespace Go.Proofs.YtiigcedfkkaaiaaGreatDoor
open Go.Clo
theorem lawQ_ok {n m c : Nat} (hm : m < 256) (hc : c < 256) (h : m % 6 = n) : lawQ n m c :=
  ⟨hm, h, hc, fun _ => trivial, fun _ => trivial, fun _ => trivial, fun _ => trivial, fun _ => trivial, fun _ => trivial⟩
/-- The law's run, with some calls. -/
def LawRun (m c : Nat) : Prop := ∃ n call, CallOK Tryz.prog call ∧ exF Tryz.prog call (fsN n) 3 [.int .u8 (.ofNat m), .int .u8 (.ofNat c)] .leaf 0 yes
set_option maxRecDepth 100000 in
theorem run_of (n m c : Nat) (h : lawP n m c) : LawRun m c := by
  unfold lawP at h
  exact ⟨n, call3, call3_ok, h⟩
set_option maxRecDepth 100000 in
theorem run_ofV (n m c : Nat) (h : lawV n m c) : LawRun m c := by
  unfold lawV at h
  exact ⟨n, call4, call4_ok, h⟩
set_option maxRecDepth 100000 in
theorem law_all (m c : Nat) (hm : m < 256) (hc : c < 256) : LawRun m c := by
  have : m % 6 = 0 ∨ m % 6 = 1 ∨ m % 6 = 2 ∨ m % 6 = 3 ∨ m % 6 = 4 ∨ m % 6 = 5 := by omega
  rcases this with e | e | e | e | e | e
  · exact run_of 0 m c ((law0 m c).mpr (lawQ_ok hm hc e))
  · exact run_ofV 1 m c ((law1 m c).mpr (lawQ_ok hm hc e))
  · exact run_ofV 2 m c ((law2 m c).mpr (lawQ_ok hm hc e))
  · exact run_ofV 3 m c ((law3 m c).mpr (lawQ_ok hm hc e))
  · exact run_ofV 4 m c ((law4 m c).mpr (lawQ_ok hm hc e))
  · exact run_ofV 5 m c ((law5 m c).mpr (lawQ_ok hm hc e))
theorem yes_inv {v : Value} (h : yes v) : v = .bool true := by
  unfold yes at h
  split at h
  · rfl
  · exact h.elim
set_option maxRecDepth 100000 in
theorem run_ends {m c : Nat} (h : LawRun m c) : ∃ v H' nx', yes v ∧ CS Tryz.prog 3 [.int .u8 (.ofNat m), .int .u8 (.ofNat c)] .leaf 0 v H' nx' := by
  obtain ⟨n, call, hcall, h⟩ := h
  exact exF_sound mixed namesOK hcall (fsN_ok n) h
set_option maxRecDepth 100000 in
theorem law_calls (m c : Nat) (hm : m < 256) (hc : c < 256) (w : World) (hg : GlW w) :
    Calls Tryz.prog 3 #[.int .u8 (.ofNat m), .int .u8 (.ofNat c)] w fun e w' => e = .returned (.bool true) ∧ RowKit.Below w.heap.size w w' := by
  obtain ⟨v, H', nx', hv, hcs⟩ := run_ends (law_all m c hm hc)
  obtain rfl := yes_inv hv
  have h0 : HR (fun _ => none) .leaf 0 w :=
    ⟨fun i b hi => by omega, fun i j bi bj ti tj hi => by omega, fun _ _ => rfl, fun i _ => getH_leaf i, ⟨hg, fun x hx ⟨i, _, _, hi, _⟩ => by omega⟩⟩
  refine (hcs.2 (fun _ => none) [.int .u8 (.ofNat m), .int .u8 (.ofNat c)] w h0 (flatL_refl _ _ rfl)).mono fun e w' ⟨v', F', he, hvr, hst⟩ => ?_
  refine ⟨by rw [he, flat_eq hvr rfl], hst.os, hst.tape, hst.output, hst.size, fun b hb => hst.frame b hb fun ⟨i, _, _, hi, _⟩ => by omega⟩
end Go.Proofs.YtiigcedfkkaaiaaGreatDoor
