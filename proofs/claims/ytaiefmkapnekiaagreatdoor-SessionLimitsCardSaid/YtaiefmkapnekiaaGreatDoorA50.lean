/-
  SessionLimits, for every two bytes.
-/
import Derived.Test.YtaiefmkapnekiaaGreatDoorA42
import Derived.Test.YtaiefmkapnekiaaGreatDoorA43
import Derived.Test.YtaiefmkapnekiaaGreatDoorA44
import Derived.Test.YtaiefmkapnekiaaGreatDoorA45
import Derived.Test.YtaiefmkapnekiaaGreatDoorA46
import Derived.Test.YtaiefmkapnekiaaGreatDoorA47
import Derived.Test.YtaiefmkapnekiaaGreatDoorA48
import Derived.Test.YtaiefmkapnekiaaGreatDoorA49
set_option linter.all false
namespace Go.Proofs.YtaiefmkapnekiaaGreatDoor
open Go.Clo
/-- A statement that nobody shall compute. -/
structure Holds (p : Prop) : Prop where h : p
theorem holds_of {p q : Prop} (e : p = q) (hq : q) : Holds p := ⟨by rw [e]; exact hq⟩
/-- The law's run, with some calls. -/
def LawRun (m c : Nat) : Prop := ∃ n o call, CallOK Tryz.prog call ∧ Holds (exF Tryz.prog call (givL n o) 3 [.int .u8 (.ofNat m), .int .u8 (.ofNat c)] .leaf 0 yes)
set_option maxRecDepth 100000 in
theorem run_of (n o m c : Nat) (h : Holds (lawL n o m c)) : LawRun m c := by
  unfold lawL at h
  exact ⟨n, o, callL, callL_ok, h⟩
set_option maxRecDepth 100000 in
theorem run_ends {m c : Nat} (h : LawRun m c) : ∃ v H' nx', yes v ∧ CS Tryz.prog 3 [.int .u8 (.ofNat m), .int .u8 (.ofNat c)] .leaf 0 v H' nx' := by
  obtain ⟨n, o, call, hcall, ⟨h⟩⟩ := h
  exact exF_sound mixed namesOK hcall (givL_ok n o) h
set_option maxRecDepth 100000 in
theorem law_all (m c : Nat) : LawRun m c := by
  have : m % 8 = 0 ∨ m % 8 = 1 ∨ m % 8 = 2 ∨ m % 8 = 3 ∨ m % 8 = 4 ∨ m % 8 = 5 ∨ m % 8 = 6 ∨ m % 8 = 7 := by omega
  have hc : c % 16 < 8 ∨ 8 ≤ c % 16 := by omega
  have h16 : c % 16 < 16 := by omega
  rcases hc with hc | hc
  · rcases this with e | e | e | e | e | e | e | e
    · exact run_of 0 0 m c (holds_of (law0a m c) (lawQ_ok e (by omega) (by omega) (by omega)))
    · exact run_of 1 0 m c (holds_of (law1a m c) (lawQ_ok e (by omega) (by omega) (by omega)))
    · exact run_of 2 0 m c (holds_of (law2a m c) (lawQ_ok e (by omega) (by omega) (by omega)))
    · exact run_of 3 0 m c (holds_of (law3a m c) (lawQ_ok e (by omega) (by omega) (by omega)))
    · exact run_of 4 0 m c (holds_of (law4a m c) (lawQ_ok e (by omega) (by omega) (by omega)))
    · exact run_of 5 0 m c (holds_of (law5a m c) (lawQ_ok e (by omega) (by omega) (by omega)))
    · exact run_of 6 0 m c (holds_of (law6a m c) (lawQ_ok e (by omega) (by omega) (by omega)))
    · exact run_of 7 0 m c (holds_of (law7a m c) (lawQ_ok e (by omega) (by omega) (by omega)))
  · rcases this with e | e | e | e | e | e | e | e
    · exact run_of 0 8 m c (holds_of (law0b m c) (lawQ_ok e (by omega) (by omega) (by omega)))
    · exact run_of 1 8 m c (holds_of (law1b m c) (lawQ_ok e (by omega) (by omega) (by omega)))
    · exact run_of 2 8 m c (holds_of (law2b m c) (lawQ_ok e (by omega) (by omega) (by omega)))
    · exact run_of 3 8 m c (holds_of (law3b m c) (lawQ_ok e (by omega) (by omega) (by omega)))
    · exact run_of 4 8 m c (holds_of (law4b m c) (lawQ_ok e (by omega) (by omega) (by omega)))
    · exact run_of 5 8 m c (holds_of (law5b m c) (lawQ_ok e (by omega) (by omega) (by omega)))
    · exact run_of 6 8 m c (holds_of (law6b m c) (lawQ_ok e (by omega) (by omega) (by omega)))
    · exact run_of 7 8 m c (holds_of (law7b m c) (lawQ_ok e (by omega) (by omega) (by omega)))
set_option maxRecDepth 100000 in
theorem law_calls (m c : Nat) (hm : m < 256) (hc : c < 256) (w : World) (hg : GlW w) :
    Calls Tryz.prog 3 #[.int .u8 (.ofNat m), .int .u8 (.ofNat c)] w fun e w' => e = .returned (.bool true) ∧ RowKit.Below w.heap.size w w' := by
  obtain ⟨v, H', nx', hv, hcs⟩ := run_ends (law_all m c)
  exact calls_of_run (flatL_refl _ _ rfl) hv hcs w hg
end Go.Proofs.YtaiefmkapnekiaaGreatDoor
