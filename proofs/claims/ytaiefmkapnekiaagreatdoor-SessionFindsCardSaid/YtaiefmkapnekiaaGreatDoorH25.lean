/-
  The closed facts of the row that ask what types lead to: the book of a type that leads no further is short.
-/
import Derived.Test.YtaiefmkapnekiaaGreatDoorRows
import Derived.ProofKit
import Derived.KernelRfl
set_option linter.all false
namespace Go.Proofs.YtaiefmkapnekiaaGreatDoor.facts
open Go
section
variable {P : Program} {t u : TypeId}
theorem grown_same {l : List TypeId} (h : P.grow l = l) : ∀ n, P.grown n l = l
  | 0 => rfl
  | n + 1 => by rw [Program.grown, h, grown_same h n]
theorem book_leaf (h : P.grow [t] = [t]) : P.book t = [t] := grown_same h _
theorem book_two (h1 : P.grow [t] = [t, u]) (h2 : P.grow [t, u] = [t, u]) (hs : (P.types.size == 0) = false) : P.book t = [t, u] := by
  unfold Program.book
  cases hn : P.types.size with
  | zero => rw [hn] at hs; cases hs
  | succ n => rw [Program.grown, h1, grown_same h2]
theorem own_of (h : P.veiledRec t = false) : P.veiledOwn t = true := by
  unfold Program.veiledOwn; rw [h]; rfl
end
theorem some_types : (Tryz.prog.types.size == 0) = false := by kernel_rfl
theorem b5 : Tryz.prog.book 5 = [5] := book_leaf (by kernel_rfl)
theorem b0 : Tryz.prog.book 4 = [4] := book_leaf (by kernel_rfl)
theorem a1 : Tryz.prog.book 655 = [655, 5] := book_two (by kernel_rfl) (by kernel_rfl) some_types
theorem a2 : Tryz.prog.book 784 = [784, 5] := book_two (by kernel_rfl) (by kernel_rfl) some_types
theorem a3 : Tryz.prog.book 780 = [780, 28] := book_two (by kernel_rfl) (by kernel_rfl) some_types
theorem a4 : Tryz.prog.book 630 = [630, 146] := book_two (by kernel_rfl) (by kernel_rfl) some_types
theorem b8 : Tryz.prog.book 70 = [70] := book_leaf (by kernel_rfl)
theorem a8 : Tryz.prog.book 71 = [71, 70] := book_two (by kernel_rfl) (by kernel_rfl) some_types
theorem r5 : Tryz.prog.readableRec 5 = true := by unfold Program.readableRec; rw [b5]; kernel_rfl
theorem r0 : Tryz.prog.readableRec 4 = true := by unfold Program.readableRec; rw [b0]; kernel_rfl
theorem m5 : Tryz.prog.mapsRec 5 = false := by unfold Program.mapsRec; rw [b5]; kernel_rfl
theorem i5 : Tryz.prog.ifacesRec 5 = false := by unfold Program.ifacesRec; rw [b5]; kernel_rfl
theorem i0 : Tryz.prog.ifacesRec 4 = false := by unfold Program.ifacesRec; rw [b0]; kernel_rfl
theorem l5 : Tryz.prog.loopsFrom 5 = false := by unfold Program.loopsFrom; rw [b5]; kernel_rfl
theorem l0 : Tryz.prog.loopsFrom 4 = false := by unfold Program.loopsFrom; rw [b0]; kernel_rfl
theorem w5 : Tryz.prog.wideKeysFrom 5 = false := by unfold Program.wideKeysFrom; rw [b5]; kernel_rfl
theorem w0 : Tryz.prog.wideKeysFrom 4 = false := by unfold Program.wideKeysFrom; rw [b0]; kernel_rfl
theorem v5 : Tryz.prog.veiledRec 5 = false := by unfold Program.veiledRec; rw [b5]; kernel_rfl
theorem v0 : Tryz.prog.veiledRec 4 = false := by unfold Program.veiledRec; rw [b0]; kernel_rfl
theorem c1 : Tryz.prog.veiledRec 655 = false := by unfold Program.veiledRec; rw [a1]; kernel_rfl
theorem c2 : Tryz.prog.veiledRec 784 = false := by unfold Program.veiledRec; rw [a2]; kernel_rfl
theorem c3 : Tryz.prog.veiledRec 780 = false := by unfold Program.veiledRec; rw [a3]; kernel_rfl
theorem c4 : Tryz.prog.veiledRec 630 = false := by unfold Program.veiledRec; rw [a4]; kernel_rfl
theorem r8 : Tryz.prog.readableRec 71 = true := by unfold Program.readableRec; rw [a8]; kernel_rfl
theorem m8 : Tryz.prog.mapsRec 71 = false := by unfold Program.mapsRec; rw [a8]; kernel_rfl
theorem i8 : Tryz.prog.ifacesRec 71 = false := by unfold Program.ifacesRec; rw [a8]; kernel_rfl
theorem p81 : Tryz.prog.partsOf 71 = [70] := by kernel_rfl
theorem p82 : Tryz.prog.partsOf 70 = [] := by kernel_rfl
theorem l8 : Tryz.prog.loopsFrom 71 = false := by
  unfold Program.loopsFrom
  rw [a8]
  simp only [List.any_cons, List.any_nil, p81, p82, b8]
  kernel_rfl
theorem w8 : Tryz.prog.wideKeysFrom 71 = false := by unfold Program.wideKeysFrom; rw [a8]; kernel_rfl
theorem v8 : Tryz.prog.veiledRec 71 = false := by unfold Program.veiledRec; rw [a8]; kernel_rfl
end Go.Proofs.YtaiefmkapnekiaaGreatDoor.facts
