/-
  DERIVED. GIVEN WITH THE SEED: THE CARDS: each row of YtpiobdofbhkmjaaDoorRows.lean that lists a variable, with what it lists TIED to the program's text (the seventh form; the later family's looks); each row that meets fmt, with fmt's text TOLD by the authors' own Lean function (tested against real Go, not proved from fmt's source: count such statements apart). THE CARD IS WHAT COUNTS. Prove the row's statement (the work); the ties are given (YtpiobdofbhkmjaaDoorTie.lean); close each card by the builder's one call (the guide's Derived/Test/ToyasCard.lean, 'card_holds'). Laid BY PROGRAM, IN A SANDBOX (cutbox-door.mjs). By AI agents, Wed Nov 11 2026. No macro, syntax, notation, axiom, sorry.
-/
import Derived.Test.YtpiobdofbhkmjaaDoorRows
import GoSem.ClaimSeven
namespace Go.Proofs.YtpiobdofbhkmjaaDoor
namespace Rows

/-- THE TIED CARD OF 'ordinallaw30.EliminationAccepts'. -/
def eliminationAcceptsCard : Claim7 := { stood := { row := eliminationAcceptsRow, standIns := [], harness := (true, "5027b243044485eb1fbafc7e09734fa63e6928ed2f4a8232569ae1f8cbe902c9"), looks := false }, kinds := [], alts := [], laidByText := true, laidKinds := [.data], laidTests := true, laidLooks := .later }
def EliminationAcceptsCardSaid : Prop := Claim7.holds Tryd.pinned (.plain (OpenSpec.ofChange eliminationAcceptsSpec)) eliminationAcceptsCard

/-- THE TIED CARD OF 'ordinallaw30.EliminationBest'. -/
def eliminationBestCard : Claim7 := { stood := { row := eliminationBestRow, standIns := [], harness := (true, "5027b243044485eb1fbafc7e09734fa63e6928ed2f4a8232569ae1f8cbe902c9"), looks := false }, kinds := [], alts := [], laidByText := true, laidKinds := [.data], laidTests := true, laidLooks := .later }
def EliminationBestCardSaid : Prop := Claim7.holds Tryd.pinned (.plain (OpenSpec.ofChange eliminationBestSpec)) eliminationBestCard

/-- THE SECOND FORM's CARD OF 'ordinallaw30.EliminationAccepts'. -/
def eliminationAcceptsUptoCard : Claim7 := { stood := { row := eliminationAcceptsUptoRow, standIns := [], harness := (true, "5027b243044485eb1fbafc7e09734fa63e6928ed2f4a8232569ae1f8cbe902c9"), looks := false }, kinds := [], alts := [], laidByText := true, laidKinds := [.data], laidTests := true, laidLooks := .later }
def EliminationAcceptsUptoCardSaid : Prop := Claim7.holds Tryd.pinned (.plain (OpenSpec.upto eliminationAcceptsSpec)) eliminationAcceptsUptoCard

/-- THE SECOND FORM's CARD OF 'ordinallaw30.EliminationBest'. -/
def eliminationBestUptoCard : Claim7 := { stood := { row := eliminationBestUptoRow, standIns := [], harness := (true, "5027b243044485eb1fbafc7e09734fa63e6928ed2f4a8232569ae1f8cbe902c9"), looks := false }, kinds := [], alts := [], laidByText := true, laidKinds := [.data], laidTests := true, laidLooks := .later }
def EliminationBestUptoCardSaid : Prop := Claim7.holds Tryd.pinned (.plain (OpenSpec.upto eliminationBestSpec)) eliminationBestUptoCard
end Rows
end Go.Proofs.YtpiobdofbhkmjaaDoor
