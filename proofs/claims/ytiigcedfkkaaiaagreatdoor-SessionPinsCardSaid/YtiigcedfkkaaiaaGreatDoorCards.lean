/-
  DERIVED. GIVEN WITH THE SEED: THE CARDS: each row of YtiigcedfkkaaiaaGreatDoorRows.lean that lists a variable, with what it lists TIED to the program's text (the seventh form; the later family's looks); each row that meets fmt, with fmt's text TOLD by the authors' own Lean function (tested against real Go, not proved from fmt's source: count such statements apart). THE CARD IS WHAT COUNTS. Prove the row's statement (the work); the ties are given (YtiigcedfkkaaiaaGreatDoorTie.lean); close each card by the builder's one call (the guide's Derived/Test/ToyasCard.lean, 'card_holds'). Laid BY PROGRAM, IN A SANDBOX (cutbox-door.mjs). By AI agents, Wed Nov 11 2026. No macro, syntax, notation, axiom, sorry.
-/
import Derived.Test.YtiigcedfkkaaiaaGreatDoorRows
import GoSem.ClaimSeven
namespace Go.Proofs.YtiigcedfkkaaiaaGreatDoor
namespace Rows

/-- THE TIED CARD OF 'ordinallaw59.SessionPins'. -/
def sessionPinsCard : Claim7 := { stood := { row := sessionPinsRow, standIns := [], harness := (true, "8cad34adeb6f5c701f7a8ac75fd921711585a007dd67b446b0002ef78eac63ff"), looks := true }, kinds := [], alts := [], laidByText := true, laidKinds := [.data, .data, .data, .data], laidTests := true, laidLooks := .later }
def SessionPinsCardSaid : Prop := Claim7.holds Tryz.pinned (.plain (OpenSpec.ofChange sessionPinsSpec)) sessionPinsCard

/-- THE SECOND FORM's CARD OF 'ordinallaw59.SessionPins'. -/
def sessionPinsUptoCard : Claim7 := { stood := { row := sessionPinsUptoRow, standIns := [], harness := (true, "8cad34adeb6f5c701f7a8ac75fd921711585a007dd67b446b0002ef78eac63ff"), looks := true }, kinds := [], alts := [], laidByText := true, laidKinds := [.data, .data, .data, .data], laidTests := true, laidLooks := .later }
def SessionPinsUptoCardSaid : Prop := Claim7.holds Tryz.pinned (.plain (OpenSpec.upto sessionPinsSpec)) sessionPinsUptoCard
end Rows
end Go.Proofs.YtiigcedfkkaaiaaGreatDoor
