/-
  DERIVED. GIVEN WITH THE SEED: THE CARDS: each row of YthbdeaeghipliaaGreatDoorRows.lean that lists a variable, with what it lists TIED to the program's text (the seventh form; the later family's looks); each row that meets fmt, with fmt's text TOLD by the authors' own Lean function (tested against real Go, not proved from fmt's source: count such statements apart). THE CARD IS WHAT COUNTS. Prove the row's statement (the work); the ties are given (YthbdeaeghipliaaGreatDoorTie.lean); close each card by the builder's one call (the guide's Derived/Test/ToyasCard.lean, 'card_holds'). Laid BY PROGRAM, IN A SANDBOX (cutbox-door.mjs). By AI agents, Wed Nov 11 2026. No macro, syntax, notation, axiom, sorry.
-/
import Derived.Test.YthbdeaeghipliaaGreatDoorRows
import GoSem.ClaimSeven
namespace Go.Proofs.YthbdeaeghipliaaGreatDoor
namespace Rows

/-- THE TIED CARD OF 'ordinallaw56.ExplainRefusals'. -/
def explainRefusalsCard : Claim7 := { stood := { row := explainRefusalsRow, standIns := [], harness := (true, "9ab459e8f5ee4e6c054310dc6aca4bd7871d2ca6b66256096dc8718e47b619e6"), looks := false }, kinds := [], alts := [], laidByText := true, laidKinds := [.data, .data, .data, .data, .pinned], laidTests := true, laidLooks := .later }
def ExplainRefusalsCardSaid : Prop := Claim7.holds Tryz.pinned (.plain (OpenSpec.ofChange explainRefusalsSpec)) explainRefusalsCard

/-- THE TIED CARD OF 'ordinallaw56.ExplainParts'. -/
def explainPartsCard : Claim7 := { stood := { row := explainPartsRow, standIns := [], harness := (true, "9ab459e8f5ee4e6c054310dc6aca4bd7871d2ca6b66256096dc8718e47b619e6"), looks := false }, kinds := [], alts := [], laidByText := true, laidKinds := [.data, .data, .data, .data, .pinned], laidTests := true, laidLooks := .later }
def ExplainPartsCardSaid : Prop := Claim7.holds Tryz.pinned (.plain (OpenSpec.ofChange explainPartsSpec)) explainPartsCard

/-- THE SECOND FORM's CARD OF 'ordinallaw56.ExplainRefusals'. -/
def explainRefusalsUptoCard : Claim7 := { stood := { row := explainRefusalsUptoRow, standIns := [], harness := (true, "9ab459e8f5ee4e6c054310dc6aca4bd7871d2ca6b66256096dc8718e47b619e6"), looks := false }, kinds := [], alts := [], laidByText := true, laidKinds := [.data, .data, .data, .data, .pinned], laidTests := true, laidLooks := .later }
def ExplainRefusalsUptoCardSaid : Prop := Claim7.holds Tryz.pinned (.plain (OpenSpec.upto explainRefusalsSpec)) explainRefusalsUptoCard

/-- THE SECOND FORM's CARD OF 'ordinallaw56.ExplainParts'. -/
def explainPartsUptoCard : Claim7 := { stood := { row := explainPartsUptoRow, standIns := [], harness := (true, "9ab459e8f5ee4e6c054310dc6aca4bd7871d2ca6b66256096dc8718e47b619e6"), looks := false }, kinds := [], alts := [], laidByText := true, laidKinds := [.data, .data, .data, .data, .pinned], laidTests := true, laidLooks := .later }
def ExplainPartsUptoCardSaid : Prop := Claim7.holds Tryz.pinned (.plain (OpenSpec.upto explainPartsSpec)) explainPartsUptoCard
end Rows
end Go.Proofs.YthbdeaeghipliaaGreatDoor
