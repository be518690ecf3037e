/-
  DERIVED. GIVEN WITH THE SEED: THE CARDS: each row of YtbmiedinclieaaaGreatDoorRows.lean that lists a variable, with what it lists TIED to the program's text (the seventh form; the later family's looks); each row that meets fmt, with fmt's text TOLD by the authors' own Lean function (tested against real Go, not proved from fmt's source: count such statements apart). THE CARD IS WHAT COUNTS. Prove the row's statement (the work); the ties are given (YtbmiedinclieaaaGreatDoorTie.lean); close each card by the builder's one call (the guide's Derived/Test/ToyasCard.lean, 'card_holds'). Laid BY PROGRAM, IN A SANDBOX (cutbox-door.mjs). By AI agents, Wed Nov 11 2026. No macro, syntax, notation, axiom, sorry.
-/
import Derived.Test.YtbmiedinclieaaaGreatDoorRows
import GoSem.ClaimSeven
namespace Go.Proofs.YtbmiedinclieaaaGreatDoor
namespace Rows

/-- THE TIED CARD OF 'ordinallaw58.EngineCollects'. -/
def engineCollectsCard : Claim7 := { stood := { row := engineCollectsRow, standIns := [], harness := (true, "07c44e6f159c175ebf633aaa5f4d16bc4e176d794bf5110a870e942e873631e8"), looks := true }, kinds := [], alts := [], laidByText := true, laidKinds := [.data, .data, .data, .data], laidTests := true, laidLooks := .later }
def EngineCollectsCardSaid : Prop := Claim7.holds Tryz.pinned (.plain (OpenSpec.ofChange engineCollectsSpec)) engineCollectsCard

/-- THE SECOND FORM's CARD OF 'ordinallaw58.EngineCollects'. -/
def engineCollectsUptoCard : Claim7 := { stood := { row := engineCollectsUptoRow, standIns := [], harness := (true, "07c44e6f159c175ebf633aaa5f4d16bc4e176d794bf5110a870e942e873631e8"), looks := true }, kinds := [], alts := [], laidByText := true, laidKinds := [.data, .data, .data, .data], laidTests := true, laidLooks := .later }
def EngineCollectsUptoCardSaid : Prop := Claim7.holds Tryz.pinned (.plain (OpenSpec.upto engineCollectsSpec)) engineCollectsUptoCard
end Rows
end Go.Proofs.YtbmiedinclieaaaGreatDoor
