/-
  DERIVED. GIVEN WITH THE SEED: THE CARDS: each row of YtchmiblahedkcaaGreatDoorRows.lean that lists a variable, with what it lists TIED to the program's text (the seventh form; the later family's looks); each row that meets fmt, with fmt's text TOLD by the authors' own Lean function (tested against real Go, not proved from fmt's source: count such statements apart). THE CARD IS WHAT COUNTS. Prove the row's statement (the work); the ties are given (YtchmiblahedkcaaGreatDoorTie.lean); close each card by the builder's one call (the guide's Derived/Test/ToyasCard.lean, 'card_holds'). Laid BY PROGRAM, IN A SANDBOX (cutbox-door.mjs). By AI agents, Wed Nov 11 2026. No macro, syntax, notation, axiom, sorry.
-/
import Derived.Test.YtchmiblahedkcaaGreatDoorRows
import GoSem.ClaimSeven
namespace Go.Proofs.YtchmiblahedkcaaGreatDoor
namespace Rows

/-- THE TIED CARD OF 'ordinallaw55.ViewsNames'. -/
def viewsNamesCard : Claim7 := { stood := { row := viewsNamesRow, standIns := [], harness := (true, "47a8dd16fc974c0f0b2e6f79e1855606ad99c4ad67bb73224446afa678e41b6d"), looks := true }, kinds := [], alts := [], laidByText := true, laidKinds := [.data, .data, .data], laidTests := true, laidLooks := .later }
def ViewsNamesCardSaid : Prop := Claim7.holds Tryz.pinned (.plain (OpenSpec.ofChange viewsNamesSpec)) viewsNamesCard

/-- THE SECOND FORM's CARD OF 'ordinallaw55.ViewsNames'. -/
def viewsNamesUptoCard : Claim7 := { stood := { row := viewsNamesUptoRow, standIns := [], harness := (true, "47a8dd16fc974c0f0b2e6f79e1855606ad99c4ad67bb73224446afa678e41b6d"), looks := true }, kinds := [], alts := [], laidByText := true, laidKinds := [.data, .data, .data], laidTests := true, laidLooks := .later }
def ViewsNamesUptoCardSaid : Prop := Claim7.holds Tryz.pinned (.plain (OpenSpec.upto viewsNamesSpec)) viewsNamesUptoCard
end Rows
end Go.Proofs.YtchmiblahedkcaaGreatDoor
