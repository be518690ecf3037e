/-
  DERIVED. GIVEN WITH THE SEED: THE CARDS: each row of YtdecggbglnbhlaaGreatDoorRows.lean that lists a variable, with what it lists TIED to the program's text (the seventh form; the later family's looks); each row that meets fmt, with fmt's text TOLD by the authors' own Lean function (tested against real Go, not proved from fmt's source: count such statements apart). THE CARD IS WHAT COUNTS. Prove the row's statement (the work); the ties are given (YtdecggbglnbhlaaGreatDoorTie.lean); close each card by the builder's one call (the guide's Derived/Test/ToyasCard.lean, 'card_holds'). Laid BY PROGRAM, IN A SANDBOX (cutbox-door.mjs). By AI agents, Wed Nov 11 2026. No macro, syntax, notation, axiom, sorry.
-/
import Derived.Test.YtdecggbglnbhlaaGreatDoorRows
import GoSem.ClaimSeven
namespace Go.Proofs.YtdecggbglnbhlaaGreatDoor
namespace Rows

/-- THE TIED CARD OF 'ordinallaw33.DichotomyNearest'. -/
def dichotomyNearestCard : Claim7 := { stood := { row := dichotomyNearestRow, standIns := [], harness := (true, "a7fbca2c11946b2e6986c93eb12ab2228b83674011cbebb5383143851ba666c3"), looks := false }, kinds := [], alts := [], laidByText := true, laidKinds := [.data], laidTests := true, laidLooks := .later }
def DichotomyNearestCardSaid : Prop := Claim7.holds Tryz.pinned (.plain (OpenSpec.ofChange dichotomyNearestSpec)) dichotomyNearestCard

/-- THE TIED CARD OF 'ordinallaw33.DichotomyInversions'. -/
def dichotomyInversionsCard : Claim7 := { stood := { row := dichotomyInversionsRow, standIns := [], harness := (true, "a7fbca2c11946b2e6986c93eb12ab2228b83674011cbebb5383143851ba666c3"), looks := false }, kinds := [], alts := [], laidByText := true, laidKinds := [.data], laidTests := true, laidLooks := .later }
def DichotomyInversionsCardSaid : Prop := Claim7.holds Tryz.pinned (.plain (OpenSpec.ofChange dichotomyInversionsSpec)) dichotomyInversionsCard

/-- THE TIED CARD OF 'ordinallaw33.DichotomyChecks'. -/
def dichotomyChecksCard : Claim7 := { stood := { row := dichotomyChecksRow, standIns := [], harness := (true, "a7fbca2c11946b2e6986c93eb12ab2228b83674011cbebb5383143851ba666c3"), looks := false }, kinds := [], alts := [], laidByText := true, laidKinds := [.data], laidTests := true, laidLooks := .later }
def DichotomyChecksCardSaid : Prop := Claim7.holds Tryz.pinned (.plain (OpenSpec.ofChange dichotomyChecksSpec)) dichotomyChecksCard

/-- THE SECOND FORM's CARD OF 'ordinallaw33.DichotomyNearest'. -/
def dichotomyNearestUptoCard : Claim7 := { stood := { row := dichotomyNearestUptoRow, standIns := [], harness := (true, "a7fbca2c11946b2e6986c93eb12ab2228b83674011cbebb5383143851ba666c3"), looks := false }, kinds := [], alts := [], laidByText := true, laidKinds := [.data], laidTests := true, laidLooks := .later }
def DichotomyNearestUptoCardSaid : Prop := Claim7.holds Tryz.pinned (.plain (OpenSpec.upto dichotomyNearestSpec)) dichotomyNearestUptoCard

/-- THE SECOND FORM's CARD OF 'ordinallaw33.DichotomyInversions'. -/
def dichotomyInversionsUptoCard : Claim7 := { stood := { row := dichotomyInversionsUptoRow, standIns := [], harness := (true, "a7fbca2c11946b2e6986c93eb12ab2228b83674011cbebb5383143851ba666c3"), looks := false }, kinds := [], alts := [], laidByText := true, laidKinds := [.data], laidTests := true, laidLooks := .later }
def DichotomyInversionsUptoCardSaid : Prop := Claim7.holds Tryz.pinned (.plain (OpenSpec.upto dichotomyInversionsSpec)) dichotomyInversionsUptoCard

/-- THE SECOND FORM's CARD OF 'ordinallaw33.DichotomyChecks'. -/
def dichotomyChecksUptoCard : Claim7 := { stood := { row := dichotomyChecksUptoRow, standIns := [], harness := (true, "a7fbca2c11946b2e6986c93eb12ab2228b83674011cbebb5383143851ba666c3"), looks := false }, kinds := [], alts := [], laidByText := true, laidKinds := [.data], laidTests := true, laidLooks := .later }
def DichotomyChecksUptoCardSaid : Prop := Claim7.holds Tryz.pinned (.plain (OpenSpec.upto dichotomyChecksSpec)) dichotomyChecksUptoCard
end Rows
end Go.Proofs.YtdecggbglnbhlaaGreatDoor
