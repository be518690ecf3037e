/-
  DERIVED. GIVEN WITH THE SEED: THE CARDS: each row of YtoiioigihocgbaaGreatDoorRows.lean that lists a variable, with what it lists TIED to the program's text (the seventh form; the later family's looks); each row that meets fmt, with fmt's text TOLD by the authors' own Lean function (tested against real Go, not proved from fmt's source: count such statements apart). THE CARD IS WHAT COUNTS. Prove the row's statement (the work); the ties are given (YtoiioigihocgbaaGreatDoorTie.lean); close each card by the builder's one call (the guide's Derived/Test/ToyasCard.lean, 'card_holds'). Laid BY PROGRAM, IN A SANDBOX (cutbox-door.mjs). By AI agents, Wed Nov 11 2026. No macro, syntax, notation, axiom, sorry.
-/
import Derived.Test.YtoiioigihocgbaaGreatDoorRows
import GoSem.ClaimSeven
namespace Go.Proofs.YtoiioigihocgbaaGreatDoor
namespace Rows

/-- THE TIED CARD OF 'ordinallaw33.DichotomyDecides'. -/
def dichotomyDecidesCard : Claim7 := { stood := { row := dichotomyDecidesRow, standIns := [], harness := (true, "c5ae0ebca12fb395c0a3b7aa4c544d07c055311973735efb38106f23dc425963"), looks := false }, kinds := [], alts := [], laidByText := true, laidKinds := [.data], laidTests := true, laidLooks := .later }
def DichotomyDecidesCardSaid : Prop := Claim7.holds Tryz.pinned (.plain (OpenSpec.ofChange dichotomyDecidesSpec)) dichotomyDecidesCard

/-- THE TIED CARD OF 'ordinallaw33.DichotomyNearest'. -/
def dichotomyNearestCard : Claim7 := { stood := { row := dichotomyNearestRow, standIns := [], harness := (true, "c5ae0ebca12fb395c0a3b7aa4c544d07c055311973735efb38106f23dc425963"), looks := false }, kinds := [], alts := [], laidByText := true, laidKinds := [.data], laidTests := true, laidLooks := .later }
def DichotomyNearestCardSaid : Prop := Claim7.holds Tryz.pinned (.plain (OpenSpec.ofChange dichotomyNearestSpec)) dichotomyNearestCard

/-- THE TIED CARD OF 'ordinallaw33.DichotomyNear'. -/
def dichotomyNearCard : Claim7 := { stood := { row := dichotomyNearRow, standIns := [], harness := (true, "c5ae0ebca12fb395c0a3b7aa4c544d07c055311973735efb38106f23dc425963"), looks := false }, kinds := [], alts := [], laidByText := true, laidKinds := [.data], laidTests := true, laidLooks := .later }
def DichotomyNearCardSaid : Prop := Claim7.holds Tryz.pinned (.plain (OpenSpec.ofChange dichotomyNearSpec)) dichotomyNearCard

/-- THE TIED CARD OF 'ordinallaw33.DichotomyOrders'. -/
def dichotomyOrdersCard : Claim7 := { stood := { row := dichotomyOrdersRow, standIns := [], harness := (true, "c5ae0ebca12fb395c0a3b7aa4c544d07c055311973735efb38106f23dc425963"), looks := false }, kinds := [], alts := [], laidByText := true, laidKinds := [.data], laidTests := true, laidLooks := .later }
def DichotomyOrdersCardSaid : Prop := Claim7.holds Tryz.pinned (.plain (OpenSpec.ofChange dichotomyOrdersSpec)) dichotomyOrdersCard

/-- THE TIED CARD OF 'ordinallaw33.DichotomyExcludes'. -/
def dichotomyExcludesCard : Claim7 := { stood := { row := dichotomyExcludesRow, standIns := [], harness := (true, "c5ae0ebca12fb395c0a3b7aa4c544d07c055311973735efb38106f23dc425963"), looks := false }, kinds := [], alts := [], laidByText := true, laidKinds := [.data], laidTests := true, laidLooks := .later }
def DichotomyExcludesCardSaid : Prop := Claim7.holds Tryz.pinned (.plain (OpenSpec.ofChange dichotomyExcludesSpec)) dichotomyExcludesCard

/-- THE SECOND FORM's CARD OF 'ordinallaw33.DichotomyDecides'. -/
def dichotomyDecidesUptoCard : Claim7 := { stood := { row := dichotomyDecidesUptoRow, standIns := [], harness := (true, "c5ae0ebca12fb395c0a3b7aa4c544d07c055311973735efb38106f23dc425963"), looks := false }, kinds := [], alts := [], laidByText := true, laidKinds := [.data], laidTests := true, laidLooks := .later }
def DichotomyDecidesUptoCardSaid : Prop := Claim7.holds Tryz.pinned (.plain (OpenSpec.upto dichotomyDecidesSpec)) dichotomyDecidesUptoCard

/-- THE SECOND FORM's CARD OF 'ordinallaw33.DichotomyNearest'. -/
def dichotomyNearestUptoCard : Claim7 := { stood := { row := dichotomyNearestUptoRow, standIns := [], harness := (true, "c5ae0ebca12fb395c0a3b7aa4c544d07c055311973735efb38106f23dc425963"), looks := false }, kinds := [], alts := [], laidByText := true, laidKinds := [.data], laidTests := true, laidLooks := .later }
def DichotomyNearestUptoCardSaid : Prop := Claim7.holds Tryz.pinned (.plain (OpenSpec.upto dichotomyNearestSpec)) dichotomyNearestUptoCard

/-- THE SECOND FORM's CARD OF 'ordinallaw33.DichotomyNear'. -/
def dichotomyNearUptoCard : Claim7 := { stood := { row := dichotomyNearUptoRow, standIns := [], harness := (true, "c5ae0ebca12fb395c0a3b7aa4c544d07c055311973735efb38106f23dc425963"), looks := false }, kinds := [], alts := [], laidByText := true, laidKinds := [.data], laidTests := true, laidLooks := .later }
def DichotomyNearUptoCardSaid : Prop := Claim7.holds Tryz.pinned (.plain (OpenSpec.upto dichotomyNearSpec)) dichotomyNearUptoCard

/-- THE SECOND FORM's CARD OF 'ordinallaw33.DichotomyOrders'. -/
def dichotomyOrdersUptoCard : Claim7 := { stood := { row := dichotomyOrdersUptoRow, standIns := [], harness := (true, "c5ae0ebca12fb395c0a3b7aa4c544d07c055311973735efb38106f23dc425963"), looks := false }, kinds := [], alts := [], laidByText := true, laidKinds := [.data], laidTests := true, laidLooks := .later }
def DichotomyOrdersUptoCardSaid : Prop := Claim7.holds Tryz.pinned (.plain (OpenSpec.upto dichotomyOrdersSpec)) dichotomyOrdersUptoCard

/-- THE SECOND FORM's CARD OF 'ordinallaw33.DichotomyExcludes'. -/
def dichotomyExcludesUptoCard : Claim7 := { stood := { row := dichotomyExcludesUptoRow, standIns := [], harness := (true, "c5ae0ebca12fb395c0a3b7aa4c544d07c055311973735efb38106f23dc425963"), looks := false }, kinds := [], alts := [], laidByText := true, laidKinds := [.data], laidTests := true, laidLooks := .later }
def DichotomyExcludesUptoCardSaid : Prop := Claim7.holds Tryz.pinned (.plain (OpenSpec.upto dichotomyExcludesSpec)) dichotomyExcludesUptoCard
end Rows
end Go.Proofs.YtoiioigihocgbaaGreatDoor
