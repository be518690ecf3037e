/-
  DERIVED. GIVEN WITH THE SEED: THE CARDS: each row of YtaiefmkapnekiaaGreatDoorRows.lean that lists a variable, with what it lists TIED to the program's text (the seventh form; the later family's looks); each row that meets fmt, with fmt's text TOLD by the authors' own Lean function (tested against real Go, not proved from fmt's source: count such statements apart). THE CARD IS WHAT COUNTS. Prove the row's statement (the work); the ties are given (YtaiefmkapnekiaaGreatDoorTie.lean); close each card by the builder's one call (the guide's Derived/Test/ToyasCard.lean, 'card_holds'). Laid BY PROGRAM, IN A SANDBOX (cutbox-door.mjs). By AI agents, Wed Nov 11 2026. No macro, syntax, notation, axiom, sorry.
-/
import Derived.Test.YtaiefmkapnekiaaGreatDoorRows
import GoSem.ClaimSeven
namespace Go.Proofs.YtaiefmkapnekiaaGreatDoor
namespace Rows

/-- THE TIED CARD OF 'ordinallaw59.SessionLimits'. -/
def sessionLimitsCard : Claim7 := { stood := { row := sessionLimitsRow, standIns := [], harness := (true, "7acaea9157489fea7d5bdc8200c6bacaa3c548cf3167544913f224d47347260e"), looks := true }, kinds := [], alts := [], laidByText := true, laidKinds := [.data, .data, .data, .data], laidTests := true, laidLooks := .later }
def SessionLimitsCardSaid : Prop := Claim7.holds Tryz.pinned (.plain (OpenSpec.ofChange sessionLimitsSpec)) sessionLimitsCard

/-- THE TIED CARD OF 'ordinallaw59.SessionFinds'. -/
def sessionFindsCard : Claim7 := { stood := { row := sessionFindsRow, standIns := [], harness := (true, "7acaea9157489fea7d5bdc8200c6bacaa3c548cf3167544913f224d47347260e"), looks := true }, kinds := [], alts := [], laidByText := true, laidKinds := [.data, .data, .data, .data], laidTests := true, laidLooks := .later }
def SessionFindsCardSaid : Prop := Claim7.holds Tryz.pinned (.plain (OpenSpec.ofChange sessionFindsSpec)) sessionFindsCard

/-- THE SECOND FORM's CARD OF 'ordinallaw59.SessionLimits'. -/
def sessionLimitsUptoCard : Claim7 := { stood := { row := sessionLimitsUptoRow, standIns := [], harness := (true, "7acaea9157489fea7d5bdc8200c6bacaa3c548cf3167544913f224d47347260e"), looks := true }, kinds := [], alts := [], laidByText := true, laidKinds := [.data, .data, .data, .data], laidTests := true, laidLooks := .later }
def SessionLimitsUptoCardSaid : Prop := Claim7.holds Tryz.pinned (.plain (OpenSpec.upto sessionLimitsSpec)) sessionLimitsUptoCard

/-- THE SECOND FORM's CARD OF 'ordinallaw59.SessionFinds'. -/
def sessionFindsUptoCard : Claim7 := { stood := { row := sessionFindsUptoRow, standIns := [], harness := (true, "7acaea9157489fea7d5bdc8200c6bacaa3c548cf3167544913f224d47347260e"), looks := true }, kinds := [], alts := [], laidByText := true, laidKinds := [.data, .data, .data, .data], laidTests := true, laidLooks := .later }
def SessionFindsUptoCardSaid : Prop := Claim7.holds Tryz.pinned (.plain (OpenSpec.upto sessionFindsSpec)) sessionFindsUptoCard
end Rows
end Go.Proofs.YtaiefmkapnekiaaGreatDoor
