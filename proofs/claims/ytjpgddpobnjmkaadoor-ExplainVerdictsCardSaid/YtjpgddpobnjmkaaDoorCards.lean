/-
  DERIVED. GIVEN WITH THE SEED: THE CARDS: each row of YtjpgddpobnjmkaaDoorRows.lean that lists a variable, with what it lists TIED to the program's text (the seventh form; the later family's looks); each row that meets fmt, with fmt's text TOLD by the authors' own Lean function (tested against real Go, not proved from fmt's source: count such statements apart). THE CARD IS WHAT COUNTS. Prove the row's statement (the work); the ties are given (YtjpgddpobnjmkaaDoorTie.lean); close each card by the builder's one call (the guide's Derived/Test/ToyasCard.lean, 'card_holds'). Laid BY PROGRAM, IN A SANDBOX (cutbox-door.mjs). By AI agents, Wed Nov 11 2026. No macro, syntax, notation, axiom, sorry.
-/
import Derived.Test.YtjpgddpobnjmkaaDoorRows
import GoSem.ClaimSeven
namespace Go.Proofs.YtjpgddpobnjmkaaDoor
namespace Rows

/-- THE TIED CARD OF 'ordinallaw56.ExplainVerdicts'. -/
def explainVerdictsCard : Claim7 := { stood := { row := explainVerdictsRow, standIns := [], harness := (true, "22b0de2bb9ef110bc7b41132e248ba748cc2fb88b06483e76fa946cd6883fa20"), looks := false }, kinds := [], alts := [], laidByText := true, laidKinds := [.data, .pinned], laidTests := true, laidLooks := .later }
def ExplainVerdictsCardSaid : Prop := Claim7.holds Tryd.pinned (.plain (OpenSpec.ofChange explainVerdictsSpec)) explainVerdictsCard

/-- THE TIED CARD OF 'ordinallaw56.ExplainParses'. -/
def explainParsesCard : Claim7 := { stood := { row := explainParsesRow, standIns := [], harness := (true, "22b0de2bb9ef110bc7b41132e248ba748cc2fb88b06483e76fa946cd6883fa20"), looks := false }, kinds := [], alts := [], laidByText := true, laidKinds := [.data, .pinned], laidTests := true, laidLooks := .later }
def ExplainParsesCardSaid : Prop := Claim7.holds Tryd.pinned (.plain (OpenSpec.ofChange explainParsesSpec)) explainParsesCard

/-- THE TIED CARD OF 'ordinallaw56.ExplainBack'. -/
def explainBackCard : Claim7 := { stood := { row := explainBackRow, standIns := [], harness := (true, "22b0de2bb9ef110bc7b41132e248ba748cc2fb88b06483e76fa946cd6883fa20"), looks := false }, kinds := [], alts := [], laidByText := true, laidKinds := [.data, .pinned], laidTests := true, laidLooks := .later }
def ExplainBackCardSaid : Prop := Claim7.holds Tryd.pinned (.plain (OpenSpec.ofChange explainBackSpec)) explainBackCard

/-- THE SECOND FORM's CARD OF 'ordinallaw56.ExplainVerdicts'. -/
def explainVerdictsUptoCard : Claim7 := { stood := { row := explainVerdictsUptoRow, standIns := [], harness := (true, "22b0de2bb9ef110bc7b41132e248ba748cc2fb88b06483e76fa946cd6883fa20"), looks := false }, kinds := [], alts := [], laidByText := true, laidKinds := [.data, .pinned], laidTests := true, laidLooks := .later }
def ExplainVerdictsUptoCardSaid : Prop := Claim7.holds Tryd.pinned (.plain (OpenSpec.upto explainVerdictsSpec)) explainVerdictsUptoCard

/-- THE SECOND FORM's CARD OF 'ordinallaw56.ExplainParses'. -/
def explainParsesUptoCard : Claim7 := { stood := { row := explainParsesUptoRow, standIns := [], harness := (true, "22b0de2bb9ef110bc7b41132e248ba748cc2fb88b06483e76fa946cd6883fa20"), looks := false }, kinds := [], alts := [], laidByText := true, laidKinds := [.data, .pinned], laidTests := true, laidLooks := .later }
def ExplainParsesUptoCardSaid : Prop := Claim7.holds Tryd.pinned (.plain (OpenSpec.upto explainParsesSpec)) explainParsesUptoCard

/-- THE SECOND FORM's CARD OF 'ordinallaw56.ExplainBack'. -/
def explainBackUptoCard : Claim7 := { stood := { row := explainBackUptoRow, standIns := [], harness := (true, "22b0de2bb9ef110bc7b41132e248ba748cc2fb88b06483e76fa946cd6883fa20"), looks := false }, kinds := [], alts := [], laidByText := true, laidKinds := [.data, .pinned], laidTests := true, laidLooks := .later }
def ExplainBackUptoCardSaid : Prop := Claim7.holds Tryd.pinned (.plain (OpenSpec.upto explainBackSpec)) explainBackUptoCard
end Rows
end Go.Proofs.YtjpgddpobnjmkaaDoor
