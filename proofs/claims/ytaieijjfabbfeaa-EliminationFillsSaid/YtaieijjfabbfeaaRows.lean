/-
  No cell of these rows narrows 'for every input' (looked for: loops, veiled, ifaces, maps, wideKeys, modest, calm, conditions, laid).
  DERIVED. THE GIVEN ROWS OF THIS SEAT. 4 by the template 'for every input the law returns true; each argument reads behind the call as it read before'; 0 by the template 'total and deterministic' (their statements: YtaieijjfabbfeaaTotals.lean).
  GIVEN WITH THE SEED: the statements are not yours to turn. If you find one false, say at which input.
  Laid BY PROGRAM, IN A SANDBOX (cutbox-rows.mjs): the forced cells as the released guide's own fill.sh prints them over the translation 343b92d390e2392e… (all of the seat's roots in one cut). By AI agents, Wed Nov 11 2026. No macro, syntax, notation, axiom, sorry.
-/
import Derived.Test.YtaieijjfabbfeaaChecked
import GoSem.Claim
import GoSem.ClaimJoined
import GoSem.ClaimMapViews
import Derived.JoinedTies
import Derived.KernelRfl
namespace Go.Proofs.Ytaieijjfabbfeaa
/- THE CELL 'sum', in the pinned program and in every row, IS THE sha256 OF THE DUMP (.gsa) THAT YtaieijjfabbfeaaProg.lean LOADS. Nothing in Lean hashes anything: it is a label: what it is worth is what the hold of that sum in a sandbox is worth. -/
noncomputable def Try.pinned : Pinned := { name := "ytaieijjfabbfeaa", sum := "343b92d390e2392e96a5330c79de1208865ba443e8d53f87f21daccf1e588255", checked := Try.checked }
namespace Rows
def none {H : Type} : Left H := { results := [], args := [] }

/-- 'ordinallaw30.EliminationChecks': WHATEVER THE INPUT: true; the input reads as it did. -/
def eliminationChecksSpec : ChangeSpec := { name := "eliminationChecks", fn := fun _ => fun
  | [d1, d2, d3] => { results := [.lit (.bool true)], args := [d1, d2, d3] }
  | _ => none }
def eliminationChecksRow : OpenClaim := { program := "ytaieijjfabbfeaa", sum := "343b92d390e2392e96a5330c79de1208865ba443e8d53f87f21daccf1e588255", func := "ordinal/ordinallaw30.EliminationChecks", spec := "eliminationChecks", unfollowed := true, recurses := true, apart := false }
def EliminationChecksSaid : Prop := eliminationChecksRow.holds Try.pinned (OpenSpec.ofChange eliminationChecksSpec)

/-- ITS FALSE NEIGHBOUR: 'it returns false'. Refute it at one input. -/
def eliminationChecksWrong : ChangeSpec := { name := "eliminationChecks", fn := fun _ => fun
  | [d1, d2, d3] => { results := [.lit (.bool false)], args := [d1, d2, d3] }
  | _ => none }
def EliminationChecksWrongFalsely : Prop := eliminationChecksRow.holds Try.pinned (OpenSpec.ofChange eliminationChecksWrong)

/-- 'ordinallaw30.EliminationBags': WHATEVER THE INPUT: true; the input reads as it did. -/
def eliminationBagsSpec : ChangeSpec := { name := "eliminationBags", fn := fun _ => fun
  | [d1, d2, d3] => { results := [.lit (.bool true)], args := [d1, d2, d3] }
  | _ => none }
def eliminationBagsRow : OpenClaim := { program := "ytaieijjfabbfeaa", sum := "343b92d390e2392e96a5330c79de1208865ba443e8d53f87f21daccf1e588255", func := "ordinal/ordinallaw30.EliminationBags", spec := "eliminationBags", unfollowed := true, recurses := true, apart := false }
def EliminationBagsSaid : Prop := eliminationBagsRow.holds Try.pinned (OpenSpec.ofChange eliminationBagsSpec)

/-- ITS FALSE NEIGHBOUR: 'it returns false'. Refute it at one input. -/
def eliminationBagsWrong : ChangeSpec := { name := "eliminationBags", fn := fun _ => fun
  | [d1, d2, d3] => { results := [.lit (.bool false)], args := [d1, d2, d3] }
  | _ => none }
def EliminationBagsWrongFalsely : Prop := eliminationBagsRow.holds Try.pinned (OpenSpec.ofChange eliminationBagsWrong)

/-- 'ordinallaw30.EliminationTrees': WHATEVER THE INPUT: true; the input reads as it did. -/
def eliminationTreesSpec : ChangeSpec := { name := "eliminationTrees", fn := fun _ => fun
  | [d1, d2, d3] => { results := [.lit (.bool true)], args := [d1, d2, d3] }
  | _ => none }
def eliminationTreesRow : OpenClaim := { program := "ytaieijjfabbfeaa", sum := "343b92d390e2392e96a5330c79de1208865ba443e8d53f87f21daccf1e588255", func := "ordinal/ordinallaw30.EliminationTrees", spec := "eliminationTrees", unfollowed := true, recurses := true, apart := false }
def EliminationTreesSaid : Prop := eliminationTreesRow.holds Try.pinned (OpenSpec.ofChange eliminationTreesSpec)

/-- ITS FALSE NEIGHBOUR: 'it returns false'. Refute it at one input. -/
def eliminationTreesWrong : ChangeSpec := { name := "eliminationTrees", fn := fun _ => fun
  | [d1, d2, d3] => { results := [.lit (.bool false)], args := [d1, d2, d3] }
  | _ => none }
def EliminationTreesWrongFalsely : Prop := eliminationTreesRow.holds Try.pinned (OpenSpec.ofChange eliminationTreesWrong)

/-- 'ordinallaw30.EliminationFills': WHATEVER THE INPUT: true; the input reads as it did. -/
def eliminationFillsSpec : ChangeSpec := { name := "eliminationFills", fn := fun _ => fun
  | [d1, d2, d3] => { results := [.lit (.bool true)], args := [d1, d2, d3] }
  | _ => none }
def eliminationFillsRow : OpenClaim := { program := "ytaieijjfabbfeaa", sum := "343b92d390e2392e96a5330c79de1208865ba443e8d53f87f21daccf1e588255", func := "ordinal/ordinallaw30.EliminationFills", spec := "eliminationFills", unfollowed := true, recurses := true, apart := false }
def EliminationFillsSaid : Prop := eliminationFillsRow.holds Try.pinned (OpenSpec.ofChange eliminationFillsSpec)

/-- ITS FALSE NEIGHBOUR: 'it returns false'. Refute it at one input. -/
def eliminationFillsWrong : ChangeSpec := { name := "eliminationFills", fn := fun _ => fun
  | [d1, d2, d3] => { results := [.lit (.bool false)], args := [d1, d2, d3] }
  | _ => none }
def EliminationFillsWrongFalsely : Prop := eliminationFillsRow.holds Try.pinned (OpenSpec.ofChange eliminationFillsWrong)

/- THE SECOND FORM. 'bulk': how many values and letters a reading holds, each counted each time it is reached (what is shared counts as often as it is met; a slice's spare places count too). A statement '..UptoSaid' is the law's where the arguments, and the package variables that the reading takes, are together of bulk at most 1048576: NARROWER than '..Said'. Prove '..Said' where nothing that the law and all that it calls make is longer than what came in: it says more and counts as full. Else prove '..UptoSaid'. A law counts once. -/
mutual
def uptoBulk {H : Type} : DataW H → Nat
  | .lit (.string bytes) => bytes.length + 1
  | .lit _ => 1
  | .nil => 1
  | .ptr d => uptoBulk d + 1
  | .slice elems spare => uptoBulkAll elems + uptoBulkAll spare + 1
  | .agg parts => uptoBulkAll parts + 1
  | .iface _ d => uptoBulk d + 1
  | .map entries => uptoBulkEntries entries + 1
  | .held _ => 1
def uptoBulkAll {H : Type} : List (DataW H) → Nat
  | [] => 0
  | d :: r => uptoBulk d + uptoBulkAll r
def uptoBulkEntries {H : Type} : List (Lit × DataW H) → Nat
  | [] => 0
  | x :: r => uptoBulkEntry x + uptoBulkEntries r
def uptoBulkEntry {H : Type} : Lit × DataW H → Nat
  | (.string bytes, d) => bytes.length + uptoBulk d + 1
  | (_, d) => uptoBulk d + 1
 end
def uptoSmall : (H : Type) → List (DataW H) → Bool := fun _ ds => decide (uptoBulkAll ds ≤ 1048576)
def OpenSpec.upto (s : _root_.Go.ChangeSpec) : _root_.Go.OpenSpec := { _root_.Go.OpenSpec.ofChange s with cond := some uptoSmall }

/-- 'ordinallaw30.EliminationChecks', WHERE WHAT IT READS IS OF BULK AT MOST 1048576: true; the input reads as it did. -/
def eliminationChecksUptoRow : OpenClaim := { program := "ytaieijjfabbfeaa", sum := "343b92d390e2392e96a5330c79de1208865ba443e8d53f87f21daccf1e588255", func := "ordinal/ordinallaw30.EliminationChecks", spec := "eliminationChecks", unfollowed := true, recurses := true, apart := false, narrowed := true }
def EliminationChecksUptoSaid : Prop := eliminationChecksUptoRow.holds Try.pinned (OpenSpec.upto eliminationChecksSpec)

/-- 'ordinallaw30.EliminationBags', WHERE WHAT IT READS IS OF BULK AT MOST 1048576: true; the input reads as it did. -/
def eliminationBagsUptoRow : OpenClaim := { program := "ytaieijjfabbfeaa", sum := "343b92d390e2392e96a5330c79de1208865ba443e8d53f87f21daccf1e588255", func := "ordinal/ordinallaw30.EliminationBags", spec := "eliminationBags", unfollowed := true, recurses := true, apart := false, narrowed := true }
def EliminationBagsUptoSaid : Prop := eliminationBagsUptoRow.holds Try.pinned (OpenSpec.upto eliminationBagsSpec)

/-- 'ordinallaw30.EliminationTrees', WHERE WHAT IT READS IS OF BULK AT MOST 1048576: true; the input reads as it did. -/
def eliminationTreesUptoRow : OpenClaim := { program := "ytaieijjfabbfeaa", sum := "343b92d390e2392e96a5330c79de1208865ba443e8d53f87f21daccf1e588255", func := "ordinal/ordinallaw30.EliminationTrees", spec := "eliminationTrees", unfollowed := true, recurses := true, apart := false, narrowed := true }
def EliminationTreesUptoSaid : Prop := eliminationTreesUptoRow.holds Try.pinned (OpenSpec.upto eliminationTreesSpec)

/-- 'ordinallaw30.EliminationFills', WHERE WHAT IT READS IS OF BULK AT MOST 1048576: true; the input reads as it did. -/
def eliminationFillsUptoRow : OpenClaim := { program := "ytaieijjfabbfeaa", sum := "343b92d390e2392e96a5330c79de1208865ba443e8d53f87f21daccf1e588255", func := "ordinal/ordinallaw30.EliminationFills", spec := "eliminationFills", unfollowed := true, recurses := true, apart := false, narrowed := true }
def EliminationFillsUptoSaid : Prop := eliminationFillsUptoRow.holds Try.pinned (OpenSpec.upto eliminationFillsSpec)

end Rows
end Go.Proofs.Ytaieijjfabbfeaa
