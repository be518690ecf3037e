/-
  NARROWER THAN 'FOR EVERY INPUT', by the rows' own cells (each row's printed sentence says how): DichotomyDecides: laid · DichotomyNearest: laid · DichotomyNear: laid · DichotomyOrders: laid · DichotomyExcludes: laid.
  DERIVED. THE GIVEN ROWS OF THIS SEAT. 5 by the template 'for every input the law returns true; each argument reads behind the call as it read before'; 0 by the template 'total and deterministic' (their statements: YtoiioigihocgbaaGreatDoorTotals.lean).
  GIVEN WITH THE SEED: the statements are not yours to turn. If you find one false, say at which input.
  Laid BY PROGRAM, IN A SANDBOX (cutbox-rows.mjs): the forced cells as the released guide's own fill.sh prints them over the translation e990639c5d489e2c… (all of the seat's roots in one cut). By AI agents, Wed Nov 11 2026. No macro, syntax, notation, axiom, sorry.
-/
import Derived.Test.YtoiioigihocgbaaGreatDoorChecked
import GoSem.Claim
import GoSem.ClaimJoined
import GoSem.ClaimMapViews
import Derived.JoinedTies
import Derived.KernelRfl
namespace Go.Proofs.YtoiioigihocgbaaGreatDoor
/- THE CELL 'sum', in the pinned program and in every row, IS THE sha256 OF THE DUMP (.gsa) THAT YtoiioigihocgbaaGreatDoorProg.lean LOADS. Nothing in Lean hashes anything: it is a label: what it is worth is what the hold of that sum in a sandbox is worth. -/
noncomputable def Tryz.pinned : Pinned := { name := "ytoiioigihocgbaagreatdoor", sum := "e990639c5d489e2cc59eac3e51e5e76e37d0fed3262cf982c2bae90bd412519b", checked := Tryz.checked }
namespace Rows
def none {H : Type} : Left H := { results := [], args := [] }

/- WHAT THE LISTED PACKAGE-LEVEL VARIABLES READ AS WHEN THE CALL BEGINS. Each datum BY PROGRAM (the guide's laid-datum.mjs) off the statement by which the dump's own 'gosem.cut.vars' lays the variable. In a bare row this is a premise. The card (YtoiioigihocgbaaGreatDoorCards.lean) ties it to the program's text. -/
def laid_math_bits_deBruijn32tab {H : Type} : DataW H := .agg [.lit (.int .u8 0), .lit (.int .u8 1), .lit (.int .u8 28), .lit (.int .u8 2), .lit (.int .u8 29), .lit (.int .u8 14), .lit (.int .u8 24), .lit (.int .u8 3), .lit (.int .u8 30), .lit (.int .u8 22), .lit (.int .u8 20), .lit (.int .u8 15), .lit (.int .u8 25), .lit (.int .u8 17), .lit (.int .u8 4), .lit (.int .u8 8), .lit (.int .u8 31), .lit (.int .u8 27), .lit (.int .u8 13), .lit (.int .u8 23), .lit (.int .u8 21), .lit (.int .u8 19), .lit (.int .u8 16), .lit (.int .u8 7), .lit (.int .u8 26), .lit (.int .u8 12), .lit (.int .u8 18), .lit (.int .u8 6), .lit (.int .u8 11), .lit (.int .u8 5), .lit (.int .u8 10), .lit (.int .u8 9)]

/-- 'ordinallaw33.DichotomyDecides': WHATEVER THE INPUT: true; the input reads as it did. -/
def dichotomyDecidesSpec : ChangeSpec := { name := "dichotomyDecides", fn := fun _ => fun
  | [d1, d2] => { results := [.lit (.bool true)], args := [d1, d2] }
  | _ => none }
def dichotomyDecidesRow : OpenClaim := { program := "ytoiioigihocgbaagreatdoor", sum := "e990639c5d489e2cc59eac3e51e5e76e37d0fed3262cf982c2bae90bd412519b", func := "ordinal/ordinallaw33.DichotomyDecides", spec := "dichotomyDecides", unfollowed := true, recurses := true, named := ["math/bits.deBruijn32tab"], apart := false, laid := [("math/bits.deBruijn32tab", laid_math_bits_deBruijn32tab)] }
def DichotomyDecidesSaid : Prop := dichotomyDecidesRow.holds Tryz.pinned (OpenSpec.ofChange dichotomyDecidesSpec)

/-- ITS FALSE NEIGHBOUR: 'it returns false'. Refute it at one input. -/
def dichotomyDecidesWrong : ChangeSpec := { name := "dichotomyDecides", fn := fun _ => fun
  | [d1, d2] => { results := [.lit (.bool false)], args := [d1, d2] }
  | _ => none }
def DichotomyDecidesWrongFalsely : Prop := dichotomyDecidesRow.holds Tryz.pinned (OpenSpec.ofChange dichotomyDecidesWrong)

/-- 'ordinallaw33.DichotomyNearest': WHATEVER THE INPUT: true; the input reads as it did. -/
def dichotomyNearestSpec : ChangeSpec := { name := "dichotomyNearest", fn := fun _ => fun
  | [d1, d2] => { results := [.lit (.bool true)], args := [d1, d2] }
  | _ => none }
def dichotomyNearestRow : OpenClaim := { program := "ytoiioigihocgbaagreatdoor", sum := "e990639c5d489e2cc59eac3e51e5e76e37d0fed3262cf982c2bae90bd412519b", func := "ordinal/ordinallaw33.DichotomyNearest", spec := "dichotomyNearest", unfollowed := true, recurses := true, named := ["math/bits.deBruijn32tab"], apart := false, laid := [("math/bits.deBruijn32tab", laid_math_bits_deBruijn32tab)] }
def DichotomyNearestSaid : Prop := dichotomyNearestRow.holds Tryz.pinned (OpenSpec.ofChange dichotomyNearestSpec)

/-- ITS FALSE NEIGHBOUR: 'it returns false'. Refute it at one input. -/
def dichotomyNearestWrong : ChangeSpec := { name := "dichotomyNearest", fn := fun _ => fun
  | [d1, d2] => { results := [.lit (.bool false)], args := [d1, d2] }
  | _ => none }
def DichotomyNearestWrongFalsely : Prop := dichotomyNearestRow.holds Tryz.pinned (OpenSpec.ofChange dichotomyNearestWrong)

/-- 'ordinallaw33.DichotomyNear': WHATEVER THE INPUT: true; the input reads as it did. -/
def dichotomyNearSpec : ChangeSpec := { name := "dichotomyNear", fn := fun _ => fun
  | [d1, d2] => { results := [.lit (.bool true)], args := [d1, d2] }
  | _ => none }
def dichotomyNearRow : OpenClaim := { program := "ytoiioigihocgbaagreatdoor", sum := "e990639c5d489e2cc59eac3e51e5e76e37d0fed3262cf982c2bae90bd412519b", func := "ordinal/ordinallaw33.DichotomyNear", spec := "dichotomyNear", unfollowed := true, recurses := true, named := ["math/bits.deBruijn32tab"], apart := false, laid := [("math/bits.deBruijn32tab", laid_math_bits_deBruijn32tab)] }
def DichotomyNearSaid : Prop := dichotomyNearRow.holds Tryz.pinned (OpenSpec.ofChange dichotomyNearSpec)

/-- ITS FALSE NEIGHBOUR: 'it returns false'. Refute it at one input. -/
def dichotomyNearWrong : ChangeSpec := { name := "dichotomyNear", fn := fun _ => fun
  | [d1, d2] => { results := [.lit (.bool false)], args := [d1, d2] }
  | _ => none }
def DichotomyNearWrongFalsely : Prop := dichotomyNearRow.holds Tryz.pinned (OpenSpec.ofChange dichotomyNearWrong)

/-- 'ordinallaw33.DichotomyOrders': WHATEVER THE INPUT: true; the input reads as it did. -/
def dichotomyOrdersSpec : ChangeSpec := { name := "dichotomyOrders", fn := fun _ => fun
  | [d1, d2, d3] => { results := [.lit (.bool true)], args := [d1, d2, d3] }
  | _ => none }
def dichotomyOrdersRow : OpenClaim := { program := "ytoiioigihocgbaagreatdoor", sum := "e990639c5d489e2cc59eac3e51e5e76e37d0fed3262cf982c2bae90bd412519b", func := "ordinal/ordinallaw33.DichotomyOrders", spec := "dichotomyOrders", unfollowed := true, recurses := true, named := ["math/bits.deBruijn32tab"], apart := false, laid := [("math/bits.deBruijn32tab", laid_math_bits_deBruijn32tab)] }
def DichotomyOrdersSaid : Prop := dichotomyOrdersRow.holds Tryz.pinned (OpenSpec.ofChange dichotomyOrdersSpec)

/-- ITS FALSE NEIGHBOUR: 'it returns false'. Refute it at one input. -/
def dichotomyOrdersWrong : ChangeSpec := { name := "dichotomyOrders", fn := fun _ => fun
  | [d1, d2, d3] => { results := [.lit (.bool false)], args := [d1, d2, d3] }
  | _ => none }
def DichotomyOrdersWrongFalsely : Prop := dichotomyOrdersRow.holds Tryz.pinned (OpenSpec.ofChange dichotomyOrdersWrong)

/-- 'ordinallaw33.DichotomyExcludes': WHATEVER THE INPUT: true; the input reads as it did. -/
def dichotomyExcludesSpec : ChangeSpec := { name := "dichotomyExcludes", fn := fun _ => fun
  | [d1, d2, d3] => { results := [.lit (.bool true)], args := [d1, d2, d3] }
  | _ => none }
def dichotomyExcludesRow : OpenClaim := { program := "ytoiioigihocgbaagreatdoor", sum := "e990639c5d489e2cc59eac3e51e5e76e37d0fed3262cf982c2bae90bd412519b", func := "ordinal/ordinallaw33.DichotomyExcludes", spec := "dichotomyExcludes", unfollowed := true, recurses := true, named := ["math/bits.deBruijn32tab"], apart := false, laid := [("math/bits.deBruijn32tab", laid_math_bits_deBruijn32tab)] }
def DichotomyExcludesSaid : Prop := dichotomyExcludesRow.holds Tryz.pinned (OpenSpec.ofChange dichotomyExcludesSpec)

/-- ITS FALSE NEIGHBOUR: 'it returns false'. Refute it at one input. -/
def dichotomyExcludesWrong : ChangeSpec := { name := "dichotomyExcludes", fn := fun _ => fun
  | [d1, d2, d3] => { results := [.lit (.bool false)], args := [d1, d2, d3] }
  | _ => none }
def DichotomyExcludesWrongFalsely : Prop := dichotomyExcludesRow.holds Tryz.pinned (OpenSpec.ofChange dichotomyExcludesWrong)

/- THE SECOND FORM. 'bulk': how many values and letters a reading holds, each counted each time it is reached (what is shared counts as often as it is met; a slice's spare places count too). A statement '..UptoSaid' is the law's where the arguments, and the package variables that the reading takes, are together of bulk at most 1048576: NARROWER than '..Said'. Prove '..Said' where nothing that the law and all that it calls make is longer than what came in: it says more and counts as full. Else prove '..UptoSaid'. A law counts once. -/
mutual
def uptoBulk {H : Type} : DataW H → Nat
  | .lit (.string bytes) => bytes.length + 1
  | .lit _ => 1
  | .nil => 1
  | .ptr d => uptoBulk d + 1
  | .slice elems spare => uptoBulkAll elems + uptoBulkAll spare + 1
  | .agg parts => uptoBulkAll parts + 1
  | .iface _ d => uptoBulk d + 1
  | .map entries => uptoBulkEntries entries + 1
  | .held _ => 1
def uptoBulkAll {H : Type} : List (DataW H) → Nat
  | [] => 0
  | d :: r => uptoBulk d + uptoBulkAll r
def uptoBulkEntries {H : Type} : List (Lit × DataW H) → Nat
  | [] => 0
  | x :: r => uptoBulkEntry x + uptoBulkEntries r
def uptoBulkEntry {H : Type} : Lit × DataW H → Nat
  | (.string bytes, d) => bytes.length + uptoBulk d + 1
  | (_, d) => uptoBulk d + 1
 end
def uptoSmall : (H : Type) → List (DataW H) → Bool := fun _ ds => decide (uptoBulkAll ds ≤ 1048576)
def OpenSpec.upto (s : _root_.Go.ChangeSpec) : _root_.Go.OpenSpec := { _root_.Go.OpenSpec.ofChange s with cond := some uptoSmall }

/-- 'ordinallaw33.DichotomyDecides', WHERE WHAT IT READS IS OF BULK AT MOST 1048576: true; the input reads as it did. -/
def dichotomyDecidesUptoRow : OpenClaim := { program := "ytoiioigihocgbaagreatdoor", sum := "e990639c5d489e2cc59eac3e51e5e76e37d0fed3262cf982c2bae90bd412519b", func := "ordinal/ordinallaw33.DichotomyDecides", spec := "dichotomyDecides", unfollowed := true, recurses := true, named := ["math/bits.deBruijn32tab"], apart := false, laid := [("math/bits.deBruijn32tab", laid_math_bits_deBruijn32tab)], narrowed := true }
def DichotomyDecidesUptoSaid : Prop := dichotomyDecidesUptoRow.holds Tryz.pinned (OpenSpec.upto dichotomyDecidesSpec)

/-- 'ordinallaw33.DichotomyNearest', WHERE WHAT IT READS IS OF BULK AT MOST 1048576: true; the input reads as it did. -/
def dichotomyNearestUptoRow : OpenClaim := { program := "ytoiioigihocgbaagreatdoor", sum := "e990639c5d489e2cc59eac3e51e5e76e37d0fed3262cf982c2bae90bd412519b", func := "ordinal/ordinallaw33.DichotomyNearest", spec := "dichotomyNearest", unfollowed := true, recurses := true, named := ["math/bits.deBruijn32tab"], apart := false, laid := [("math/bits.deBruijn32tab", laid_math_bits_deBruijn32tab)], narrowed := true }
def DichotomyNearestUptoSaid : Prop := dichotomyNearestUptoRow.holds Tryz.pinned (OpenSpec.upto dichotomyNearestSpec)

/-- 'ordinallaw33.DichotomyNear', WHERE WHAT IT READS IS OF BULK AT MOST 1048576: true; the input reads as it did. -/
def dichotomyNearUptoRow : OpenClaim := { program := "ytoiioigihocgbaagreatdoor", sum := "e990639c5d489e2cc59eac3e51e5e76e37d0fed3262cf982c2bae90bd412519b", func := "ordinal/ordinallaw33.DichotomyNear", spec := "dichotomyNear", unfollowed := true, recurses := true, named := ["math/bits.deBruijn32tab"], apart := false, laid := [("math/bits.deBruijn32tab", laid_math_bits_deBruijn32tab)], narrowed := true }
def DichotomyNearUptoSaid : Prop := dichotomyNearUptoRow.holds Tryz.pinned (OpenSpec.upto dichotomyNearSpec)

/-- 'ordinallaw33.DichotomyOrders', WHERE WHAT IT READS IS OF BULK AT MOST 1048576: true; the input reads as it did. -/
def dichotomyOrdersUptoRow : OpenClaim := { program := "ytoiioigihocgbaagreatdoor", sum := "e990639c5d489e2cc59eac3e51e5e76e37d0fed3262cf982c2bae90bd412519b", func := "ordinal/ordinallaw33.DichotomyOrders", spec := "dichotomyOrders", unfollowed := true, recurses := true, named := ["math/bits.deBruijn32tab"], apart := false, laid := [("math/bits.deBruijn32tab", laid_math_bits_deBruijn32tab)], narrowed := true }
def DichotomyOrdersUptoSaid : Prop := dichotomyOrdersUptoRow.holds Tryz.pinned (OpenSpec.upto dichotomyOrdersSpec)

/-- 'ordinallaw33.DichotomyExcludes', WHERE WHAT IT READS IS OF BULK AT MOST 1048576: true; the input reads as it did. -/
def dichotomyExcludesUptoRow : OpenClaim := { program := "ytoiioigihocgbaagreatdoor", sum := "e990639c5d489e2cc59eac3e51e5e76e37d0fed3262cf982c2bae90bd412519b", func := "ordinal/ordinallaw33.DichotomyExcludes", spec := "dichotomyExcludes", unfollowed := true, recurses := true, named := ["math/bits.deBruijn32tab"], apart := false, laid := [("math/bits.deBruijn32tab", laid_math_bits_deBruijn32tab)], narrowed := true }
def DichotomyExcludesUptoSaid : Prop := dichotomyExcludesUptoRow.holds Tryz.pinned (OpenSpec.upto dichotomyExcludesSpec)

end Rows
end Go.Proofs.YtoiioigihocgbaaGreatDoor
