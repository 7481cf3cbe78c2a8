/-
  No cell of these rows narrows 'for every input' (looked for: loops, veiled, ifaces, maps, wideKeys, modest, calm, conditions, laid).
  DERIVED. THE GIVEN ROWS OF THIS SEAT. 5 by the template 'for every input the law returns true; each argument reads behind the call as it read before'; 0 by the template 'total and deterministic' (their statements: YtechbfodaallkaaGreatTotals.lean).
  GIVEN WITH THE SEED: the statements are not yours to turn. If you find one false, say at which input.
  Laid BY PROGRAM, IN A SANDBOX (cutbox-rows.mjs): the forced cells as the released guide's own fill.sh prints them over the translation 97d351dd46b58c74… (all of the seat's roots in one cut). By AI agents, Wed Nov 11 2026. No macro, syntax, notation, axiom, sorry.
-/
import Derived.Test.YtechbfodaallkaaGreatChecked
import GoSem.Claim
import GoSem.ClaimJoined
import GoSem.ClaimMapViews
import Derived.JoinedTies
import Derived.KernelRfl
namespace Go.Proofs.YtechbfodaallkaaGreat
/- THE CELL 'sum', in the pinned program and in every row, IS THE sha256 OF THE DUMP (.gsa) THAT YtechbfodaallkaaGreatProg.lean LOADS. Nothing in Lean hashes anything: it is a label: what it is worth is what the hold of that sum in a sandbox is worth. -/
noncomputable def Tryz.pinned : Pinned := { name := "ytechbfodaallkaagreat", sum := "97d351dd46b58c747c96779c34fa3beca351868770c4197e3cecdae8313b3648", checked := Tryz.checked }
namespace Rows
def none {H : Type} : Left H := { results := [], args := [] }

/-- 'gussetlaw05.GeomAgree': WHATEVER THE INPUT: true; the input reads as it did. -/
def geomAgreeSpec : ChangeSpec := { name := "geomAgree", fn := fun _ => fun
  | [d] => { results := [.lit (.bool true)], args := [d] }
  | _ => none }
def geomAgreeRow : OpenClaim := { program := "ytechbfodaallkaagreat", sum := "97d351dd46b58c747c96779c34fa3beca351868770c4197e3cecdae8313b3648", func := "gusset/gussetlaw05.GeomAgree", spec := "geomAgree", inPlace := ["math/bits.Add64", "math/bits.Sub64", "internal/abi.NoEscape", "internal/bytealg.MakeNoZero"], unfollowed := true, recurses := true, named := ["math/bits.divideError", "math/bits.overflowError"], apart := false }
def GeomAgreeSaid : Prop := geomAgreeRow.holds Tryz.pinned (OpenSpec.ofChange geomAgreeSpec)

/-- ITS FALSE NEIGHBOUR: 'it returns false'. Refute it at one input. -/
def geomAgreeWrong : ChangeSpec := { name := "geomAgree", fn := fun _ => fun
  | [d] => { results := [.lit (.bool false)], args := [d] }
  | _ => none }
def GeomAgreeWrongFalsely : Prop := geomAgreeRow.holds Tryz.pinned (OpenSpec.ofChange geomAgreeWrong)

/-- 'gussetlaw10.WellChecks': WHATEVER THE INPUT: true; the input reads as it did. -/
def wellChecksSpec : ChangeSpec := { name := "wellChecks", fn := fun _ => fun
  | [d] => { results := [.lit (.bool true)], args := [d] }
  | _ => none }
def wellChecksRow : OpenClaim := { program := "ytechbfodaallkaagreat", sum := "97d351dd46b58c747c96779c34fa3beca351868770c4197e3cecdae8313b3648", func := "gusset/gussetlaw10.WellChecks", spec := "wellChecks", inPlace := ["math/bits.Add64", "math/bits.Sub64", "internal/abi.NoEscape", "internal/bytealg.MakeNoZero"], unfollowed := true, recurses := true, named := ["math/bits.divideError", "math/bits.overflowError"], apart := false }
def WellChecksSaid : Prop := wellChecksRow.holds Tryz.pinned (OpenSpec.ofChange wellChecksSpec)

/-- ITS FALSE NEIGHBOUR: 'it returns false'. Refute it at one input. -/
def wellChecksWrong : ChangeSpec := { name := "wellChecks", fn := fun _ => fun
  | [d] => { results := [.lit (.bool false)], args := [d] }
  | _ => none }
def WellChecksWrongFalsely : Prop := wellChecksRow.holds Tryz.pinned (OpenSpec.ofChange wellChecksWrong)

/-- 'gussetlaw10.WellLess': WHATEVER THE INPUT: true; the input reads as it did. -/
def wellLessSpec : ChangeSpec := { name := "wellLess", fn := fun _ => fun
  | [d1, d2] => { results := [.lit (.bool true)], args := [d1, d2] }
  | _ => none }
def wellLessRow : OpenClaim := { program := "ytechbfodaallkaagreat", sum := "97d351dd46b58c747c96779c34fa3beca351868770c4197e3cecdae8313b3648", func := "gusset/gussetlaw10.WellLess", spec := "wellLess", inPlace := ["math/bits.Add64", "math/bits.Sub64", "internal/abi.NoEscape", "internal/bytealg.MakeNoZero"], unfollowed := true, recurses := true, named := ["math/bits.divideError", "math/bits.overflowError"], apart := false }
def WellLessSaid : Prop := wellLessRow.holds Tryz.pinned (OpenSpec.ofChange wellLessSpec)

/-- ITS FALSE NEIGHBOUR: 'it returns false'. Refute it at one input. -/
def wellLessWrong : ChangeSpec := { name := "wellLess", fn := fun _ => fun
  | [d1, d2] => { results := [.lit (.bool false)], args := [d1, d2] }
  | _ => none }
def WellLessWrongFalsely : Prop := wellLessRow.holds Tryz.pinned (OpenSpec.ofChange wellLessWrong)

/-- 'gussetlaw10.WellMoved': WHATEVER THE INPUT: true; the input reads as it did. -/
def wellMovedSpec : ChangeSpec := { name := "wellMoved", fn := fun _ => fun
  | [d1, d2, d3] => { results := [.lit (.bool true)], args := [d1, d2, d3] }
  | _ => none }
def wellMovedRow : OpenClaim := { program := "ytechbfodaallkaagreat", sum := "97d351dd46b58c747c96779c34fa3beca351868770c4197e3cecdae8313b3648", func := "gusset/gussetlaw10.WellMoved", spec := "wellMoved", inPlace := ["math/bits.Add64", "math/bits.Sub64", "internal/abi.NoEscape", "internal/bytealg.MakeNoZero"], unfollowed := true, recurses := true, named := ["math/bits.divideError", "math/bits.overflowError"], apart := false }
def WellMovedSaid : Prop := wellMovedRow.holds Tryz.pinned (OpenSpec.ofChange wellMovedSpec)

/-- ITS FALSE NEIGHBOUR: 'it returns false'. Refute it at one input. -/
def wellMovedWrong : ChangeSpec := { name := "wellMoved", fn := fun _ => fun
  | [d1, d2, d3] => { results := [.lit (.bool false)], args := [d1, d2, d3] }
  | _ => none }
def WellMovedWrongFalsely : Prop := wellMovedRow.holds Tryz.pinned (OpenSpec.ofChange wellMovedWrong)

/-- 'gussetlaw10.WellGreat': WHATEVER THE INPUT: true; the input reads as it did. -/
def wellGreatSpec : ChangeSpec := { name := "wellGreat", fn := fun _ => fun
  | [d1, d2, d3] => { results := [.lit (.bool true)], args := [d1, d2, d3] }
  | _ => none }
def wellGreatRow : OpenClaim := { program := "ytechbfodaallkaagreat", sum := "97d351dd46b58c747c96779c34fa3beca351868770c4197e3cecdae8313b3648", func := "gusset/gussetlaw10.WellGreat", spec := "wellGreat", inPlace := ["math/bits.Add64", "math/bits.Sub64", "internal/abi.NoEscape", "internal/bytealg.MakeNoZero"], unfollowed := true, recurses := true, named := ["math/bits.divideError", "math/bits.overflowError"], apart := false }
def WellGreatSaid : Prop := wellGreatRow.holds Tryz.pinned (OpenSpec.ofChange wellGreatSpec)

/-- ITS FALSE NEIGHBOUR: 'it returns false'. Refute it at one input. -/
def wellGreatWrong : ChangeSpec := { name := "wellGreat", fn := fun _ => fun
  | [d1, d2, d3] => { results := [.lit (.bool false)], args := [d1, d2, d3] }
  | _ => none }
def WellGreatWrongFalsely : Prop := wellGreatRow.holds Tryz.pinned (OpenSpec.ofChange wellGreatWrong)

/- THE SECOND FORM. 'bulk': how many values and letters a reading holds, each counted each time it is reached (what is shared counts as often as it is met; a slice's spare places count too). A statement '..UptoSaid' is the law's where the arguments, and the package variables that the reading takes, are together of bulk at most 1048576: NARROWER than '..Said'. Prove '..Said' where nothing that the law and all that it calls make is longer than what came in: it says more and counts as full. Else prove '..UptoSaid'. A law counts once. -/
mutual
def uptoBulk {H : Type} : DataW H → Nat
  | .lit (.string bytes) => bytes.length + 1
  | .lit _ => 1
  | .nil => 1
  | .ptr d => uptoBulk d + 1
  | .slice elems spare => uptoBulkAll elems + uptoBulkAll spare + 1
  | .agg parts => uptoBulkAll parts + 1
  | .iface _ d => uptoBulk d + 1
  | .map entries => uptoBulkEntries entries + 1
  | .held _ => 1
def uptoBulkAll {H : Type} : List (DataW H) → Nat
  | [] => 0
  | d :: r => uptoBulk d + uptoBulkAll r
def uptoBulkEntries {H : Type} : List (Lit × DataW H) → Nat
  | [] => 0
  | x :: r => uptoBulkEntry x + uptoBulkEntries r
def uptoBulkEntry {H : Type} : Lit × DataW H → Nat
  | (.string bytes, d) => bytes.length + uptoBulk d + 1
  | (_, d) => uptoBulk d + 1
 end
def uptoSmall : (H : Type) → List (DataW H) → Bool := fun _ ds => decide (uptoBulkAll ds ≤ 1048576)
def OpenSpec.upto (s : _root_.Go.ChangeSpec) : _root_.Go.OpenSpec := { _root_.Go.OpenSpec.ofChange s with cond := some uptoSmall }

/-- 'gussetlaw05.GeomAgree', WHERE WHAT IT READS IS OF BULK AT MOST 1048576: true; the input reads as it did. -/
def geomAgreeUptoRow : OpenClaim := { program := "ytechbfodaallkaagreat", sum := "97d351dd46b58c747c96779c34fa3beca351868770c4197e3cecdae8313b3648", func := "gusset/gussetlaw05.GeomAgree", spec := "geomAgree", inPlace := ["math/bits.Add64", "math/bits.Sub64", "internal/abi.NoEscape", "internal/bytealg.MakeNoZero"], unfollowed := true, recurses := true, named := ["math/bits.divideError", "math/bits.overflowError"], apart := false, narrowed := true }
def GeomAgreeUptoSaid : Prop := geomAgreeUptoRow.holds Tryz.pinned (OpenSpec.upto geomAgreeSpec)

/-- 'gussetlaw10.WellChecks', WHERE WHAT IT READS IS OF BULK AT MOST 1048576: true; the input reads as it did. -/
def wellChecksUptoRow : OpenClaim := { program := "ytechbfodaallkaagreat", sum := "97d351dd46b58c747c96779c34fa3beca351868770c4197e3cecdae8313b3648", func := "gusset/gussetlaw10.WellChecks", spec := "wellChecks", inPlace := ["math/bits.Add64", "math/bits.Sub64", "internal/abi.NoEscape", "internal/bytealg.MakeNoZero"], unfollowed := true, recurses := true, named := ["math/bits.divideError", "math/bits.overflowError"], apart := false, narrowed := true }
def WellChecksUptoSaid : Prop := wellChecksUptoRow.holds Tryz.pinned (OpenSpec.upto wellChecksSpec)

/-- 'gussetlaw10.WellLess', WHERE WHAT IT READS IS OF BULK AT MOST 1048576: true; the input reads as it did. -/
def wellLessUptoRow : OpenClaim := { program := "ytechbfodaallkaagreat", sum := "97d351dd46b58c747c96779c34fa3beca351868770c4197e3cecdae8313b3648", func := "gusset/gussetlaw10.WellLess", spec := "wellLess", inPlace := ["math/bits.Add64", "math/bits.Sub64", "internal/abi.NoEscape", "internal/bytealg.MakeNoZero"], unfollowed := true, recurses := true, named := ["math/bits.divideError", "math/bits.overflowError"], apart := false, narrowed := true }
def WellLessUptoSaid : Prop := wellLessUptoRow.holds Tryz.pinned (OpenSpec.upto wellLessSpec)

/-- 'gussetlaw10.WellMoved', WHERE WHAT IT READS IS OF BULK AT MOST 1048576: true; the input reads as it did. -/
def wellMovedUptoRow : OpenClaim := { program := "ytechbfodaallkaagreat", sum := "97d351dd46b58c747c96779c34fa3beca351868770c4197e3cecdae8313b3648", func := "gusset/gussetlaw10.WellMoved", spec := "wellMoved", inPlace := ["math/bits.Add64", "math/bits.Sub64", "internal/abi.NoEscape", "internal/bytealg.MakeNoZero"], unfollowed := true, recurses := true, named := ["math/bits.divideError", "math/bits.overflowError"], apart := false, narrowed := true }
def WellMovedUptoSaid : Prop := wellMovedUptoRow.holds Tryz.pinned (OpenSpec.upto wellMovedSpec)

/-- 'gussetlaw10.WellGreat', WHERE WHAT IT READS IS OF BULK AT MOST 1048576: true; the input reads as it did. -/
def wellGreatUptoRow : OpenClaim := { program := "ytechbfodaallkaagreat", sum := "97d351dd46b58c747c96779c34fa3beca351868770c4197e3cecdae8313b3648", func := "gusset/gussetlaw10.WellGreat", spec := "wellGreat", inPlace := ["math/bits.Add64", "math/bits.Sub64", "internal/abi.NoEscape", "internal/bytealg.MakeNoZero"], unfollowed := true, recurses := true, named := ["math/bits.divideError", "math/bits.overflowError"], apart := false, narrowed := true }
def WellGreatUptoSaid : Prop := wellGreatUptoRow.holds Tryz.pinned (OpenSpec.upto wellGreatSpec)

end Rows
end Go.Proofs.YtechbfodaallkaaGreat
