/-
  No cell of these rows narrows 'for every input' (looked for: loops, veiled, ifaces, maps, wideKeys, modest, calm, conditions, laid).
  DERIVED. THE GIVEN ROWS OF THIS SEAT. 7 by the template 'for every input the law returns true; each argument reads behind the call as it read before'; 0 by the template 'total and deterministic' (their statements: YtbpikdkfeemdaaaGreatTotals.lean).
  GIVEN WITH THE SEED: the statements are not yours to turn. If you find one false, say at which input.
  Laid BY PROGRAM, IN A SANDBOX (cutbox-rows.mjs): the forced cells as the released guide's own fill.sh prints them over the translation 1ce4cb824c383072… (all of the seat's roots in one cut). By AI agents, Wed Nov 11 2026. No macro, syntax, notation, axiom, sorry.
-/
import Derived.Test.YtbpikdkfeemdaaaGreatChecked
import GoSem.Claim
import GoSem.ClaimJoined
import GoSem.ClaimMapViews
import Derived.JoinedTies
import Derived.KernelRfl
namespace Go.Proofs.YtbpikdkfeemdaaaGreat
/- THE CELL 'sum', in the pinned program and in every row, IS THE sha256 OF THE DUMP (.gsa) THAT YtbpikdkfeemdaaaGreatProg.lean LOADS. Nothing in Lean hashes anything: it is a label: what it is worth is what the hold of that sum in a sandbox is worth. -/
noncomputable def Tryz.pinned : Pinned := { name := "ytbpikdkfeemdaaagreat", sum := "1ce4cb824c383072a803d33f8b89cf75b4eb29a8b8ed41248dc8428a0cd683b1", checked := Tryz.checked }
namespace Rows
def none {H : Type} : Left H := { results := [], args := [] }

/-- 'gussetlaw06.ConsNear': WHATEVER THE INPUT: true; the input reads as it did. -/
def consNearSpec : ChangeSpec := { name := "consNear", fn := fun _ => fun
  | [d] => { results := [.lit (.bool true)], args := [d] }
  | _ => none }
def consNearRow : OpenClaim := { program := "ytbpikdkfeemdaaagreat", sum := "1ce4cb824c383072a803d33f8b89cf75b4eb29a8b8ed41248dc8428a0cd683b1", func := "gusset/gussetlaw06.ConsNear", spec := "consNear", inPlace := ["math/bits.Add64", "math/bits.Sub64", "internal/abi.NoEscape", "internal/bytealg.MakeNoZero"], unfollowed := true, recurses := true, named := ["math/bits.divideError", "math/bits.overflowError"], apart := false }
def ConsNearSaid : Prop := consNearRow.holds Tryz.pinned (OpenSpec.ofChange consNearSpec)

/-- ITS FALSE NEIGHBOUR: 'it returns false'. Refute it at one input. -/
def consNearWrong : ChangeSpec := { name := "consNear", fn := fun _ => fun
  | [d] => { results := [.lit (.bool false)], args := [d] }
  | _ => none }
def ConsNearWrongFalsely : Prop := consNearRow.holds Tryz.pinned (OpenSpec.ofChange consNearWrong)

/-- 'gussetlaw06.ConsNearest': WHATEVER THE INPUT: true; the input reads as it did. -/
def consNearestSpec : ChangeSpec := { name := "consNearest", fn := fun _ => fun
  | [d1, d2, d3] => { results := [.lit (.bool true)], args := [d1, d2, d3] }
  | _ => none }
def consNearestRow : OpenClaim := { program := "ytbpikdkfeemdaaagreat", sum := "1ce4cb824c383072a803d33f8b89cf75b4eb29a8b8ed41248dc8428a0cd683b1", func := "gusset/gussetlaw06.ConsNearest", spec := "consNearest", inPlace := ["math/bits.Add64", "math/bits.Sub64", "internal/abi.NoEscape", "internal/bytealg.MakeNoZero"], unfollowed := true, recurses := true, named := ["math/bits.divideError", "math/bits.overflowError"], apart := false }
def ConsNearestSaid : Prop := consNearestRow.holds Tryz.pinned (OpenSpec.ofChange consNearestSpec)

/-- ITS FALSE NEIGHBOUR: 'it returns false'. Refute it at one input. -/
def consNearestWrong : ChangeSpec := { name := "consNearest", fn := fun _ => fun
  | [d1, d2, d3] => { results := [.lit (.bool false)], args := [d1, d2, d3] }
  | _ => none }
def ConsNearestWrongFalsely : Prop := consNearestRow.holds Tryz.pinned (OpenSpec.ofChange consNearestWrong)

/-- 'gussetlaw06.ConsAngles': WHATEVER THE INPUT: true; the input reads as it did. -/
def consAnglesSpec : ChangeSpec := { name := "consAngles", fn := fun _ => fun
  | [d] => { results := [.lit (.bool true)], args := [d] }
  | _ => none }
def consAnglesRow : OpenClaim := { program := "ytbpikdkfeemdaaagreat", sum := "1ce4cb824c383072a803d33f8b89cf75b4eb29a8b8ed41248dc8428a0cd683b1", func := "gusset/gussetlaw06.ConsAngles", spec := "consAngles", inPlace := ["math/bits.Add64", "math/bits.Sub64", "internal/abi.NoEscape", "internal/bytealg.MakeNoZero"], unfollowed := true, recurses := true, named := ["math/bits.divideError", "math/bits.overflowError"], apart := false }
def ConsAnglesSaid : Prop := consAnglesRow.holds Tryz.pinned (OpenSpec.ofChange consAnglesSpec)

/-- ITS FALSE NEIGHBOUR: 'it returns false'. Refute it at one input. -/
def consAnglesWrong : ChangeSpec := { name := "consAngles", fn := fun _ => fun
  | [d] => { results := [.lit (.bool false)], args := [d] }
  | _ => none }
def ConsAnglesWrongFalsely : Prop := consAnglesRow.holds Tryz.pinned (OpenSpec.ofChange consAnglesWrong)

/-- 'gussetlaw06.ConsEven': WHATEVER THE INPUT: true; the input reads as it did. -/
def consEvenSpec : ChangeSpec := { name := "consEven", fn := fun _ => fun
  | [d] => { results := [.lit (.bool true)], args := [d] }
  | _ => none }
def consEvenRow : OpenClaim := { program := "ytbpikdkfeemdaaagreat", sum := "1ce4cb824c383072a803d33f8b89cf75b4eb29a8b8ed41248dc8428a0cd683b1", func := "gusset/gussetlaw06.ConsEven", spec := "consEven", inPlace := ["math/bits.Add64", "math/bits.Sub64", "internal/abi.NoEscape", "internal/bytealg.MakeNoZero"], unfollowed := true, recurses := true, named := ["math/bits.divideError", "math/bits.overflowError"], apart := false }
def ConsEvenSaid : Prop := consEvenRow.holds Tryz.pinned (OpenSpec.ofChange consEvenSpec)

/-- ITS FALSE NEIGHBOUR: 'it returns false'. Refute it at one input. -/
def consEvenWrong : ChangeSpec := { name := "consEven", fn := fun _ => fun
  | [d] => { results := [.lit (.bool false)], args := [d] }
  | _ => none }
def ConsEvenWrongFalsely : Prop := consEvenRow.holds Tryz.pinned (OpenSpec.ofChange consEvenWrong)

/-- 'gussetlaw06.ConsParts': WHATEVER THE INPUT: true; the input reads as it did. -/
def consPartsSpec : ChangeSpec := { name := "consParts", fn := fun _ => fun
  | [d1, d2] => { results := [.lit (.bool true)], args := [d1, d2] }
  | _ => none }
def consPartsRow : OpenClaim := { program := "ytbpikdkfeemdaaagreat", sum := "1ce4cb824c383072a803d33f8b89cf75b4eb29a8b8ed41248dc8428a0cd683b1", func := "gusset/gussetlaw06.ConsParts", spec := "consParts", inPlace := ["math/bits.Add64", "math/bits.Sub64", "internal/abi.NoEscape", "internal/bytealg.MakeNoZero"], unfollowed := true, recurses := true, named := ["math/bits.divideError", "math/bits.overflowError"], apart := false }
def ConsPartsSaid : Prop := consPartsRow.holds Tryz.pinned (OpenSpec.ofChange consPartsSpec)

/-- ITS FALSE NEIGHBOUR: 'it returns false'. Refute it at one input. -/
def consPartsWrong : ChangeSpec := { name := "consParts", fn := fun _ => fun
  | [d1, d2] => { results := [.lit (.bool false)], args := [d1, d2] }
  | _ => none }
def ConsPartsWrongFalsely : Prop := consPartsRow.holds Tryz.pinned (OpenSpec.ofChange consPartsWrong)

/-- 'gussetlaw06.ConsPoints': WHATEVER THE INPUT: true; the input reads as it did. -/
def consPointsSpec : ChangeSpec := { name := "consPoints", fn := fun _ => fun
  | [d] => { results := [.lit (.bool true)], args := [d] }
  | _ => none }
def consPointsRow : OpenClaim := { program := "ytbpikdkfeemdaaagreat", sum := "1ce4cb824c383072a803d33f8b89cf75b4eb29a8b8ed41248dc8428a0cd683b1", func := "gusset/gussetlaw06.ConsPoints", spec := "consPoints", inPlace := ["math/bits.Add64", "math/bits.Sub64", "internal/abi.NoEscape", "internal/bytealg.MakeNoZero"], unfollowed := true, recurses := true, named := ["math/bits.divideError", "math/bits.overflowError"], apart := false }
def ConsPointsSaid : Prop := consPointsRow.holds Tryz.pinned (OpenSpec.ofChange consPointsSpec)

/-- ITS FALSE NEIGHBOUR: 'it returns false'. Refute it at one input. -/
def consPointsWrong : ChangeSpec := { name := "consPoints", fn := fun _ => fun
  | [d] => { results := [.lit (.bool false)], args := [d] }
  | _ => none }
def ConsPointsWrongFalsely : Prop := consPointsRow.holds Tryz.pinned (OpenSpec.ofChange consPointsWrong)

/-- 'gussetlaw06.ConsShapes': WHATEVER THE INPUT: true; the input reads as it did. -/
def consShapesSpec : ChangeSpec := { name := "consShapes", fn := fun _ => fun
  | [d] => { results := [.lit (.bool true)], args := [d] }
  | _ => none }
def consShapesRow : OpenClaim := { program := "ytbpikdkfeemdaaagreat", sum := "1ce4cb824c383072a803d33f8b89cf75b4eb29a8b8ed41248dc8428a0cd683b1", func := "gusset/gussetlaw06.ConsShapes", spec := "consShapes", inPlace := ["math/bits.Add64", "math/bits.Sub64", "internal/abi.NoEscape", "internal/bytealg.MakeNoZero"], unfollowed := true, recurses := true, named := ["math/bits.divideError", "math/bits.overflowError"], apart := false }
def ConsShapesSaid : Prop := consShapesRow.holds Tryz.pinned (OpenSpec.ofChange consShapesSpec)

/-- ITS FALSE NEIGHBOUR: 'it returns false'. Refute it at one input. -/
def consShapesWrong : ChangeSpec := { name := "consShapes", fn := fun _ => fun
  | [d] => { results := [.lit (.bool false)], args := [d] }
  | _ => none }
def ConsShapesWrongFalsely : Prop := consShapesRow.holds Tryz.pinned (OpenSpec.ofChange consShapesWrong)

/- THE SECOND FORM. 'bulk': how many values and letters a reading holds, each counted each time it is reached (what is shared counts as often as it is met; a slice's spare places count too). A statement '..UptoSaid' is the law's where the arguments, and the package variables that the reading takes, are together of bulk at most 1048576: NARROWER than '..Said'. Prove '..Said' where nothing that the law and all that it calls make is longer than what came in: it says more and counts as full. Else prove '..UptoSaid'. A law counts once. -/
mutual
def uptoBulk {H : Type} : DataW H → Nat
  | .lit (.string bytes) => bytes.length + 1
  | .lit _ => 1
  | .nil => 1
  | .ptr d => uptoBulk d + 1
  | .slice elems spare => uptoBulkAll elems + uptoBulkAll spare + 1
  | .agg parts => uptoBulkAll parts + 1
  | .iface _ d => uptoBulk d + 1
  | .map entries => uptoBulkEntries entries + 1
  | .held _ => 1
def uptoBulkAll {H : Type} : List (DataW H) → Nat
  | [] => 0
  | d :: r => uptoBulk d + uptoBulkAll r
def uptoBulkEntries {H : Type} : List (Lit × DataW H) → Nat
  | [] => 0
  | x :: r => uptoBulkEntry x + uptoBulkEntries r
def uptoBulkEntry {H : Type} : Lit × DataW H → Nat
  | (.string bytes, d) => bytes.length + uptoBulk d + 1
  | (_, d) => uptoBulk d + 1
 end
def uptoSmall : (H : Type) → List (DataW H) → Bool := fun _ ds => decide (uptoBulkAll ds ≤ 1048576)
def OpenSpec.upto (s : _root_.Go.ChangeSpec) : _root_.Go.OpenSpec := { _root_.Go.OpenSpec.ofChange s with cond := some uptoSmall }

/-- 'gussetlaw06.ConsNear', WHERE WHAT IT READS IS OF BULK AT MOST 1048576: true; the input reads as it did. -/
def consNearUptoRow : OpenClaim := { program := "ytbpikdkfeemdaaagreat", sum := "1ce4cb824c383072a803d33f8b89cf75b4eb29a8b8ed41248dc8428a0cd683b1", func := "gusset/gussetlaw06.ConsNear", spec := "consNear", inPlace := ["math/bits.Add64", "math/bits.Sub64", "internal/abi.NoEscape", "internal/bytealg.MakeNoZero"], unfollowed := true, recurses := true, named := ["math/bits.divideError", "math/bits.overflowError"], apart := false, narrowed := true }
def ConsNearUptoSaid : Prop := consNearUptoRow.holds Tryz.pinned (OpenSpec.upto consNearSpec)

/-- 'gussetlaw06.ConsNearest', WHERE WHAT IT READS IS OF BULK AT MOST 1048576: true; the input reads as it did. -/
def consNearestUptoRow : OpenClaim := { program := "ytbpikdkfeemdaaagreat", sum := "1ce4cb824c383072a803d33f8b89cf75b4eb29a8b8ed41248dc8428a0cd683b1", func := "gusset/gussetlaw06.ConsNearest", spec := "consNearest", inPlace := ["math/bits.Add64", "math/bits.Sub64", "internal/abi.NoEscape", "internal/bytealg.MakeNoZero"], unfollowed := true, recurses := true, named := ["math/bits.divideError", "math/bits.overflowError"], apart := false, narrowed := true }
def ConsNearestUptoSaid : Prop := consNearestUptoRow.holds Tryz.pinned (OpenSpec.upto consNearestSpec)

/-- 'gussetlaw06.ConsAngles', WHERE WHAT IT READS IS OF BULK AT MOST 1048576: true; the input reads as it did. -/
def consAnglesUptoRow : OpenClaim := { program := "ytbpikdkfeemdaaagreat", sum := "1ce4cb824c383072a803d33f8b89cf75b4eb29a8b8ed41248dc8428a0cd683b1", func := "gusset/gussetlaw06.ConsAngles", spec := "consAngles", inPlace := ["math/bits.Add64", "math/bits.Sub64", "internal/abi.NoEscape", "internal/bytealg.MakeNoZero"], unfollowed := true, recurses := true, named := ["math/bits.divideError", "math/bits.overflowError"], apart := false, narrowed := true }
def ConsAnglesUptoSaid : Prop := consAnglesUptoRow.holds Tryz.pinned (OpenSpec.upto consAnglesSpec)

/-- 'gussetlaw06.ConsEven', WHERE WHAT IT READS IS OF BULK AT MOST 1048576: true; the input reads as it did. -/
def consEvenUptoRow : OpenClaim := { program := "ytbpikdkfeemdaaagreat", sum := "1ce4cb824c383072a803d33f8b89cf75b4eb29a8b8ed41248dc8428a0cd683b1", func := "gusset/gussetlaw06.ConsEven", spec := "consEven", inPlace := ["math/bits.Add64", "math/bits.Sub64", "internal/abi.NoEscape", "internal/bytealg.MakeNoZero"], unfollowed := true, recurses := true, named := ["math/bits.divideError", "math/bits.overflowError"], apart := false, narrowed := true }
def ConsEvenUptoSaid : Prop := consEvenUptoRow.holds Tryz.pinned (OpenSpec.upto consEvenSpec)

/-- 'gussetlaw06.ConsParts', WHERE WHAT IT READS IS OF BULK AT MOST 1048576: true; the input reads as it did. -/
def consPartsUptoRow : OpenClaim := { program := "ytbpikdkfeemdaaagreat", sum := "1ce4cb824c383072a803d33f8b89cf75b4eb29a8b8ed41248dc8428a0cd683b1", func := "gusset/gussetlaw06.ConsParts", spec := "consParts", inPlace := ["math/bits.Add64", "math/bits.Sub64", "internal/abi.NoEscape", "internal/bytealg.MakeNoZero"], unfollowed := true, recurses := true, named := ["math/bits.divideError", "math/bits.overflowError"], apart := false, narrowed := true }
def ConsPartsUptoSaid : Prop := consPartsUptoRow.holds Tryz.pinned (OpenSpec.upto consPartsSpec)

/-- 'gussetlaw06.ConsPoints', WHERE WHAT IT READS IS OF BULK AT MOST 1048576: true; the input reads as it did. -/
def consPointsUptoRow : OpenClaim := { program := "ytbpikdkfeemdaaagreat", sum := "1ce4cb824c383072a803d33f8b89cf75b4eb29a8b8ed41248dc8428a0cd683b1", func := "gusset/gussetlaw06.ConsPoints", spec := "consPoints", inPlace := ["math/bits.Add64", "math/bits.Sub64", "internal/abi.NoEscape", "internal/bytealg.MakeNoZero"], unfollowed := true, recurses := true, named := ["math/bits.divideError", "math/bits.overflowError"], apart := false, narrowed := true }
def ConsPointsUptoSaid : Prop := consPointsUptoRow.holds Tryz.pinned (OpenSpec.upto consPointsSpec)

/-- 'gussetlaw06.ConsShapes', WHERE WHAT IT READS IS OF BULK AT MOST 1048576: true; the input reads as it did. -/
def consShapesUptoRow : OpenClaim := { program := "ytbpikdkfeemdaaagreat", sum := "1ce4cb824c383072a803d33f8b89cf75b4eb29a8b8ed41248dc8428a0cd683b1", func := "gusset/gussetlaw06.ConsShapes", spec := "consShapes", inPlace := ["math/bits.Add64", "math/bits.Sub64", "internal/abi.NoEscape", "internal/bytealg.MakeNoZero"], unfollowed := true, recurses := true, named := ["math/bits.divideError", "math/bits.overflowError"], apart := false, narrowed := true }
def ConsShapesUptoSaid : Prop := consShapesUptoRow.holds Tryz.pinned (OpenSpec.upto consShapesSpec)

end Rows
end Go.Proofs.YtbpikdkfeemdaaaGreat
