/-
  No cell of these rows narrows 'for every input' (looked for: loops, veiled, ifaces, maps, wideKeys, modest, calm, conditions, laid).
  DERIVED. THE GIVEN ROWS OF THIS SEAT. 12 by the template 'for every input the law returns true; each argument reads behind the call as it read before'; 0 by the template 'total and deterministic' (their statements: YtmklpomcdnflbaaGreatTotals.lean).
  GIVEN WITH THE SEED: the statements are not yours to turn. If you find one false, say at which input.
  Laid BY PROGRAM, IN A SANDBOX (cutbox-rows.mjs): the forced cells as the released guide's own fill.sh prints them over the translation 3e35a5944a4dfbc6… (all of the seat's roots in one cut). By AI agents, Wed Nov 11 2026. No macro, syntax, notation, axiom, sorry.
-/
import Derived.Test.YtmklpomcdnflbaaGreatChecked
import GoSem.Claim
import GoSem.ClaimJoined
import GoSem.ClaimMapViews
import Derived.JoinedTies
import Derived.KernelRfl
namespace Go.Proofs.YtmklpomcdnflbaaGreat
/- THE CELL 'sum', in the pinned program and in every row, IS THE sha256 OF THE DUMP (.gsa) THAT YtmklpomcdnflbaaGreatProg.lean LOADS. Nothing in Lean hashes anything: it is a label: what it is worth is what the hold of that sum in a sandbox is worth. -/
noncomputable def Tryz.pinned : Pinned := { name := "ytmklpomcdnflbaagreat", sum := "3e35a5944a4dfbc6406174f5add55282ad15e8f90dab084131c5db82b2aae09a", checked := Tryz.checked }
namespace Rows
def none {H : Type} : Left H := { results := [], args := [] }

/-- 'gussetlaw04.VecDets': WHATEVER THE INPUT: true; the input reads as it did. -/
def vecDetsSpec : ChangeSpec := { name := "vecDets", fn := fun _ => fun
  | [d] => { results := [.lit (.bool true)], args := [d] }
  | _ => none }
def vecDetsRow : OpenClaim := { program := "ytmklpomcdnflbaagreat", sum := "3e35a5944a4dfbc6406174f5add55282ad15e8f90dab084131c5db82b2aae09a", func := "gusset/gussetlaw04.VecDets", spec := "vecDets", inPlace := ["math/bits.Add64", "math/bits.Sub64", "internal/abi.NoEscape", "internal/bytealg.MakeNoZero"], unfollowed := true, recurses := true, named := ["math/bits.divideError", "math/bits.overflowError"], apart := false }
def VecDetsSaid : Prop := vecDetsRow.holds Tryz.pinned (OpenSpec.ofChange vecDetsSpec)

/-- ITS FALSE NEIGHBOUR: 'it returns false'. Refute it at one input. -/
def vecDetsWrong : ChangeSpec := { name := "vecDets", fn := fun _ => fun
  | [d] => { results := [.lit (.bool false)], args := [d] }
  | _ => none }
def VecDetsWrongFalsely : Prop := vecDetsRow.holds Tryz.pinned (OpenSpec.ofChange vecDetsWrong)

/-- 'gussetlaw04.VecTurned': WHATEVER THE INPUT: true; the input reads as it did. -/
def vecTurnedSpec : ChangeSpec := { name := "vecTurned", fn := fun _ => fun
  | [d1, d2, d3] => { results := [.lit (.bool true)], args := [d1, d2, d3] }
  | _ => none }
def vecTurnedRow : OpenClaim := { program := "ytmklpomcdnflbaagreat", sum := "3e35a5944a4dfbc6406174f5add55282ad15e8f90dab084131c5db82b2aae09a", func := "gusset/gussetlaw04.VecTurned", spec := "vecTurned", inPlace := ["math/bits.Add64", "math/bits.Sub64", "internal/abi.NoEscape", "internal/bytealg.MakeNoZero"], unfollowed := true, recurses := true, named := ["math/bits.divideError", "math/bits.overflowError"], apart := false }
def VecTurnedSaid : Prop := vecTurnedRow.holds Tryz.pinned (OpenSpec.ofChange vecTurnedSpec)

/-- ITS FALSE NEIGHBOUR: 'it returns false'. Refute it at one input. -/
def vecTurnedWrong : ChangeSpec := { name := "vecTurned", fn := fun _ => fun
  | [d1, d2, d3] => { results := [.lit (.bool false)], args := [d1, d2, d3] }
  | _ => none }
def VecTurnedWrongFalsely : Prop := vecTurnedRow.holds Tryz.pinned (OpenSpec.ofChange vecTurnedWrong)

/-- 'gussetlaw04.VecSquares': WHATEVER THE INPUT: true; the input reads as it did. -/
def vecSquaresSpec : ChangeSpec := { name := "vecSquares", fn := fun _ => fun
  | [d1, d2] => { results := [.lit (.bool true)], args := [d1, d2] }
  | _ => none }
def vecSquaresRow : OpenClaim := { program := "ytmklpomcdnflbaagreat", sum := "3e35a5944a4dfbc6406174f5add55282ad15e8f90dab084131c5db82b2aae09a", func := "gusset/gussetlaw04.VecSquares", spec := "vecSquares", inPlace := ["math/bits.Add64", "math/bits.Sub64", "internal/abi.NoEscape", "internal/bytealg.MakeNoZero"], unfollowed := true, recurses := true, named := ["math/bits.divideError", "math/bits.overflowError"], apart := false }
def VecSquaresSaid : Prop := vecSquaresRow.holds Tryz.pinned (OpenSpec.ofChange vecSquaresSpec)

/-- ITS FALSE NEIGHBOUR: 'it returns false'. Refute it at one input. -/
def vecSquaresWrong : ChangeSpec := { name := "vecSquares", fn := fun _ => fun
  | [d1, d2] => { results := [.lit (.bool false)], args := [d1, d2] }
  | _ => none }
def VecSquaresWrongFalsely : Prop := vecSquaresRow.holds Tryz.pinned (OpenSpec.ofChange vecSquaresWrong)

/-- 'gussetlaw04.VecScales': WHATEVER THE INPUT: true; the input reads as it did. -/
def vecScalesSpec : ChangeSpec := { name := "vecScales", fn := fun _ => fun
  | [d1, d2] => { results := [.lit (.bool true)], args := [d1, d2] }
  | _ => none }
def vecScalesRow : OpenClaim := { program := "ytmklpomcdnflbaagreat", sum := "3e35a5944a4dfbc6406174f5add55282ad15e8f90dab084131c5db82b2aae09a", func := "gusset/gussetlaw04.VecScales", spec := "vecScales", inPlace := ["math/bits.Add64", "math/bits.Sub64", "internal/abi.NoEscape", "internal/bytealg.MakeNoZero"], unfollowed := true, recurses := true, named := ["math/bits.divideError", "math/bits.overflowError"], apart := false }
def VecScalesSaid : Prop := vecScalesRow.holds Tryz.pinned (OpenSpec.ofChange vecScalesSpec)

/-- ITS FALSE NEIGHBOUR: 'it returns false'. Refute it at one input. -/
def vecScalesWrong : ChangeSpec := { name := "vecScales", fn := fun _ => fun
  | [d1, d2] => { results := [.lit (.bool false)], args := [d1, d2] }
  | _ => none }
def VecScalesWrongFalsely : Prop := vecScalesRow.holds Tryz.pinned (OpenSpec.ofChange vecScalesWrong)

/-- 'gussetlaw04.VecLinear': WHATEVER THE INPUT: true; the input reads as it did. -/
def vecLinearSpec : ChangeSpec := { name := "vecLinear", fn := fun _ => fun
  | [d1, d2, d3] => { results := [.lit (.bool true)], args := [d1, d2, d3] }
  | _ => none }
def vecLinearRow : OpenClaim := { program := "ytmklpomcdnflbaagreat", sum := "3e35a5944a4dfbc6406174f5add55282ad15e8f90dab084131c5db82b2aae09a", func := "gusset/gussetlaw04.VecLinear", spec := "vecLinear", inPlace := ["math/bits.Add64", "math/bits.Sub64", "internal/abi.NoEscape", "internal/bytealg.MakeNoZero"], unfollowed := true, recurses := true, named := ["math/bits.divideError", "math/bits.overflowError"], apart := false }
def VecLinearSaid : Prop := vecLinearRow.holds Tryz.pinned (OpenSpec.ofChange vecLinearSpec)

/-- ITS FALSE NEIGHBOUR: 'it returns false'. Refute it at one input. -/
def vecLinearWrong : ChangeSpec := { name := "vecLinear", fn := fun _ => fun
  | [d1, d2, d3] => { results := [.lit (.bool false)], args := [d1, d2, d3] }
  | _ => none }
def VecLinearWrongFalsely : Prop := vecLinearRow.holds Tryz.pinned (OpenSpec.ofChange vecLinearWrong)

/-- 'gussetlaw04.VecReckons': WHATEVER THE INPUT: true; the input reads as it did. -/
def vecReckonsSpec : ChangeSpec := { name := "vecReckons", fn := fun _ => fun
  | [d1, d2] => { results := [.lit (.bool true)], args := [d1, d2] }
  | _ => none }
def vecReckonsRow : OpenClaim := { program := "ytmklpomcdnflbaagreat", sum := "3e35a5944a4dfbc6406174f5add55282ad15e8f90dab084131c5db82b2aae09a", func := "gusset/gussetlaw04.VecReckons", spec := "vecReckons", inPlace := ["math/bits.Add64", "math/bits.Sub64", "internal/abi.NoEscape", "internal/bytealg.MakeNoZero"], unfollowed := true, recurses := true, named := ["math/bits.divideError", "math/bits.overflowError"], apart := false }
def VecReckonsSaid : Prop := vecReckonsRow.holds Tryz.pinned (OpenSpec.ofChange vecReckonsSpec)

/-- ITS FALSE NEIGHBOUR: 'it returns false'. Refute it at one input. -/
def vecReckonsWrong : ChangeSpec := { name := "vecReckons", fn := fun _ => fun
  | [d1, d2] => { results := [.lit (.bool false)], args := [d1, d2] }
  | _ => none }
def VecReckonsWrongFalsely : Prop := vecReckonsRow.holds Tryz.pinned (OpenSpec.ofChange vecReckonsWrong)

/-- 'gussetlaw17.ElementStiff': WHATEVER THE INPUT: true; the input reads as it did. -/
def elementStiffSpec : ChangeSpec := { name := "elementStiff", fn := fun _ => fun
  | [d] => { results := [.lit (.bool true)], args := [d] }
  | _ => none }
def elementStiffRow : OpenClaim := { program := "ytmklpomcdnflbaagreat", sum := "3e35a5944a4dfbc6406174f5add55282ad15e8f90dab084131c5db82b2aae09a", func := "gusset/gussetlaw17.ElementStiff", spec := "elementStiff", inPlace := ["math/bits.Add64", "math/bits.Sub64", "internal/abi.NoEscape", "internal/bytealg.MakeNoZero"], unfollowed := true, recurses := true, named := ["math/bits.divideError", "math/bits.overflowError"], apart := false }
def ElementStiffSaid : Prop := elementStiffRow.holds Tryz.pinned (OpenSpec.ofChange elementStiffSpec)

/-- ITS FALSE NEIGHBOUR: 'it returns false'. Refute it at one input. -/
def elementStiffWrong : ChangeSpec := { name := "elementStiff", fn := fun _ => fun
  | [d] => { results := [.lit (.bool false)], args := [d] }
  | _ => none }
def ElementStiffWrongFalsely : Prop := elementStiffRow.holds Tryz.pinned (OpenSpec.ofChange elementStiffWrong)

/-- 'gussetlaw17.ElementSlopes': WHATEVER THE INPUT: true; the input reads as it did. -/
def elementSlopesSpec : ChangeSpec := { name := "elementSlopes", fn := fun _ => fun
  | [d1, d2] => { results := [.lit (.bool true)], args := [d1, d2] }
  | _ => none }
def elementSlopesRow : OpenClaim := { program := "ytmklpomcdnflbaagreat", sum := "3e35a5944a4dfbc6406174f5add55282ad15e8f90dab084131c5db82b2aae09a", func := "gusset/gussetlaw17.ElementSlopes", spec := "elementSlopes", inPlace := ["math/bits.Add64", "math/bits.Sub64", "internal/abi.NoEscape", "internal/bytealg.MakeNoZero"], unfollowed := true, recurses := true, named := ["math/bits.divideError", "math/bits.overflowError"], apart := false }
def ElementSlopesSaid : Prop := elementSlopesRow.holds Tryz.pinned (OpenSpec.ofChange elementSlopesSpec)

/-- ITS FALSE NEIGHBOUR: 'it returns false'. Refute it at one input. -/
def elementSlopesWrong : ChangeSpec := { name := "elementSlopes", fn := fun _ => fun
  | [d1, d2] => { results := [.lit (.bool false)], args := [d1, d2] }
  | _ => none }
def ElementSlopesWrongFalsely : Prop := elementSlopesRow.holds Tryz.pinned (OpenSpec.ofChange elementSlopesWrong)

/-- 'gussetlaw17.ElementSums': WHATEVER THE INPUT: true; the input reads as it did. -/
def elementSumsSpec : ChangeSpec := { name := "elementSums", fn := fun _ => fun
  | [d1, d2] => { results := [.lit (.bool true)], args := [d1, d2] }
  | _ => none }
def elementSumsRow : OpenClaim := { program := "ytmklpomcdnflbaagreat", sum := "3e35a5944a4dfbc6406174f5add55282ad15e8f90dab084131c5db82b2aae09a", func := "gusset/gussetlaw17.ElementSums", spec := "elementSums", inPlace := ["math/bits.Add64", "math/bits.Sub64", "internal/abi.NoEscape", "internal/bytealg.MakeNoZero"], unfollowed := true, recurses := true, named := ["math/bits.divideError", "math/bits.overflowError"], apart := false }
def ElementSumsSaid : Prop := elementSumsRow.holds Tryz.pinned (OpenSpec.ofChange elementSumsSpec)

/-- ITS FALSE NEIGHBOUR: 'it returns false'. Refute it at one input. -/
def elementSumsWrong : ChangeSpec := { name := "elementSums", fn := fun _ => fun
  | [d1, d2] => { results := [.lit (.bool false)], args := [d1, d2] }
  | _ => none }
def ElementSumsWrongFalsely : Prop := elementSumsRow.holds Tryz.pinned (OpenSpec.ofChange elementSumsWrong)

/-- 'gussetlaw17.ElementMoved': WHATEVER THE INPUT: true; the input reads as it did. -/
def elementMovedSpec : ChangeSpec := { name := "elementMoved", fn := fun _ => fun
  | [d1, d2, d3] => { results := [.lit (.bool true)], args := [d1, d2, d3] }
  | _ => none }
def elementMovedRow : OpenClaim := { program := "ytmklpomcdnflbaagreat", sum := "3e35a5944a4dfbc6406174f5add55282ad15e8f90dab084131c5db82b2aae09a", func := "gusset/gussetlaw17.ElementMoved", spec := "elementMoved", inPlace := ["math/bits.Add64", "math/bits.Sub64", "internal/abi.NoEscape", "internal/bytealg.MakeNoZero"], unfollowed := true, recurses := true, named := ["math/bits.divideError", "math/bits.overflowError"], apart := false }
def ElementMovedSaid : Prop := elementMovedRow.holds Tryz.pinned (OpenSpec.ofChange elementMovedSpec)

/-- ITS FALSE NEIGHBOUR: 'it returns false'. Refute it at one input. -/
def elementMovedWrong : ChangeSpec := { name := "elementMoved", fn := fun _ => fun
  | [d1, d2, d3] => { results := [.lit (.bool false)], args := [d1, d2, d3] }
  | _ => none }
def ElementMovedWrongFalsely : Prop := elementMovedRow.holds Tryz.pinned (OpenSpec.ofChange elementMovedWrong)

/-- 'gussetlaw17.ElementLinear': WHATEVER THE INPUT: true; the input reads as it did. -/
def elementLinearSpec : ChangeSpec := { name := "elementLinear", fn := fun _ => fun
  | [d1, d2] => { results := [.lit (.bool true)], args := [d1, d2] }
  | _ => none }
def elementLinearRow : OpenClaim := { program := "ytmklpomcdnflbaagreat", sum := "3e35a5944a4dfbc6406174f5add55282ad15e8f90dab084131c5db82b2aae09a", func := "gusset/gussetlaw17.ElementLinear", spec := "elementLinear", inPlace := ["math/bits.Add64", "math/bits.Sub64", "internal/abi.NoEscape", "internal/bytealg.MakeNoZero"], unfollowed := true, recurses := true, named := ["math/bits.divideError", "math/bits.overflowError"], apart := false }
def ElementLinearSaid : Prop := elementLinearRow.holds Tryz.pinned (OpenSpec.ofChange elementLinearSpec)

/-- ITS FALSE NEIGHBOUR: 'it returns false'. Refute it at one input. -/
def elementLinearWrong : ChangeSpec := { name := "elementLinear", fn := fun _ => fun
  | [d1, d2] => { results := [.lit (.bool false)], args := [d1, d2] }
  | _ => none }
def ElementLinearWrongFalsely : Prop := elementLinearRow.holds Tryz.pinned (OpenSpec.ofChange elementLinearWrong)

/-- 'gussetlaw17.ElementJumps': WHATEVER THE INPUT: true; the input reads as it did. -/
def elementJumpsSpec : ChangeSpec := { name := "elementJumps", fn := fun _ => fun
  | [d] => { results := [.lit (.bool true)], args := [d] }
  | _ => none }
def elementJumpsRow : OpenClaim := { program := "ytmklpomcdnflbaagreat", sum := "3e35a5944a4dfbc6406174f5add55282ad15e8f90dab084131c5db82b2aae09a", func := "gusset/gussetlaw17.ElementJumps", spec := "elementJumps", inPlace := ["math/bits.Add64", "math/bits.Sub64", "internal/abi.NoEscape", "internal/bytealg.MakeNoZero"], unfollowed := true, recurses := true, named := ["math/bits.divideError", "math/bits.overflowError"], apart := false }
def ElementJumpsSaid : Prop := elementJumpsRow.holds Tryz.pinned (OpenSpec.ofChange elementJumpsSpec)

/-- ITS FALSE NEIGHBOUR: 'it returns false'. Refute it at one input. -/
def elementJumpsWrong : ChangeSpec := { name := "elementJumps", fn := fun _ => fun
  | [d] => { results := [.lit (.bool false)], args := [d] }
  | _ => none }
def ElementJumpsWrongFalsely : Prop := elementJumpsRow.holds Tryz.pinned (OpenSpec.ofChange elementJumpsWrong)

/- THE SECOND FORM. 'bulk': how many values and letters a reading holds, each counted each time it is reached (what is shared counts as often as it is met; a slice's spare places count too). A statement '..UptoSaid' is the law's where the arguments, and the package variables that the reading takes, are together of bulk at most 1048576: NARROWER than '..Said'. Prove '..Said' where nothing that the law and all that it calls make is longer than what came in: it says more and counts as full. Else prove '..UptoSaid'. A law counts once. -/
mutual
def uptoBulk {H : Type} : DataW H → Nat
  | .lit (.string bytes) => bytes.length + 1
  | .lit _ => 1
  | .nil => 1
  | .ptr d => uptoBulk d + 1
  | .slice elems spare => uptoBulkAll elems + uptoBulkAll spare + 1
  | .agg parts => uptoBulkAll parts + 1
  | .iface _ d => uptoBulk d + 1
  | .map entries => uptoBulkEntries entries + 1
  | .held _ => 1
def uptoBulkAll {H : Type} : List (DataW H) → Nat
  | [] => 0
  | d :: r => uptoBulk d + uptoBulkAll r
def uptoBulkEntries {H : Type} : List (Lit × DataW H) → Nat
  | [] => 0
  | x :: r => uptoBulkEntry x + uptoBulkEntries r
def uptoBulkEntry {H : Type} : Lit × DataW H → Nat
  | (.string bytes, d) => bytes.length + uptoBulk d + 1
  | (_, d) => uptoBulk d + 1
 end
def uptoSmall : (H : Type) → List (DataW H) → Bool := fun _ ds => decide (uptoBulkAll ds ≤ 1048576)
def OpenSpec.upto (s : _root_.Go.ChangeSpec) : _root_.Go.OpenSpec := { _root_.Go.OpenSpec.ofChange s with cond := some uptoSmall }

/-- 'gussetlaw04.VecDets', WHERE WHAT IT READS IS OF BULK AT MOST 1048576: true; the input reads as it did. -/
def vecDetsUptoRow : OpenClaim := { program := "ytmklpomcdnflbaagreat", sum := "3e35a5944a4dfbc6406174f5add55282ad15e8f90dab084131c5db82b2aae09a", func := "gusset/gussetlaw04.VecDets", spec := "vecDets", inPlace := ["math/bits.Add64", "math/bits.Sub64", "internal/abi.NoEscape", "internal/bytealg.MakeNoZero"], unfollowed := true, recurses := true, named := ["math/bits.divideError", "math/bits.overflowError"], apart := false, narrowed := true }
def VecDetsUptoSaid : Prop := vecDetsUptoRow.holds Tryz.pinned (OpenSpec.upto vecDetsSpec)

/-- 'gussetlaw04.VecTurned', WHERE WHAT IT READS IS OF BULK AT MOST 1048576: true; the input reads as it did. -/
def vecTurnedUptoRow : OpenClaim := { program := "ytmklpomcdnflbaagreat", sum := "3e35a5944a4dfbc6406174f5add55282ad15e8f90dab084131c5db82b2aae09a", func := "gusset/gussetlaw04.VecTurned", spec := "vecTurned", inPlace := ["math/bits.Add64", "math/bits.Sub64", "internal/abi.NoEscape", "internal/bytealg.MakeNoZero"], unfollowed := true, recurses := true, named := ["math/bits.divideError", "math/bits.overflowError"], apart := false, narrowed := true }
def VecTurnedUptoSaid : Prop := vecTurnedUptoRow.holds Tryz.pinned (OpenSpec.upto vecTurnedSpec)

/-- 'gussetlaw04.VecSquares', WHERE WHAT IT READS IS OF BULK AT MOST 1048576: true; the input reads as it did. -/
def vecSquaresUptoRow : OpenClaim := { program := "ytmklpomcdnflbaagreat", sum := "3e35a5944a4dfbc6406174f5add55282ad15e8f90dab084131c5db82b2aae09a", func := "gusset/gussetlaw04.VecSquares", spec := "vecSquares", inPlace := ["math/bits.Add64", "math/bits.Sub64", "internal/abi.NoEscape", "internal/bytealg.MakeNoZero"], unfollowed := true, recurses := true, named := ["math/bits.divideError", "math/bits.overflowError"], apart := false, narrowed := true }
def VecSquaresUptoSaid : Prop := vecSquaresUptoRow.holds Tryz.pinned (OpenSpec.upto vecSquaresSpec)

/-- 'gussetlaw04.VecScales', WHERE WHAT IT READS IS OF BULK AT MOST 1048576: true; the input reads as it did. -/
def vecScalesUptoRow : OpenClaim := { program := "ytmklpomcdnflbaagreat", sum := "3e35a5944a4dfbc6406174f5add55282ad15e8f90dab084131c5db82b2aae09a", func := "gusset/gussetlaw04.VecScales", spec := "vecScales", inPlace := ["math/bits.Add64", "math/bits.Sub64", "internal/abi.NoEscape", "internal/bytealg.MakeNoZero"], unfollowed := true, recurses := true, named := ["math/bits.divideError", "math/bits.overflowError"], apart := false, narrowed := true }
def VecScalesUptoSaid : Prop := vecScalesUptoRow.holds Tryz.pinned (OpenSpec.upto vecScalesSpec)

/-- 'gussetlaw04.VecLinear', WHERE WHAT IT READS IS OF BULK AT MOST 1048576: true; the input reads as it did. -/
def vecLinearUptoRow : OpenClaim := { program := "ytmklpomcdnflbaagreat", sum := "3e35a5944a4dfbc6406174f5add55282ad15e8f90dab084131c5db82b2aae09a", func := "gusset/gussetlaw04.VecLinear", spec := "vecLinear", inPlace := ["math/bits.Add64", "math/bits.Sub64", "internal/abi.NoEscape", "internal/bytealg.MakeNoZero"], unfollowed := true, recurses := true, named := ["math/bits.divideError", "math/bits.overflowError"], apart := false, narrowed := true }
def VecLinearUptoSaid : Prop := vecLinearUptoRow.holds Tryz.pinned (OpenSpec.upto vecLinearSpec)

/-- 'gussetlaw04.VecReckons', WHERE WHAT IT READS IS OF BULK AT MOST 1048576: true; the input reads as it did. -/
def vecReckonsUptoRow : OpenClaim := { program := "ytmklpomcdnflbaagreat", sum := "3e35a5944a4dfbc6406174f5add55282ad15e8f90dab084131c5db82b2aae09a", func := "gusset/gussetlaw04.VecReckons", spec := "vecReckons", inPlace := ["math/bits.Add64", "math/bits.Sub64", "internal/abi.NoEscape", "internal/bytealg.MakeNoZero"], unfollowed := true, recurses := true, named := ["math/bits.divideError", "math/bits.overflowError"], apart := false, narrowed := true }
def VecReckonsUptoSaid : Prop := vecReckonsUptoRow.holds Tryz.pinned (OpenSpec.upto vecReckonsSpec)

/-- 'gussetlaw17.ElementStiff', WHERE WHAT IT READS IS OF BULK AT MOST 1048576: true; the input reads as it did. -/
def elementStiffUptoRow : OpenClaim := { program := "ytmklpomcdnflbaagreat", sum := "3e35a5944a4dfbc6406174f5add55282ad15e8f90dab084131c5db82b2aae09a", func := "gusset/gussetlaw17.ElementStiff", spec := "elementStiff", inPlace := ["math/bits.Add64", "math/bits.Sub64", "internal/abi.NoEscape", "internal/bytealg.MakeNoZero"], unfollowed := true, recurses := true, named := ["math/bits.divideError", "math/bits.overflowError"], apart := false, narrowed := true }
def ElementStiffUptoSaid : Prop := elementStiffUptoRow.holds Tryz.pinned (OpenSpec.upto elementStiffSpec)

/-- 'gussetlaw17.ElementSlopes', WHERE WHAT IT READS IS OF BULK AT MOST 1048576: true; the input reads as it did. -/
def elementSlopesUptoRow : OpenClaim := { program := "ytmklpomcdnflbaagreat", sum := "3e35a5944a4dfbc6406174f5add55282ad15e8f90dab084131c5db82b2aae09a", func := "gusset/gussetlaw17.ElementSlopes", spec := "elementSlopes", inPlace := ["math/bits.Add64", "math/bits.Sub64", "internal/abi.NoEscape", "internal/bytealg.MakeNoZero"], unfollowed := true, recurses := true, named := ["math/bits.divideError", "math/bits.overflowError"], apart := false, narrowed := true }
def ElementSlopesUptoSaid : Prop := elementSlopesUptoRow.holds Tryz.pinned (OpenSpec.upto elementSlopesSpec)

/-- 'gussetlaw17.ElementSums', WHERE WHAT IT READS IS OF BULK AT MOST 1048576: true; the input reads as it did. -/
def elementSumsUptoRow : OpenClaim := { program := "ytmklpomcdnflbaagreat", sum := "3e35a5944a4dfbc6406174f5add55282ad15e8f90dab084131c5db82b2aae09a", func := "gusset/gussetlaw17.ElementSums", spec := "elementSums", inPlace := ["math/bits.Add64", "math/bits.Sub64", "internal/abi.NoEscape", "internal/bytealg.MakeNoZero"], unfollowed := true, recurses := true, named := ["math/bits.divideError", "math/bits.overflowError"], apart := false, narrowed := true }
def ElementSumsUptoSaid : Prop := elementSumsUptoRow.holds Tryz.pinned (OpenSpec.upto elementSumsSpec)

/-- 'gussetlaw17.ElementMoved', WHERE WHAT IT READS IS OF BULK AT MOST 1048576: true; the input reads as it did. -/
def elementMovedUptoRow : OpenClaim := { program := "ytmklpomcdnflbaagreat", sum := "3e35a5944a4dfbc6406174f5add55282ad15e8f90dab084131c5db82b2aae09a", func := "gusset/gussetlaw17.ElementMoved", spec := "elementMoved", inPlace := ["math/bits.Add64", "math/bits.Sub64", "internal/abi.NoEscape", "internal/bytealg.MakeNoZero"], unfollowed := true, recurses := true, named := ["math/bits.divideError", "math/bits.overflowError"], apart := false, narrowed := true }
def ElementMovedUptoSaid : Prop := elementMovedUptoRow.holds Tryz.pinned (OpenSpec.upto elementMovedSpec)

/-- 'gussetlaw17.ElementLinear', WHERE WHAT IT READS IS OF BULK AT MOST 1048576: true; the input reads as it did. -/
def elementLinearUptoRow : OpenClaim := { program := "ytmklpomcdnflbaagreat", sum := "3e35a5944a4dfbc6406174f5add55282ad15e8f90dab084131c5db82b2aae09a", func := "gusset/gussetlaw17.ElementLinear", spec := "elementLinear", inPlace := ["math/bits.Add64", "math/bits.Sub64", "internal/abi.NoEscape", "internal/bytealg.MakeNoZero"], unfollowed := true, recurses := true, named := ["math/bits.divideError", "math/bits.overflowError"], apart := false, narrowed := true }
def ElementLinearUptoSaid : Prop := elementLinearUptoRow.holds Tryz.pinned (OpenSpec.upto elementLinearSpec)

/-- 'gussetlaw17.ElementJumps', WHERE WHAT IT READS IS OF BULK AT MOST 1048576: true; the input reads as it did. -/
def elementJumpsUptoRow : OpenClaim := { program := "ytmklpomcdnflbaagreat", sum := "3e35a5944a4dfbc6406174f5add55282ad15e8f90dab084131c5db82b2aae09a", func := "gusset/gussetlaw17.ElementJumps", spec := "elementJumps", inPlace := ["math/bits.Add64", "math/bits.Sub64", "internal/abi.NoEscape", "internal/bytealg.MakeNoZero"], unfollowed := true, recurses := true, named := ["math/bits.divideError", "math/bits.overflowError"], apart := false, narrowed := true }
def ElementJumpsUptoSaid : Prop := elementJumpsUptoRow.holds Tryz.pinned (OpenSpec.upto elementJumpsSpec)

end Rows
end Go.Proofs.YtmklpomcdnflbaaGreat
