/-
  NARROWER THAN 'FOR EVERY INPUT', by the rows' own cells (each row's printed sentence says how): PolyIntegrals: laid · PolyLinear: laid · PolyParts: laid · PolyHalves: laid · PolyValues: laid.
  DERIVED. THE GIVEN ROWS OF THIS SEAT. 5 by the template 'for every input the law returns true; each argument reads behind the call as it read before'; 0 by the template 'total and deterministic' (their statements: YtcpmkohlmjakmaaGreatDoorTotals.lean).
  GIVEN WITH THE SEED: the statements are not yours to turn. If you find one false, say at which input.
  Laid BY PROGRAM, IN A SANDBOX (cutbox-rows.mjs): the forced cells as the released guide's own fill.sh prints them over the translation fc85dba4de16af58… (all of the seat's roots in one cut). By AI agents, Wed Nov 11 2026. No macro, syntax, notation, axiom, sorry.
-/
import Derived.Test.YtcpmkohlmjakmaaGreatDoorChecked
import GoSem.Claim
import GoSem.ClaimJoined
import GoSem.ClaimMapViews
import Derived.JoinedTies
import Derived.KernelRfl
namespace Go.Proofs.YtcpmkohlmjakmaaGreatDoor
/- THE CELL 'sum', in the pinned program and in every row, IS THE sha256 OF THE DUMP (.gsa) THAT YtcpmkohlmjakmaaGreatDoorProg.lean LOADS. Nothing in Lean hashes anything: it is a label: what it is worth is what the hold of that sum in a sandbox is worth. -/
noncomputable def Tryz.pinned : Pinned := { name := "ytcpmkohlmjakmaagreatdoor", sum := "fc85dba4de16af581565dce50bd004db9b6d4e8afa26c79c0f42932b7a1cfd74", checked := Tryz.checked }
namespace Rows
def none {H : Type} : Left H := { results := [], args := [] }

/- WHAT THE LISTED PACKAGE-LEVEL VARIABLES READ AS WHEN THE CALL BEGINS. Each datum BY PROGRAM (the guide's laid-datum.mjs) off the statement by which the dump's own 'gosem.cut.vars' lays the variable. In a bare row this is a premise. The card (YtcpmkohlmjakmaaGreatDoorCards.lean) ties it to the program's text. -/
def laid_gusset_poly_loads {H : Type} : DataW H := .agg [.agg [.lit (.int .i64 2), .lit (.int .i64 (-1)), .lit (.int .i64 (-1)), .lit (.int .i64 4), .lit (.int .i64 8), .lit (.int .i64 8)], .agg [.lit (.int .i64 (-1)), .lit (.int .i64 2), .lit (.int .i64 (-1)), .lit (.int .i64 8), .lit (.int .i64 4), .lit (.int .i64 8)], .agg [.lit (.int .i64 (-1)), .lit (.int .i64 (-1)), .lit (.int .i64 2), .lit (.int .i64 8), .lit (.int .i64 8), .lit (.int .i64 4)]]
def laid_gusset_poly_squares {H : Type} : DataW H := .agg [.agg [.lit (.int .i64 6), .lit (.int .i64 (-1)), .lit (.int .i64 (-1)), .lit (.int .i64 (-4)), .lit (.int .i64 0), .lit (.int .i64 0)], .agg [.lit (.int .i64 (-1)), .lit (.int .i64 6), .lit (.int .i64 (-1)), .lit (.int .i64 0), .lit (.int .i64 (-4)), .lit (.int .i64 0)], .agg [.lit (.int .i64 (-1)), .lit (.int .i64 (-1)), .lit (.int .i64 6), .lit (.int .i64 0), .lit (.int .i64 0), .lit (.int .i64 (-4))], .agg [.lit (.int .i64 (-4)), .lit (.int .i64 0), .lit (.int .i64 0), .lit (.int .i64 32), .lit (.int .i64 16), .lit (.int .i64 16)], .agg [.lit (.int .i64 0), .lit (.int .i64 (-4)), .lit (.int .i64 0), .lit (.int .i64 16), .lit (.int .i64 32), .lit (.int .i64 16)], .agg [.lit (.int .i64 0), .lit (.int .i64 0), .lit (.int .i64 (-4)), .lit (.int .i64 16), .lit (.int .i64 16), .lit (.int .i64 32)]]

/-- 'gussetlaw07.PolyIntegrals': WHATEVER THE INPUT: true; the input reads as it did. -/
def polyIntegralsSpec : ChangeSpec := { name := "polyIntegrals", fn := fun _ => fun
  | [d1, d2] => { results := [.lit (.bool true)], args := [d1, d2] }
  | _ => none }
def polyIntegralsRow : OpenClaim := { program := "ytcpmkohlmjakmaagreatdoor", sum := "fc85dba4de16af581565dce50bd004db9b6d4e8afa26c79c0f42932b7a1cfd74", func := "gusset/gussetlaw07.PolyIntegrals", spec := "polyIntegrals", inPlace := ["math/bits.Add64", "math/bits.Sub64", "internal/abi.NoEscape", "internal/bytealg.MakeNoZero"], unfollowed := true, recurses := true, named := ["math/bits.divideError", "math/bits.overflowError", "gusset/poly.squares", "gusset/poly.loads"], apart := false, laid := [("gusset/poly.loads", laid_gusset_poly_loads), ("gusset/poly.squares", laid_gusset_poly_squares)] }
def PolyIntegralsSaid : Prop := polyIntegralsRow.holds Tryz.pinned (OpenSpec.ofChange polyIntegralsSpec)

/-- ITS FALSE NEIGHBOUR: 'it returns false'. Refute it at one input. -/
def polyIntegralsWrong : ChangeSpec := { name := "polyIntegrals", fn := fun _ => fun
  | [d1, d2] => { results := [.lit (.bool false)], args := [d1, d2] }
  | _ => none }
def PolyIntegralsWrongFalsely : Prop := polyIntegralsRow.holds Tryz.pinned (OpenSpec.ofChange polyIntegralsWrong)

/-- 'gussetlaw07.PolyLinear': WHATEVER THE INPUT: true; the input reads as it did. -/
def polyLinearSpec : ChangeSpec := { name := "polyLinear", fn := fun _ => fun
  | [d1, d2, d3] => { results := [.lit (.bool true)], args := [d1, d2, d3] }
  | _ => none }
def polyLinearRow : OpenClaim := { program := "ytcpmkohlmjakmaagreatdoor", sum := "fc85dba4de16af581565dce50bd004db9b6d4e8afa26c79c0f42932b7a1cfd74", func := "gusset/gussetlaw07.PolyLinear", spec := "polyLinear", inPlace := ["math/bits.Add64", "math/bits.Sub64", "internal/abi.NoEscape", "internal/bytealg.MakeNoZero"], unfollowed := true, recurses := true, named := ["math/bits.divideError", "math/bits.overflowError", "gusset/poly.squares", "gusset/poly.loads"], apart := false, laid := [("gusset/poly.loads", laid_gusset_poly_loads), ("gusset/poly.squares", laid_gusset_poly_squares)] }
def PolyLinearSaid : Prop := polyLinearRow.holds Tryz.pinned (OpenSpec.ofChange polyLinearSpec)

/-- ITS FALSE NEIGHBOUR: 'it returns false'. Refute it at one input. -/
def polyLinearWrong : ChangeSpec := { name := "polyLinear", fn := fun _ => fun
  | [d1, d2, d3] => { results := [.lit (.bool false)], args := [d1, d2, d3] }
  | _ => none }
def PolyLinearWrongFalsely : Prop := polyLinearRow.holds Tryz.pinned (OpenSpec.ofChange polyLinearWrong)

/-- 'gussetlaw07.PolyParts': WHATEVER THE INPUT: true; the input reads as it did. -/
def polyPartsSpec : ChangeSpec := { name := "polyParts", fn := fun _ => fun
  | [d1, d2] => { results := [.lit (.bool true)], args := [d1, d2] }
  | _ => none }
def polyPartsRow : OpenClaim := { program := "ytcpmkohlmjakmaagreatdoor", sum := "fc85dba4de16af581565dce50bd004db9b6d4e8afa26c79c0f42932b7a1cfd74", func := "gusset/gussetlaw07.PolyParts", spec := "polyParts", inPlace := ["math/bits.Add64", "math/bits.Sub64", "internal/abi.NoEscape", "internal/bytealg.MakeNoZero"], unfollowed := true, recurses := true, named := ["math/bits.divideError", "math/bits.overflowError", "gusset/poly.squares", "gusset/poly.loads"], apart := false, laid := [("gusset/poly.loads", laid_gusset_poly_loads), ("gusset/poly.squares", laid_gusset_poly_squares)] }
def PolyPartsSaid : Prop := polyPartsRow.holds Tryz.pinned (OpenSpec.ofChange polyPartsSpec)

/-- ITS FALSE NEIGHBOUR: 'it returns false'. Refute it at one input. -/
def polyPartsWrong : ChangeSpec := { name := "polyParts", fn := fun _ => fun
  | [d1, d2] => { results := [.lit (.bool false)], args := [d1, d2] }
  | _ => none }
def PolyPartsWrongFalsely : Prop := polyPartsRow.holds Tryz.pinned (OpenSpec.ofChange polyPartsWrong)

/-- 'gussetlaw07.PolyHalves': WHATEVER THE INPUT: true; the input reads as it did. -/
def polyHalvesSpec : ChangeSpec := { name := "polyHalves", fn := fun _ => fun
  | [d] => { results := [.lit (.bool true)], args := [d] }
  | _ => none }
def polyHalvesRow : OpenClaim := { program := "ytcpmkohlmjakmaagreatdoor", sum := "fc85dba4de16af581565dce50bd004db9b6d4e8afa26c79c0f42932b7a1cfd74", func := "gusset/gussetlaw07.PolyHalves", spec := "polyHalves", inPlace := ["math/bits.Add64", "math/bits.Sub64", "internal/abi.NoEscape", "internal/bytealg.MakeNoZero"], unfollowed := true, recurses := true, named := ["math/bits.divideError", "math/bits.overflowError", "gusset/poly.squares", "gusset/poly.loads"], apart := false, laid := [("gusset/poly.loads", laid_gusset_poly_loads), ("gusset/poly.squares", laid_gusset_poly_squares)] }
def PolyHalvesSaid : Prop := polyHalvesRow.holds Tryz.pinned (OpenSpec.ofChange polyHalvesSpec)

/-- ITS FALSE NEIGHBOUR: 'it returns false'. Refute it at one input. -/
def polyHalvesWrong : ChangeSpec := { name := "polyHalves", fn := fun _ => fun
  | [d] => { results := [.lit (.bool false)], args := [d] }
  | _ => none }
def PolyHalvesWrongFalsely : Prop := polyHalvesRow.holds Tryz.pinned (OpenSpec.ofChange polyHalvesWrong)

/-- 'gussetlaw07.PolyValues': WHATEVER THE INPUT: true; the input reads as it did. -/
def polyValuesSpec : ChangeSpec := { name := "polyValues", fn := fun _ => fun
  | [d1, d2] => { results := [.lit (.bool true)], args := [d1, d2] }
  | _ => none }
def polyValuesRow : OpenClaim := { program := "ytcpmkohlmjakmaagreatdoor", sum := "fc85dba4de16af581565dce50bd004db9b6d4e8afa26c79c0f42932b7a1cfd74", func := "gusset/gussetlaw07.PolyValues", spec := "polyValues", inPlace := ["math/bits.Add64", "math/bits.Sub64", "internal/abi.NoEscape", "internal/bytealg.MakeNoZero"], unfollowed := true, recurses := true, named := ["math/bits.divideError", "math/bits.overflowError", "gusset/poly.squares", "gusset/poly.loads"], apart := false, laid := [("gusset/poly.loads", laid_gusset_poly_loads), ("gusset/poly.squares", laid_gusset_poly_squares)] }
def PolyValuesSaid : Prop := polyValuesRow.holds Tryz.pinned (OpenSpec.ofChange polyValuesSpec)

/-- ITS FALSE NEIGHBOUR: 'it returns false'. Refute it at one input. -/
def polyValuesWrong : ChangeSpec := { name := "polyValues", fn := fun _ => fun
  | [d1, d2] => { results := [.lit (.bool false)], args := [d1, d2] }
  | _ => none }
def PolyValuesWrongFalsely : Prop := polyValuesRow.holds Tryz.pinned (OpenSpec.ofChange polyValuesWrong)

/- THE SECOND FORM. 'bulk': how many values and letters a reading holds, each counted each time it is reached (what is shared counts as often as it is met; a slice's spare places count too). A statement '..UptoSaid' is the law's where the arguments, and the package variables that the reading takes, are together of bulk at most 1048576: NARROWER than '..Said'. Prove '..Said' where nothing that the law and all that it calls make is longer than what came in: it says more and counts as full. Else prove '..UptoSaid'. A law counts once. -/
mutual
def uptoBulk {H : Type} : DataW H → Nat
  | .lit (.string bytes) => bytes.length + 1
  | .lit _ => 1
  | .nil => 1
  | .ptr d => uptoBulk d + 1
  | .slice elems spare => uptoBulkAll elems + uptoBulkAll spare + 1
  | .agg parts => uptoBulkAll parts + 1
  | .iface _ d => uptoBulk d + 1
  | .map entries => uptoBulkEntries entries + 1
  | .held _ => 1
def uptoBulkAll {H : Type} : List (DataW H) → Nat
  | [] => 0
  | d :: r => uptoBulk d + uptoBulkAll r
def uptoBulkEntries {H : Type} : List (Lit × DataW H) → Nat
  | [] => 0
  | x :: r => uptoBulkEntry x + uptoBulkEntries r
def uptoBulkEntry {H : Type} : Lit × DataW H → Nat
  | (.string bytes, d) => bytes.length + uptoBulk d + 1
  | (_, d) => uptoBulk d + 1
 end
def uptoSmall : (H : Type) → List (DataW H) → Bool := fun _ ds => decide (uptoBulkAll ds ≤ 1048576)
def OpenSpec.upto (s : _root_.Go.ChangeSpec) : _root_.Go.OpenSpec := { _root_.Go.OpenSpec.ofChange s with cond := some uptoSmall }

/-- 'gussetlaw07.PolyIntegrals', WHERE WHAT IT READS IS OF BULK AT MOST 1048576: true; the input reads as it did. -/
def polyIntegralsUptoRow : OpenClaim := { program := "ytcpmkohlmjakmaagreatdoor", sum := "fc85dba4de16af581565dce50bd004db9b6d4e8afa26c79c0f42932b7a1cfd74", func := "gusset/gussetlaw07.PolyIntegrals", spec := "polyIntegrals", inPlace := ["math/bits.Add64", "math/bits.Sub64", "internal/abi.NoEscape", "internal/bytealg.MakeNoZero"], unfollowed := true, recurses := true, named := ["math/bits.divideError", "math/bits.overflowError", "gusset/poly.squares", "gusset/poly.loads"], apart := false, laid := [("gusset/poly.loads", laid_gusset_poly_loads), ("gusset/poly.squares", laid_gusset_poly_squares)], narrowed := true }
def PolyIntegralsUptoSaid : Prop := polyIntegralsUptoRow.holds Tryz.pinned (OpenSpec.upto polyIntegralsSpec)

/-- 'gussetlaw07.PolyLinear', WHERE WHAT IT READS IS OF BULK AT MOST 1048576: true; the input reads as it did. -/
def polyLinearUptoRow : OpenClaim := { program := "ytcpmkohlmjakmaagreatdoor", sum := "fc85dba4de16af581565dce50bd004db9b6d4e8afa26c79c0f42932b7a1cfd74", func := "gusset/gussetlaw07.PolyLinear", spec := "polyLinear", inPlace := ["math/bits.Add64", "math/bits.Sub64", "internal/abi.NoEscape", "internal/bytealg.MakeNoZero"], unfollowed := true, recurses := true, named := ["math/bits.divideError", "math/bits.overflowError", "gusset/poly.squares", "gusset/poly.loads"], apart := false, laid := [("gusset/poly.loads", laid_gusset_poly_loads), ("gusset/poly.squares", laid_gusset_poly_squares)], narrowed := true }
def PolyLinearUptoSaid : Prop := polyLinearUptoRow.holds Tryz.pinned (OpenSpec.upto polyLinearSpec)

/-- 'gussetlaw07.PolyParts', WHERE WHAT IT READS IS OF BULK AT MOST 1048576: true; the input reads as it did. -/
def polyPartsUptoRow : OpenClaim := { program := "ytcpmkohlmjakmaagreatdoor", sum := "fc85dba4de16af581565dce50bd004db9b6d4e8afa26c79c0f42932b7a1cfd74", func := "gusset/gussetlaw07.PolyParts", spec := "polyParts", inPlace := ["math/bits.Add64", "math/bits.Sub64", "internal/abi.NoEscape", "internal/bytealg.MakeNoZero"], unfollowed := true, recurses := true, named := ["math/bits.divideError", "math/bits.overflowError", "gusset/poly.squares", "gusset/poly.loads"], apart := false, laid := [("gusset/poly.loads", laid_gusset_poly_loads), ("gusset/poly.squares", laid_gusset_poly_squares)], narrowed := true }
def PolyPartsUptoSaid : Prop := polyPartsUptoRow.holds Tryz.pinned (OpenSpec.upto polyPartsSpec)

/-- 'gussetlaw07.PolyHalves', WHERE WHAT IT READS IS OF BULK AT MOST 1048576: true; the input reads as it did. -/
def polyHalvesUptoRow : OpenClaim := { program := "ytcpmkohlmjakmaagreatdoor", sum := "fc85dba4de16af581565dce50bd004db9b6d4e8afa26c79c0f42932b7a1cfd74", func := "gusset/gussetlaw07.PolyHalves", spec := "polyHalves", inPlace := ["math/bits.Add64", "math/bits.Sub64", "internal/abi.NoEscape", "internal/bytealg.MakeNoZero"], unfollowed := true, recurses := true, named := ["math/bits.divideError", "math/bits.overflowError", "gusset/poly.squares", "gusset/poly.loads"], apart := false, laid := [("gusset/poly.loads", laid_gusset_poly_loads), ("gusset/poly.squares", laid_gusset_poly_squares)], narrowed := true }
def PolyHalvesUptoSaid : Prop := polyHalvesUptoRow.holds Tryz.pinned (OpenSpec.upto polyHalvesSpec)

/-- 'gussetlaw07.PolyValues', WHERE WHAT IT READS IS OF BULK AT MOST 1048576: true; the input reads as it did. -/
def polyValuesUptoRow : OpenClaim := { program := "ytcpmkohlmjakmaagreatdoor", sum := "fc85dba4de16af581565dce50bd004db9b6d4e8afa26c79c0f42932b7a1cfd74", func := "gusset/gussetlaw07.PolyValues", spec := "polyValues", inPlace := ["math/bits.Add64", "math/bits.Sub64", "internal/abi.NoEscape", "internal/bytealg.MakeNoZero"], unfollowed := true, recurses := true, named := ["math/bits.divideError", "math/bits.overflowError", "gusset/poly.squares", "gusset/poly.loads"], apart := false, laid := [("gusset/poly.loads", laid_gusset_poly_loads), ("gusset/poly.squares", laid_gusset_poly_squares)], narrowed := true }
def PolyValuesUptoSaid : Prop := polyValuesUptoRow.holds Tryz.pinned (OpenSpec.upto polyValuesSpec)

end Rows
end Go.Proofs.YtcpmkohlmjakmaaGreatDoor
