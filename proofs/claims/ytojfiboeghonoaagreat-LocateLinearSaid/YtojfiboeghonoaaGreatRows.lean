/-
  No cell of these rows narrows 'for every input' (looked for: loops, veiled, ifaces, maps, wideKeys, modest, calm, conditions, laid).
  DERIVED. THE GIVEN ROWS OF THIS SEAT. 7 by the template 'for every input the law returns true; each argument reads behind the call as it read before'; 0 by the template 'total and deterministic' (their statements: YtojfiboeghonoaaGreatTotals.lean).
  GIVEN WITH THE SEED: the statements are not yours to turn. If you find one false, say at which input.
  Laid BY PROGRAM, IN A SANDBOX (cutbox-rows.mjs): the forced cells as the released guide's own fill.sh prints them over the translation 83c555c90529e9f1… (all of the seat's roots in one cut). By AI agents, Wed Nov 11 2026. No macro, syntax, notation, axiom, sorry.
-/
import Derived.Test.YtojfiboeghonoaaGreatChecked
import GoSem.Claim
import GoSem.ClaimJoined
import GoSem.ClaimMapViews
import Derived.JoinedTies
import Derived.KernelRfl
namespace Go.Proofs.YtojfiboeghonoaaGreat
/- THE CELL 'sum', in the pinned program and in every row, IS THE sha256 OF THE DUMP (.gsa) THAT YtojfiboeghonoaaGreatProg.lean LOADS. Nothing in Lean hashes anything: it is a label: what it is worth is what the hold of that sum in a sandbox is worth. -/
noncomputable def Tryz.pinned : Pinned := { name := "ytojfiboeghonoaagreat", sum := "83c555c90529e9f15172394c43db48f41a44810eb06c3c6d29cfb4deb1325d3f", checked := Tryz.checked }
namespace Rows
def none {H : Type} : Left H := { results := [], args := [] }

/-- 'gussetlaw12.LocateFinds': WHATEVER THE INPUT: true; the input reads as it did. -/
def locateFindsSpec : ChangeSpec := { name := "locateFinds", fn := fun _ => fun
  | [d1, d2] => { results := [.lit (.bool true)], args := [d1, d2] }
  | _ => none }
def locateFindsRow : OpenClaim := { program := "ytojfiboeghonoaagreat", sum := "83c555c90529e9f15172394c43db48f41a44810eb06c3c6d29cfb4deb1325d3f", func := "gusset/gussetlaw12.LocateFinds", spec := "locateFinds", inPlace := ["math/bits.Add64", "math/bits.Sub64", "internal/abi.NoEscape", "internal/bytealg.MakeNoZero"], unfollowed := true, recurses := true, named := ["math/bits.divideError", "math/bits.overflowError"], plainKeys := false, apart := false }
def LocateFindsSaid : Prop := locateFindsRow.holds Tryz.pinned (OpenSpec.ofChange locateFindsSpec)

/-- ITS FALSE NEIGHBOUR: 'it returns false'. Refute it at one input. -/
def locateFindsWrong : ChangeSpec := { name := "locateFinds", fn := fun _ => fun
  | [d1, d2] => { results := [.lit (.bool false)], args := [d1, d2] }
  | _ => none }
def LocateFindsWrongFalsely : Prop := locateFindsRow.holds Tryz.pinned (OpenSpec.ofChange locateFindsWrong)

/-- 'gussetlaw12.LocateWalks': WHATEVER THE INPUT: true; the input reads as it did. -/
def locateWalksSpec : ChangeSpec := { name := "locateWalks", fn := fun _ => fun
  | [d1, d2, d3] => { results := [.lit (.bool true)], args := [d1, d2, d3] }
  | _ => none }
def locateWalksRow : OpenClaim := { program := "ytojfiboeghonoaagreat", sum := "83c555c90529e9f15172394c43db48f41a44810eb06c3c6d29cfb4deb1325d3f", func := "gusset/gussetlaw12.LocateWalks", spec := "locateWalks", inPlace := ["math/bits.Add64", "math/bits.Sub64", "internal/abi.NoEscape", "internal/bytealg.MakeNoZero"], unfollowed := true, recurses := true, named := ["math/bits.divideError", "math/bits.overflowError"], plainKeys := false, apart := false }
def LocateWalksSaid : Prop := locateWalksRow.holds Tryz.pinned (OpenSpec.ofChange locateWalksSpec)

/-- ITS FALSE NEIGHBOUR: 'it returns false'. Refute it at one input. -/
def locateWalksWrong : ChangeSpec := { name := "locateWalks", fn := fun _ => fun
  | [d1, d2, d3] => { results := [.lit (.bool false)], args := [d1, d2, d3] }
  | _ => none }
def LocateWalksWrongFalsely : Prop := locateWalksRow.holds Tryz.pinned (OpenSpec.ofChange locateWalksWrong)

/-- 'gussetlaw12.LocateFans': WHATEVER THE INPUT: true; the input reads as it did. -/
def locateFansSpec : ChangeSpec := { name := "locateFans", fn := fun _ => fun
  | [d1, d2] => { results := [.lit (.bool true)], args := [d1, d2] }
  | _ => none }
def locateFansRow : OpenClaim := { program := "ytojfiboeghonoaagreat", sum := "83c555c90529e9f15172394c43db48f41a44810eb06c3c6d29cfb4deb1325d3f", func := "gusset/gussetlaw12.LocateFans", spec := "locateFans", inPlace := ["math/bits.Add64", "math/bits.Sub64", "internal/abi.NoEscape", "internal/bytealg.MakeNoZero"], unfollowed := true, recurses := true, named := ["math/bits.divideError", "math/bits.overflowError"], plainKeys := false, apart := false }
def LocateFansSaid : Prop := locateFansRow.holds Tryz.pinned (OpenSpec.ofChange locateFansSpec)

/-- ITS FALSE NEIGHBOUR: 'it returns false'. Refute it at one input. -/
def locateFansWrong : ChangeSpec := { name := "locateFans", fn := fun _ => fun
  | [d1, d2] => { results := [.lit (.bool false)], args := [d1, d2] }
  | _ => none }
def LocateFansWrongFalsely : Prop := locateFansRow.holds Tryz.pinned (OpenSpec.ofChange locateFansWrong)

/-- 'gussetlaw12.LocateValues': WHATEVER THE INPUT: true; the input reads as it did. -/
def locateValuesSpec : ChangeSpec := { name := "locateValues", fn := fun _ => fun
  | [d1, d2, d3] => { results := [.lit (.bool true)], args := [d1, d2, d3] }
  | _ => none }
def locateValuesRow : OpenClaim := { program := "ytojfiboeghonoaagreat", sum := "83c555c90529e9f15172394c43db48f41a44810eb06c3c6d29cfb4deb1325d3f", func := "gusset/gussetlaw12.LocateValues", spec := "locateValues", inPlace := ["math/bits.Add64", "math/bits.Sub64", "internal/abi.NoEscape", "internal/bytealg.MakeNoZero"], unfollowed := true, recurses := true, named := ["math/bits.divideError", "math/bits.overflowError"], plainKeys := false, apart := false }
def LocateValuesSaid : Prop := locateValuesRow.holds Tryz.pinned (OpenSpec.ofChange locateValuesSpec)

/-- ITS FALSE NEIGHBOUR: 'it returns false'. Refute it at one input. -/
def locateValuesWrong : ChangeSpec := { name := "locateValues", fn := fun _ => fun
  | [d1, d2, d3] => { results := [.lit (.bool false)], args := [d1, d2, d3] }
  | _ => none }
def LocateValuesWrongFalsely : Prop := locateValuesRow.holds Tryz.pinned (OpenSpec.ofChange locateValuesWrong)

/-- 'gussetlaw12.LocateEnds': WHATEVER THE INPUT: true; the input reads as it did. -/
def locateEndsSpec : ChangeSpec := { name := "locateEnds", fn := fun _ => fun
  | [d1, d2, d3] => { results := [.lit (.bool true)], args := [d1, d2, d3] }
  | _ => none }
def locateEndsRow : OpenClaim := { program := "ytojfiboeghonoaagreat", sum := "83c555c90529e9f15172394c43db48f41a44810eb06c3c6d29cfb4deb1325d3f", func := "gusset/gussetlaw12.LocateEnds", spec := "locateEnds", inPlace := ["math/bits.Add64", "math/bits.Sub64", "internal/abi.NoEscape", "internal/bytealg.MakeNoZero"], unfollowed := true, recurses := true, named := ["math/bits.divideError", "math/bits.overflowError"], plainKeys := false, apart := false }
def LocateEndsSaid : Prop := locateEndsRow.holds Tryz.pinned (OpenSpec.ofChange locateEndsSpec)

/-- ITS FALSE NEIGHBOUR: 'it returns false'. Refute it at one input. -/
def locateEndsWrong : ChangeSpec := { name := "locateEnds", fn := fun _ => fun
  | [d1, d2, d3] => { results := [.lit (.bool false)], args := [d1, d2, d3] }
  | _ => none }
def LocateEndsWrongFalsely : Prop := locateEndsRow.holds Tryz.pinned (OpenSpec.ofChange locateEndsWrong)

/-- 'gussetlaw12.LocateLinear': WHATEVER THE INPUT: true; the input reads as it did. -/
def locateLinearSpec : ChangeSpec := { name := "locateLinear", fn := fun _ => fun
  | [d1, d2, d3] => { results := [.lit (.bool true)], args := [d1, d2, d3] }
  | _ => none }
def locateLinearRow : OpenClaim := { program := "ytojfiboeghonoaagreat", sum := "83c555c90529e9f15172394c43db48f41a44810eb06c3c6d29cfb4deb1325d3f", func := "gusset/gussetlaw12.LocateLinear", spec := "locateLinear", inPlace := ["math/bits.Add64", "math/bits.Sub64", "internal/abi.NoEscape", "internal/bytealg.MakeNoZero"], unfollowed := true, recurses := true, named := ["math/bits.divideError", "math/bits.overflowError"], plainKeys := false, apart := false }
def LocateLinearSaid : Prop := locateLinearRow.holds Tryz.pinned (OpenSpec.ofChange locateLinearSpec)

/-- ITS FALSE NEIGHBOUR: 'it returns false'. Refute it at one input. -/
def locateLinearWrong : ChangeSpec := { name := "locateLinear", fn := fun _ => fun
  | [d1, d2, d3] => { results := [.lit (.bool false)], args := [d1, d2, d3] }
  | _ => none }
def LocateLinearWrongFalsely : Prop := locateLinearRow.holds Tryz.pinned (OpenSpec.ofChange locateLinearWrong)

/-- 'gussetlaw12.LocateHome': WHATEVER THE INPUT: true; the input reads as it did. -/
def locateHomeSpec : ChangeSpec := { name := "locateHome", fn := fun _ => fun
  | [d1, d2] => { results := [.lit (.bool true)], args := [d1, d2] }
  | _ => none }
def locateHomeRow : OpenClaim := { program := "ytojfiboeghonoaagreat", sum := "83c555c90529e9f15172394c43db48f41a44810eb06c3c6d29cfb4deb1325d3f", func := "gusset/gussetlaw12.LocateHome", spec := "locateHome", inPlace := ["math/bits.Add64", "math/bits.Sub64", "internal/abi.NoEscape", "internal/bytealg.MakeNoZero"], unfollowed := true, recurses := true, named := ["math/bits.divideError", "math/bits.overflowError"], plainKeys := false, apart := false }
def LocateHomeSaid : Prop := locateHomeRow.holds Tryz.pinned (OpenSpec.ofChange locateHomeSpec)

/-- ITS FALSE NEIGHBOUR: 'it returns false'. Refute it at one input. -/
def locateHomeWrong : ChangeSpec := { name := "locateHome", fn := fun _ => fun
  | [d1, d2] => { results := [.lit (.bool false)], args := [d1, d2] }
  | _ => none }
def LocateHomeWrongFalsely : Prop := locateHomeRow.holds Tryz.pinned (OpenSpec.ofChange locateHomeWrong)

/- THE SECOND FORM. 'bulk': how many values and letters a reading holds, each counted each time it is reached (what is shared counts as often as it is met; a slice's spare places count too). A statement '..UptoSaid' is the law's where the arguments, and the package variables that the reading takes, are together of bulk at most 1048576: NARROWER than '..Said'. Prove '..Said' where nothing that the law and all that it calls make is longer than what came in: it says more and counts as full. Else prove '..UptoSaid'. A law counts once. -/
mutual
def uptoBulk {H : Type} : DataW H → Nat
  | .lit (.string bytes) => bytes.length + 1
  | .lit _ => 1
  | .nil => 1
  | .ptr d => uptoBulk d + 1
  | .slice elems spare => uptoBulkAll elems + uptoBulkAll spare + 1
  | .agg parts => uptoBulkAll parts + 1
  | .iface _ d => uptoBulk d + 1
  | .map entries => uptoBulkEntries entries + 1
  | .held _ => 1
def uptoBulkAll {H : Type} : List (DataW H) → Nat
  | [] => 0
  | d :: r => uptoBulk d + uptoBulkAll r
def uptoBulkEntries {H : Type} : List (Lit × DataW H) → Nat
  | [] => 0
  | x :: r => uptoBulkEntry x + uptoBulkEntries r
def uptoBulkEntry {H : Type} : Lit × DataW H → Nat
  | (.string bytes, d) => bytes.length + uptoBulk d + 1
  | (_, d) => uptoBulk d + 1
 end
def uptoSmall : (H : Type) → List (DataW H) → Bool := fun _ ds => decide (uptoBulkAll ds ≤ 1048576)
def OpenSpec.upto (s : _root_.Go.ChangeSpec) : _root_.Go.OpenSpec := { _root_.Go.OpenSpec.ofChange s with cond := some uptoSmall }

/-- 'gussetlaw12.LocateFinds', WHERE WHAT IT READS IS OF BULK AT MOST 1048576: true; the input reads as it did. -/
def locateFindsUptoRow : OpenClaim := { program := "ytojfiboeghonoaagreat", sum := "83c555c90529e9f15172394c43db48f41a44810eb06c3c6d29cfb4deb1325d3f", func := "gusset/gussetlaw12.LocateFinds", spec := "locateFinds", inPlace := ["math/bits.Add64", "math/bits.Sub64", "internal/abi.NoEscape", "internal/bytealg.MakeNoZero"], unfollowed := true, recurses := true, named := ["math/bits.divideError", "math/bits.overflowError"], plainKeys := false, apart := false, narrowed := true }
def LocateFindsUptoSaid : Prop := locateFindsUptoRow.holds Tryz.pinned (OpenSpec.upto locateFindsSpec)

/-- 'gussetlaw12.LocateWalks', WHERE WHAT IT READS IS OF BULK AT MOST 1048576: true; the input reads as it did. -/
def locateWalksUptoRow : OpenClaim := { program := "ytojfiboeghonoaagreat", sum := "83c555c90529e9f15172394c43db48f41a44810eb06c3c6d29cfb4deb1325d3f", func := "gusset/gussetlaw12.LocateWalks", spec := "locateWalks", inPlace := ["math/bits.Add64", "math/bits.Sub64", "internal/abi.NoEscape", "internal/bytealg.MakeNoZero"], unfollowed := true, recurses := true, named := ["math/bits.divideError", "math/bits.overflowError"], plainKeys := false, apart := false, narrowed := true }
def LocateWalksUptoSaid : Prop := locateWalksUptoRow.holds Tryz.pinned (OpenSpec.upto locateWalksSpec)

/-- 'gussetlaw12.LocateFans', WHERE WHAT IT READS IS OF BULK AT MOST 1048576: true; the input reads as it did. -/
def locateFansUptoRow : OpenClaim := { program := "ytojfiboeghonoaagreat", sum := "83c555c90529e9f15172394c43db48f41a44810eb06c3c6d29cfb4deb1325d3f", func := "gusset/gussetlaw12.LocateFans", spec := "locateFans", inPlace := ["math/bits.Add64", "math/bits.Sub64", "internal/abi.NoEscape", "internal/bytealg.MakeNoZero"], unfollowed := true, recurses := true, named := ["math/bits.divideError", "math/bits.overflowError"], plainKeys := false, apart := false, narrowed := true }
def LocateFansUptoSaid : Prop := locateFansUptoRow.holds Tryz.pinned (OpenSpec.upto locateFansSpec)

/-- 'gussetlaw12.LocateValues', WHERE WHAT IT READS IS OF BULK AT MOST 1048576: true; the input reads as it did. -/
def locateValuesUptoRow : OpenClaim := { program := "ytojfiboeghonoaagreat", sum := "83c555c90529e9f15172394c43db48f41a44810eb06c3c6d29cfb4deb1325d3f", func := "gusset/gussetlaw12.LocateValues", spec := "locateValues", inPlace := ["math/bits.Add64", "math/bits.Sub64", "internal/abi.NoEscape", "internal/bytealg.MakeNoZero"], unfollowed := true, recurses := true, named := ["math/bits.divideError", "math/bits.overflowError"], plainKeys := false, apart := false, narrowed := true }
def LocateValuesUptoSaid : Prop := locateValuesUptoRow.holds Tryz.pinned (OpenSpec.upto locateValuesSpec)

/-- 'gussetlaw12.LocateEnds', WHERE WHAT IT READS IS OF BULK AT MOST 1048576: true; the input reads as it did. -/
def locateEndsUptoRow : OpenClaim := { program := "ytojfiboeghonoaagreat", sum := "83c555c90529e9f15172394c43db48f41a44810eb06c3c6d29cfb4deb1325d3f", func := "gusset/gussetlaw12.LocateEnds", spec := "locateEnds", inPlace := ["math/bits.Add64", "math/bits.Sub64", "internal/abi.NoEscape", "internal/bytealg.MakeNoZero"], unfollowed := true, recurses := true, named := ["math/bits.divideError", "math/bits.overflowError"], plainKeys := false, apart := false, narrowed := true }
def LocateEndsUptoSaid : Prop := locateEndsUptoRow.holds Tryz.pinned (OpenSpec.upto locateEndsSpec)

/-- 'gussetlaw12.LocateLinear', WHERE WHAT IT READS IS OF BULK AT MOST 1048576: true; the input reads as it did. -/
def locateLinearUptoRow : OpenClaim := { program := "ytojfiboeghonoaagreat", sum := "83c555c90529e9f15172394c43db48f41a44810eb06c3c6d29cfb4deb1325d3f", func := "gusset/gussetlaw12.LocateLinear", spec := "locateLinear", inPlace := ["math/bits.Add64", "math/bits.Sub64", "internal/abi.NoEscape", "internal/bytealg.MakeNoZero"], unfollowed := true, recurses := true, named := ["math/bits.divideError", "math/bits.overflowError"], plainKeys := false, apart := false, narrowed := true }
def LocateLinearUptoSaid : Prop := locateLinearUptoRow.holds Tryz.pinned (OpenSpec.upto locateLinearSpec)

/-- 'gussetlaw12.LocateHome', WHERE WHAT IT READS IS OF BULK AT MOST 1048576: true; the input reads as it did. -/
def locateHomeUptoRow : OpenClaim := { program := "ytojfiboeghonoaagreat", sum := "83c555c90529e9f15172394c43db48f41a44810eb06c3c6d29cfb4deb1325d3f", func := "gusset/gussetlaw12.LocateHome", spec := "locateHome", inPlace := ["math/bits.Add64", "math/bits.Sub64", "internal/abi.NoEscape", "internal/bytealg.MakeNoZero"], unfollowed := true, recurses := true, named := ["math/bits.divideError", "math/bits.overflowError"], plainKeys := false, apart := false, narrowed := true }
def LocateHomeUptoSaid : Prop := locateHomeUptoRow.holds Tryz.pinned (OpenSpec.upto locateHomeSpec)

end Rows
end Go.Proofs.YtojfiboeghonoaaGreat
