/-
  No cell of these rows narrows 'for every input' (looked for: loops, veiled, ifaces, maps, wideKeys, modest, calm, conditions, laid).
  DERIVED. THE GIVEN ROWS OF THIS SEAT. 6 by the template 'for every input the law returns true; each argument reads behind the call as it read before'; 0 by the template 'total and deterministic' (their statements: YtiblnpnfaadmcaaGreatTotals.lean).
  GIVEN WITH THE SEED: the statements are not yours to turn. If you find one false, say at which input.
  Laid BY PROGRAM, IN A SANDBOX (cutbox-rows.mjs): the forced cells as the released guide's own fill.sh prints them over the translation c46c3c4f16d3edcb… (all of the seat's roots in one cut). By AI agents, Wed Nov 11 2026. No macro, syntax, notation, axiom, sorry.
-/
import Derived.Test.YtiblnpnfaadmcaaGreatChecked
import GoSem.Claim
import GoSem.ClaimJoined
import GoSem.ClaimMapViews
import Derived.JoinedTies
import Derived.KernelRfl
namespace Go.Proofs.YtiblnpnfaadmcaaGreat
/- THE CELL 'sum', in the pinned program and in every row, IS THE sha256 OF THE DUMP (.gsa) THAT YtiblnpnfaadmcaaGreatProg.lean LOADS. Nothing in Lean hashes anything: it is a label: what it is worth is what the hold of that sum in a sandbox is worth. -/
noncomputable def Tryz.pinned : Pinned := { name := "ytiblnpnfaadmcaagreat", sum := "c46c3c4f16d3edcb362286c423ab3fc6b42eac9a81516aa1618d25a5345faabf", checked := Tryz.checked }
namespace Rows
def none {H : Type} : Left H := { results := [], args := [] }

/-- 'gussetlaw09.PlanBoxes': WHATEVER THE INPUT: true; the input reads as it did. -/
def planBoxesSpec : ChangeSpec := { name := "planBoxes", fn := fun _ => fun
  | [d] => { results := [.lit (.bool true)], args := [d] }
  | _ => none }
def planBoxesRow : OpenClaim := { program := "ytiblnpnfaadmcaagreat", sum := "c46c3c4f16d3edcb362286c423ab3fc6b42eac9a81516aa1618d25a5345faabf", func := "gusset/gussetlaw09.PlanBoxes", spec := "planBoxes", inPlace := ["math/bits.Add64", "math/bits.Sub64", "internal/abi.NoEscape", "internal/bytealg.MakeNoZero"], unfollowed := true, recurses := true, named := ["math/bits.divideError", "math/bits.overflowError"], apart := false }
def PlanBoxesSaid : Prop := planBoxesRow.holds Tryz.pinned (OpenSpec.ofChange planBoxesSpec)

/-- ITS FALSE NEIGHBOUR: 'it returns false'. Refute it at one input. -/
def planBoxesWrong : ChangeSpec := { name := "planBoxes", fn := fun _ => fun
  | [d] => { results := [.lit (.bool false)], args := [d] }
  | _ => none }
def PlanBoxesWrongFalsely : Prop := planBoxesRow.holds Tryz.pinned (OpenSpec.ofChange planBoxesWrong)

/-- 'gussetlaw09.PlanApart': WHATEVER THE INPUT: true; the input reads as it did. -/
def planApartSpec : ChangeSpec := { name := "planApart", fn := fun _ => fun
  | [d] => { results := [.lit (.bool true)], args := [d] }
  | _ => none }
def planApartRow : OpenClaim := { program := "ytiblnpnfaadmcaagreat", sum := "c46c3c4f16d3edcb362286c423ab3fc6b42eac9a81516aa1618d25a5345faabf", func := "gusset/gussetlaw09.PlanApart", spec := "planApart", inPlace := ["math/bits.Add64", "math/bits.Sub64", "internal/abi.NoEscape", "internal/bytealg.MakeNoZero"], unfollowed := true, recurses := true, named := ["math/bits.divideError", "math/bits.overflowError"], apart := false }
def PlanApartSaid : Prop := planApartRow.holds Tryz.pinned (OpenSpec.ofChange planApartSpec)

/-- ITS FALSE NEIGHBOUR: 'it returns false'. Refute it at one input. -/
def planApartWrong : ChangeSpec := { name := "planApart", fn := fun _ => fun
  | [d] => { results := [.lit (.bool false)], args := [d] }
  | _ => none }
def PlanApartWrongFalsely : Prop := planApartRow.holds Tryz.pinned (OpenSpec.ofChange planApartWrong)

/-- 'gussetlaw09.PlanLeast': WHATEVER THE INPUT: true; the input reads as it did. -/
def planLeastSpec : ChangeSpec := { name := "planLeast", fn := fun _ => fun
  | [d1, d2] => { results := [.lit (.bool true)], args := [d1, d2] }
  | _ => none }
def planLeastRow : OpenClaim := { program := "ytiblnpnfaadmcaagreat", sum := "c46c3c4f16d3edcb362286c423ab3fc6b42eac9a81516aa1618d25a5345faabf", func := "gusset/gussetlaw09.PlanLeast", spec := "planLeast", inPlace := ["math/bits.Add64", "math/bits.Sub64", "internal/abi.NoEscape", "internal/bytealg.MakeNoZero"], unfollowed := true, recurses := true, named := ["math/bits.divideError", "math/bits.overflowError"], apart := false }
def PlanLeastSaid : Prop := planLeastRow.holds Tryz.pinned (OpenSpec.ofChange planLeastSpec)

/-- ITS FALSE NEIGHBOUR: 'it returns false'. Refute it at one input. -/
def planLeastWrong : ChangeSpec := { name := "planLeast", fn := fun _ => fun
  | [d1, d2] => { results := [.lit (.bool false)], args := [d1, d2] }
  | _ => none }
def PlanLeastWrongFalsely : Prop := planLeastRow.holds Tryz.pinned (OpenSpec.ofChange planLeastWrong)

/-- 'gussetlaw09.PlanFewer': WHATEVER THE INPUT: true; the input reads as it did. -/
def planFewerSpec : ChangeSpec := { name := "planFewer", fn := fun _ => fun
  | [d1, d2] => { results := [.lit (.bool true)], args := [d1, d2] }
  | _ => none }
def planFewerRow : OpenClaim := { program := "ytiblnpnfaadmcaagreat", sum := "c46c3c4f16d3edcb362286c423ab3fc6b42eac9a81516aa1618d25a5345faabf", func := "gusset/gussetlaw09.PlanFewer", spec := "planFewer", inPlace := ["math/bits.Add64", "math/bits.Sub64", "internal/abi.NoEscape", "internal/bytealg.MakeNoZero"], unfollowed := true, recurses := true, named := ["math/bits.divideError", "math/bits.overflowError"], apart := false }
def PlanFewerSaid : Prop := planFewerRow.holds Tryz.pinned (OpenSpec.ofChange planFewerSpec)

/-- ITS FALSE NEIGHBOUR: 'it returns false'. Refute it at one input. -/
def planFewerWrong : ChangeSpec := { name := "planFewer", fn := fun _ => fun
  | [d1, d2] => { results := [.lit (.bool false)], args := [d1, d2] }
  | _ => none }
def PlanFewerWrongFalsely : Prop := planFewerRow.holds Tryz.pinned (OpenSpec.ofChange planFewerWrong)

/-- 'gussetlaw09.PlanEnds': WHATEVER THE INPUT: true; the input reads as it did. -/
def planEndsSpec : ChangeSpec := { name := "planEnds", fn := fun _ => fun
  | [d1, d2] => { results := [.lit (.bool true)], args := [d1, d2] }
  | _ => none }
def planEndsRow : OpenClaim := { program := "ytiblnpnfaadmcaagreat", sum := "c46c3c4f16d3edcb362286c423ab3fc6b42eac9a81516aa1618d25a5345faabf", func := "gusset/gussetlaw09.PlanEnds", spec := "planEnds", inPlace := ["math/bits.Add64", "math/bits.Sub64", "internal/abi.NoEscape", "internal/bytealg.MakeNoZero"], unfollowed := true, recurses := true, named := ["math/bits.divideError", "math/bits.overflowError"], apart := false }
def PlanEndsSaid : Prop := planEndsRow.holds Tryz.pinned (OpenSpec.ofChange planEndsSpec)

/-- ITS FALSE NEIGHBOUR: 'it returns false'. Refute it at one input. -/
def planEndsWrong : ChangeSpec := { name := "planEnds", fn := fun _ => fun
  | [d1, d2] => { results := [.lit (.bool false)], args := [d1, d2] }
  | _ => none }
def PlanEndsWrongFalsely : Prop := planEndsRow.holds Tryz.pinned (OpenSpec.ofChange planEndsWrong)

/-- 'gussetlaw09.PlanScaled': WHATEVER THE INPUT: true; the input reads as it did. -/
def planScaledSpec : ChangeSpec := { name := "planScaled", fn := fun _ => fun
  | [d1, d2, d3] => { results := [.lit (.bool true)], args := [d1, d2, d3] }
  | _ => none }
def planScaledRow : OpenClaim := { program := "ytiblnpnfaadmcaagreat", sum := "c46c3c4f16d3edcb362286c423ab3fc6b42eac9a81516aa1618d25a5345faabf", func := "gusset/gussetlaw09.PlanScaled", spec := "planScaled", inPlace := ["math/bits.Add64", "math/bits.Sub64", "internal/abi.NoEscape", "internal/bytealg.MakeNoZero"], unfollowed := true, recurses := true, named := ["math/bits.divideError", "math/bits.overflowError"], apart := false }
def PlanScaledSaid : Prop := planScaledRow.holds Tryz.pinned (OpenSpec.ofChange planScaledSpec)

/-- ITS FALSE NEIGHBOUR: 'it returns false'. Refute it at one input. -/
def planScaledWrong : ChangeSpec := { name := "planScaled", fn := fun _ => fun
  | [d1, d2, d3] => { results := [.lit (.bool false)], args := [d1, d2, d3] }
  | _ => none }
def PlanScaledWrongFalsely : Prop := planScaledRow.holds Tryz.pinned (OpenSpec.ofChange planScaledWrong)

/- THE SECOND FORM. 'bulk': how many values and letters a reading holds, each counted each time it is reached (what is shared counts as often as it is met; a slice's spare places count too). A statement '..UptoSaid' is the law's where the arguments, and the package variables that the reading takes, are together of bulk at most 1048576: NARROWER than '..Said'. Prove '..Said' where nothing that the law and all that it calls make is longer than what came in: it says more and counts as full. Else prove '..UptoSaid'. A law counts once. -/
mutual
def uptoBulk {H : Type} : DataW H → Nat
  | .lit (.string bytes) => bytes.length + 1
  | .lit _ => 1
  | .nil => 1
  | .ptr d => uptoBulk d + 1
  | .slice elems spare => uptoBulkAll elems + uptoBulkAll spare + 1
  | .agg parts => uptoBulkAll parts + 1
  | .iface _ d => uptoBulk d + 1
  | .map entries => uptoBulkEntries entries + 1
  | .held _ => 1
def uptoBulkAll {H : Type} : List (DataW H) → Nat
  | [] => 0
  | d :: r => uptoBulk d + uptoBulkAll r
def uptoBulkEntries {H : Type} : List (Lit × DataW H) → Nat
  | [] => 0
  | x :: r => uptoBulkEntry x + uptoBulkEntries r
def uptoBulkEntry {H : Type} : Lit × DataW H → Nat
  | (.string bytes, d) => bytes.length + uptoBulk d + 1
  | (_, d) => uptoBulk d + 1
 end
def uptoSmall : (H : Type) → List (DataW H) → Bool := fun _ ds => decide (uptoBulkAll ds ≤ 1048576)
def OpenSpec.upto (s : _root_.Go.ChangeSpec) : _root_.Go.OpenSpec := { _root_.Go.OpenSpec.ofChange s with cond := some uptoSmall }

/-- 'gussetlaw09.PlanBoxes', WHERE WHAT IT READS IS OF BULK AT MOST 1048576: true; the input reads as it did. -/
def planBoxesUptoRow : OpenClaim := { program := "ytiblnpnfaadmcaagreat", sum := "c46c3c4f16d3edcb362286c423ab3fc6b42eac9a81516aa1618d25a5345faabf", func := "gusset/gussetlaw09.PlanBoxes", spec := "planBoxes", inPlace := ["math/bits.Add64", "math/bits.Sub64", "internal/abi.NoEscape", "internal/bytealg.MakeNoZero"], unfollowed := true, recurses := true, named := ["math/bits.divideError", "math/bits.overflowError"], apart := false, narrowed := true }
def PlanBoxesUptoSaid : Prop := planBoxesUptoRow.holds Tryz.pinned (OpenSpec.upto planBoxesSpec)

/-- 'gussetlaw09.PlanApart', WHERE WHAT IT READS IS OF BULK AT MOST 1048576: true; the input reads as it did. -/
def planApartUptoRow : OpenClaim := { program := "ytiblnpnfaadmcaagreat", sum := "c46c3c4f16d3edcb362286c423ab3fc6b42eac9a81516aa1618d25a5345faabf", func := "gusset/gussetlaw09.PlanApart", spec := "planApart", inPlace := ["math/bits.Add64", "math/bits.Sub64", "internal/abi.NoEscape", "internal/bytealg.MakeNoZero"], unfollowed := true, recurses := true, named := ["math/bits.divideError", "math/bits.overflowError"], apart := false, narrowed := true }
def PlanApartUptoSaid : Prop := planApartUptoRow.holds Tryz.pinned (OpenSpec.upto planApartSpec)

/-- 'gussetlaw09.PlanLeast', WHERE WHAT IT READS IS OF BULK AT MOST 1048576: true; the input reads as it did. -/
def planLeastUptoRow : OpenClaim := { program := "ytiblnpnfaadmcaagreat", sum := "c46c3c4f16d3edcb362286c423ab3fc6b42eac9a81516aa1618d25a5345faabf", func := "gusset/gussetlaw09.PlanLeast", spec := "planLeast", inPlace := ["math/bits.Add64", "math/bits.Sub64", "internal/abi.NoEscape", "internal/bytealg.MakeNoZero"], unfollowed := true, recurses := true, named := ["math/bits.divideError", "math/bits.overflowError"], apart := false, narrowed := true }
def PlanLeastUptoSaid : Prop := planLeastUptoRow.holds Tryz.pinned (OpenSpec.upto planLeastSpec)

/-- 'gussetlaw09.PlanFewer', WHERE WHAT IT READS IS OF BULK AT MOST 1048576: true; the input reads as it did. -/
def planFewerUptoRow : OpenClaim := { program := "ytiblnpnfaadmcaagreat", sum := "c46c3c4f16d3edcb362286c423ab3fc6b42eac9a81516aa1618d25a5345faabf", func := "gusset/gussetlaw09.PlanFewer", spec := "planFewer", inPlace := ["math/bits.Add64", "math/bits.Sub64", "internal/abi.NoEscape", "internal/bytealg.MakeNoZero"], unfollowed := true, recurses := true, named := ["math/bits.divideError", "math/bits.overflowError"], apart := false, narrowed := true }
def PlanFewerUptoSaid : Prop := planFewerUptoRow.holds Tryz.pinned (OpenSpec.upto planFewerSpec)

/-- 'gussetlaw09.PlanEnds', WHERE WHAT IT READS IS OF BULK AT MOST 1048576: true; the input reads as it did. -/
def planEndsUptoRow : OpenClaim := { program := "ytiblnpnfaadmcaagreat", sum := "c46c3c4f16d3edcb362286c423ab3fc6b42eac9a81516aa1618d25a5345faabf", func := "gusset/gussetlaw09.PlanEnds", spec := "planEnds", inPlace := ["math/bits.Add64", "math/bits.Sub64", "internal/abi.NoEscape", "internal/bytealg.MakeNoZero"], unfollowed := true, recurses := true, named := ["math/bits.divideError", "math/bits.overflowError"], apart := false, narrowed := true }
def PlanEndsUptoSaid : Prop := planEndsUptoRow.holds Tryz.pinned (OpenSpec.upto planEndsSpec)

/-- 'gussetlaw09.PlanScaled', WHERE WHAT IT READS IS OF BULK AT MOST 1048576: true; the input reads as it did. -/
def planScaledUptoRow : OpenClaim := { program := "ytiblnpnfaadmcaagreat", sum := "c46c3c4f16d3edcb362286c423ab3fc6b42eac9a81516aa1618d25a5345faabf", func := "gusset/gussetlaw09.PlanScaled", spec := "planScaled", inPlace := ["math/bits.Add64", "math/bits.Sub64", "internal/abi.NoEscape", "internal/bytealg.MakeNoZero"], unfollowed := true, recurses := true, named := ["math/bits.divideError", "math/bits.overflowError"], apart := false, narrowed := true }
def PlanScaledUptoSaid : Prop := planScaledUptoRow.holds Tryz.pinned (OpenSpec.upto planScaledSpec)

end Rows
end Go.Proofs.YtiblnpnfaadmcaaGreat
