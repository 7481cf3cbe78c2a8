/-
  No cell of these rows narrows 'for every input' (looked for: loops, veiled, ifaces, maps, wideKeys, modest, calm, conditions, laid).
  DERIVED. THE GIVEN ROWS OF THIS SEAT. 7 by the template 'for every input the law returns true; each argument reads behind the call as it read before'; 0 by the template 'total and deterministic' (their statements: YtlpimdkgboabcaaTotals.lean).
  GIVEN WITH THE SEED: the statements are not yours to turn. If you find one false, say at which input.
  Laid BY PROGRAM, IN A SANDBOX (cutbox-rows.mjs): the forced cells as the released guide's own fill.sh prints them over the translation daeb6824463d3d7c… (all of the seat's roots in one cut). By AI agents, Wed Nov 11 2026. No macro, syntax, notation, axiom, sorry.
-/
import Derived.Test.YtlpimdkgboabcaaChecked
import GoSem.Claim
import GoSem.ClaimJoined
import GoSem.ClaimMapViews
import Derived.JoinedTies
import Derived.KernelRfl
namespace Go.Proofs.Ytlpimdkgboabcaa
/- THE CELL 'sum', in the pinned program and in every row, IS THE sha256 OF THE DUMP (.gsa) THAT YtlpimdkgboabcaaProg.lean LOADS. Nothing in Lean hashes anything: it is a label: what it is worth is what the hold of that sum in a sandbox is worth. -/
noncomputable def Try.pinned : Pinned := { name := "ytlpimdkgboabcaa", sum := "daeb6824463d3d7cd7cd3acdc4c14b0835bc7107d19979e811e1d48158b7cb8e", checked := Try.checked }
namespace Rows
def none {H : Type} : Left H := { results := [], args := [] }

/-- 'gussetlaw01.LimbQuotients': WHATEVER THE INPUT: true; the input reads as it did. -/
def limbQuotientsSpec : ChangeSpec := { name := "limbQuotients", fn := fun _ => fun
  | [d1, d2] => { results := [.lit (.bool true)], args := [d1, d2] }
  | _ => none }
def limbQuotientsRow : OpenClaim := { program := "ytlpimdkgboabcaa", sum := "daeb6824463d3d7cd7cd3acdc4c14b0835bc7107d19979e811e1d48158b7cb8e", func := "gusset/gussetlaw01.LimbQuotients", spec := "limbQuotients", inPlace := ["math/bits.Add64", "math/bits.Sub64"], named := ["math/bits.divideError", "math/bits.overflowError"], apart := false }
def LimbQuotientsSaid : Prop := limbQuotientsRow.holds Try.pinned (OpenSpec.ofChange limbQuotientsSpec)

/-- ITS FALSE NEIGHBOUR: 'it returns false'. Refute it at one input. -/
def limbQuotientsWrong : ChangeSpec := { name := "limbQuotients", fn := fun _ => fun
  | [d1, d2] => { results := [.lit (.bool false)], args := [d1, d2] }
  | _ => none }
def LimbQuotientsWrongFalsely : Prop := limbQuotientsRow.holds Try.pinned (OpenSpec.ofChange limbQuotientsWrong)

/-- 'gussetlaw01.LimbProducts': WHATEVER THE INPUT: true; the input reads as it did. -/
def limbProductsSpec : ChangeSpec := { name := "limbProducts", fn := fun _ => fun
  | [d1, d2] => { results := [.lit (.bool true)], args := [d1, d2] }
  | _ => none }
def limbProductsRow : OpenClaim := { program := "ytlpimdkgboabcaa", sum := "daeb6824463d3d7cd7cd3acdc4c14b0835bc7107d19979e811e1d48158b7cb8e", func := "gusset/gussetlaw01.LimbProducts", spec := "limbProducts", inPlace := ["math/bits.Add64", "math/bits.Sub64"], named := ["math/bits.divideError", "math/bits.overflowError"], apart := false }
def LimbProductsSaid : Prop := limbProductsRow.holds Try.pinned (OpenSpec.ofChange limbProductsSpec)

/-- ITS FALSE NEIGHBOUR: 'it returns false'. Refute it at one input. -/
def limbProductsWrong : ChangeSpec := { name := "limbProducts", fn := fun _ => fun
  | [d1, d2] => { results := [.lit (.bool false)], args := [d1, d2] }
  | _ => none }
def LimbProductsWrongFalsely : Prop := limbProductsRow.holds Try.pinned (OpenSpec.ofChange limbProductsWrong)

/-- 'gussetlaw01.LimbNats': WHATEVER THE INPUT: true; the input reads as it did. -/
def limbNatsSpec : ChangeSpec := { name := "limbNats", fn := fun _ => fun
  | [d1, d2] => { results := [.lit (.bool true)], args := [d1, d2] }
  | _ => none }
def limbNatsRow : OpenClaim := { program := "ytlpimdkgboabcaa", sum := "daeb6824463d3d7cd7cd3acdc4c14b0835bc7107d19979e811e1d48158b7cb8e", func := "gusset/gussetlaw01.LimbNats", spec := "limbNats", inPlace := ["math/bits.Add64", "math/bits.Sub64"], named := ["math/bits.divideError", "math/bits.overflowError"], apart := false }
def LimbNatsSaid : Prop := limbNatsRow.holds Try.pinned (OpenSpec.ofChange limbNatsSpec)

/-- ITS FALSE NEIGHBOUR: 'it returns false'. Refute it at one input. -/
def limbNatsWrong : ChangeSpec := { name := "limbNats", fn := fun _ => fun
  | [d1, d2] => { results := [.lit (.bool false)], args := [d1, d2] }
  | _ => none }
def LimbNatsWrongFalsely : Prop := limbNatsRow.holds Try.pinned (OpenSpec.ofChange limbNatsWrong)

/-- 'gussetlaw01.LimbSums': WHATEVER THE INPUT: true; the input reads as it did. -/
def limbSumsSpec : ChangeSpec := { name := "limbSums", fn := fun _ => fun
  | [d1, d2] => { results := [.lit (.bool true)], args := [d1, d2] }
  | _ => none }
def limbSumsRow : OpenClaim := { program := "ytlpimdkgboabcaa", sum := "daeb6824463d3d7cd7cd3acdc4c14b0835bc7107d19979e811e1d48158b7cb8e", func := "gusset/gussetlaw01.LimbSums", spec := "limbSums", inPlace := ["math/bits.Add64", "math/bits.Sub64"], unfollowed := true, recurses := true, named := ["math/bits.divideError", "math/bits.overflowError"], apart := false }
def LimbSumsSaid : Prop := limbSumsRow.holds Try.pinned (OpenSpec.ofChange limbSumsSpec)

/-- ITS FALSE NEIGHBOUR: 'it returns false'. Refute it at one input. -/
def limbSumsWrong : ChangeSpec := { name := "limbSums", fn := fun _ => fun
  | [d1, d2] => { results := [.lit (.bool false)], args := [d1, d2] }
  | _ => none }
def LimbSumsWrongFalsely : Prop := limbSumsRow.holds Try.pinned (OpenSpec.ofChange limbSumsWrong)

/-- 'gussetlaw01.LimbRing': WHATEVER THE INPUT: true; the input reads as it did. -/
def limbRingSpec : ChangeSpec := { name := "limbRing", fn := fun _ => fun
  | [d1, d2, d3] => { results := [.lit (.bool true)], args := [d1, d2, d3] }
  | _ => none }
def limbRingRow : OpenClaim := { program := "ytlpimdkgboabcaa", sum := "daeb6824463d3d7cd7cd3acdc4c14b0835bc7107d19979e811e1d48158b7cb8e", func := "gusset/gussetlaw01.LimbRing", spec := "limbRing", inPlace := ["math/bits.Add64", "math/bits.Sub64"], unfollowed := true, recurses := true, named := ["math/bits.divideError", "math/bits.overflowError"], apart := false }
def LimbRingSaid : Prop := limbRingRow.holds Try.pinned (OpenSpec.ofChange limbRingSpec)

/-- ITS FALSE NEIGHBOUR: 'it returns false'. Refute it at one input. -/
def limbRingWrong : ChangeSpec := { name := "limbRing", fn := fun _ => fun
  | [d1, d2, d3] => { results := [.lit (.bool false)], args := [d1, d2, d3] }
  | _ => none }
def LimbRingWrongFalsely : Prop := limbRingRow.holds Try.pinned (OpenSpec.ofChange limbRingWrong)

/-- 'gussetlaw01.LimbShift': WHATEVER THE INPUT: true; the input reads as it did. -/
def limbShiftSpec : ChangeSpec := { name := "limbShift", fn := fun _ => fun
  | [d1, d2] => { results := [.lit (.bool true)], args := [d1, d2] }
  | _ => none }
def limbShiftRow : OpenClaim := { program := "ytlpimdkgboabcaa", sum := "daeb6824463d3d7cd7cd3acdc4c14b0835bc7107d19979e811e1d48158b7cb8e", func := "gusset/gussetlaw01.LimbShift", spec := "limbShift", inPlace := ["math/bits.Add64", "math/bits.Sub64"], unfollowed := true, recurses := true, named := ["math/bits.divideError", "math/bits.overflowError"], apart := false }
def LimbShiftSaid : Prop := limbShiftRow.holds Try.pinned (OpenSpec.ofChange limbShiftSpec)

/-- ITS FALSE NEIGHBOUR: 'it returns false'. Refute it at one input. -/
def limbShiftWrong : ChangeSpec := { name := "limbShift", fn := fun _ => fun
  | [d1, d2] => { results := [.lit (.bool false)], args := [d1, d2] }
  | _ => none }
def LimbShiftWrongFalsely : Prop := limbShiftRow.holds Try.pinned (OpenSpec.ofChange limbShiftWrong)

/-- 'gussetlaw01.LimbBack': WHATEVER THE INPUT: true; the input reads as it did. -/
def limbBackSpec : ChangeSpec := { name := "limbBack", fn := fun _ => fun
  | [d1, d2] => { results := [.lit (.bool true)], args := [d1, d2] }
  | _ => none }
def limbBackRow : OpenClaim := { program := "ytlpimdkgboabcaa", sum := "daeb6824463d3d7cd7cd3acdc4c14b0835bc7107d19979e811e1d48158b7cb8e", func := "gusset/gussetlaw01.LimbBack", spec := "limbBack", inPlace := ["math/bits.Add64", "math/bits.Sub64"], unfollowed := true, recurses := true, named := ["math/bits.divideError", "math/bits.overflowError"], apart := false }
def LimbBackSaid : Prop := limbBackRow.holds Try.pinned (OpenSpec.ofChange limbBackSpec)

/-- ITS FALSE NEIGHBOUR: 'it returns false'. Refute it at one input. -/
def limbBackWrong : ChangeSpec := { name := "limbBack", fn := fun _ => fun
  | [d1, d2] => { results := [.lit (.bool false)], args := [d1, d2] }
  | _ => none }
def LimbBackWrongFalsely : Prop := limbBackRow.holds Try.pinned (OpenSpec.ofChange limbBackWrong)

/- THE SECOND FORM. 'bulk': how many values and letters a reading holds, each counted each time it is reached (what is shared counts as often as it is met; a slice's spare places count too). A statement '..UptoSaid' is the law's where the arguments, and the package variables that the reading takes, are together of bulk at most 1048576: NARROWER than '..Said'. Prove '..Said' where nothing that the law and all that it calls make is longer than what came in: it says more and counts as full. Else prove '..UptoSaid'. A law counts once. -/
mutual
def uptoBulk {H : Type} : DataW H → Nat
  | .lit (.string bytes) => bytes.length + 1
  | .lit _ => 1
  | .nil => 1
  | .ptr d => uptoBulk d + 1
  | .slice elems spare => uptoBulkAll elems + uptoBulkAll spare + 1
  | .agg parts => uptoBulkAll parts + 1
  | .iface _ d => uptoBulk d + 1
  | .map entries => uptoBulkEntries entries + 1
  | .held _ => 1
def uptoBulkAll {H : Type} : List (DataW H) → Nat
  | [] => 0
  | d :: r => uptoBulk d + uptoBulkAll r
def uptoBulkEntries {H : Type} : List (Lit × DataW H) → Nat
  | [] => 0
  | x :: r => uptoBulkEntry x + uptoBulkEntries r
def uptoBulkEntry {H : Type} : Lit × DataW H → Nat
  | (.string bytes, d) => bytes.length + uptoBulk d + 1
  | (_, d) => uptoBulk d + 1
 end
def uptoSmall : (H : Type) → List (DataW H) → Bool := fun _ ds => decide (uptoBulkAll ds ≤ 1048576)
def OpenSpec.upto (s : _root_.Go.ChangeSpec) : _root_.Go.OpenSpec := { _root_.Go.OpenSpec.ofChange s with cond := some uptoSmall }

/-- 'gussetlaw01.LimbQuotients', WHERE WHAT IT READS IS OF BULK AT MOST 1048576: true; the input reads as it did. -/
def limbQuotientsUptoRow : OpenClaim := { program := "ytlpimdkgboabcaa", sum := "daeb6824463d3d7cd7cd3acdc4c14b0835bc7107d19979e811e1d48158b7cb8e", func := "gusset/gussetlaw01.LimbQuotients", spec := "limbQuotients", inPlace := ["math/bits.Add64", "math/bits.Sub64"], named := ["math/bits.divideError", "math/bits.overflowError"], apart := false, narrowed := true }
def LimbQuotientsUptoSaid : Prop := limbQuotientsUptoRow.holds Try.pinned (OpenSpec.upto limbQuotientsSpec)

/-- 'gussetlaw01.LimbProducts', WHERE WHAT IT READS IS OF BULK AT MOST 1048576: true; the input reads as it did. -/
def limbProductsUptoRow : OpenClaim := { program := "ytlpimdkgboabcaa", sum := "daeb6824463d3d7cd7cd3acdc4c14b0835bc7107d19979e811e1d48158b7cb8e", func := "gusset/gussetlaw01.LimbProducts", spec := "limbProducts", inPlace := ["math/bits.Add64", "math/bits.Sub64"], named := ["math/bits.divideError", "math/bits.overflowError"], apart := false, narrowed := true }
def LimbProductsUptoSaid : Prop := limbProductsUptoRow.holds Try.pinned (OpenSpec.upto limbProductsSpec)

/-- 'gussetlaw01.LimbNats', WHERE WHAT IT READS IS OF BULK AT MOST 1048576: true; the input reads as it did. -/
def limbNatsUptoRow : OpenClaim := { program := "ytlpimdkgboabcaa", sum := "daeb6824463d3d7cd7cd3acdc4c14b0835bc7107d19979e811e1d48158b7cb8e", func := "gusset/gussetlaw01.LimbNats", spec := "limbNats", inPlace := ["math/bits.Add64", "math/bits.Sub64"], named := ["math/bits.divideError", "math/bits.overflowError"], apart := false, narrowed := true }
def LimbNatsUptoSaid : Prop := limbNatsUptoRow.holds Try.pinned (OpenSpec.upto limbNatsSpec)

/-- 'gussetlaw01.LimbSums', WHERE WHAT IT READS IS OF BULK AT MOST 1048576: true; the input reads as it did. -/
def limbSumsUptoRow : OpenClaim := { program := "ytlpimdkgboabcaa", sum := "daeb6824463d3d7cd7cd3acdc4c14b0835bc7107d19979e811e1d48158b7cb8e", func := "gusset/gussetlaw01.LimbSums", spec := "limbSums", inPlace := ["math/bits.Add64", "math/bits.Sub64"], unfollowed := true, recurses := true, named := ["math/bits.divideError", "math/bits.overflowError"], apart := false, narrowed := true }
def LimbSumsUptoSaid : Prop := limbSumsUptoRow.holds Try.pinned (OpenSpec.upto limbSumsSpec)

/-- 'gussetlaw01.LimbRing', WHERE WHAT IT READS IS OF BULK AT MOST 1048576: true; the input reads as it did. -/
def limbRingUptoRow : OpenClaim := { program := "ytlpimdkgboabcaa", sum := "daeb6824463d3d7cd7cd3acdc4c14b0835bc7107d19979e811e1d48158b7cb8e", func := "gusset/gussetlaw01.LimbRing", spec := "limbRing", inPlace := ["math/bits.Add64", "math/bits.Sub64"], unfollowed := true, recurses := true, named := ["math/bits.divideError", "math/bits.overflowError"], apart := false, narrowed := true }
def LimbRingUptoSaid : Prop := limbRingUptoRow.holds Try.pinned (OpenSpec.upto limbRingSpec)

/-- 'gussetlaw01.LimbShift', WHERE WHAT IT READS IS OF BULK AT MOST 1048576: true; the input reads as it did. -/
def limbShiftUptoRow : OpenClaim := { program := "ytlpimdkgboabcaa", sum := "daeb6824463d3d7cd7cd3acdc4c14b0835bc7107d19979e811e1d48158b7cb8e", func := "gusset/gussetlaw01.LimbShift", spec := "limbShift", inPlace := ["math/bits.Add64", "math/bits.Sub64"], unfollowed := true, recurses := true, named := ["math/bits.divideError", "math/bits.overflowError"], apart := false, narrowed := true }
def LimbShiftUptoSaid : Prop := limbShiftUptoRow.holds Try.pinned (OpenSpec.upto limbShiftSpec)

/-- 'gussetlaw01.LimbBack', WHERE WHAT IT READS IS OF BULK AT MOST 1048576: true; the input reads as it did. -/
def limbBackUptoRow : OpenClaim := { program := "ytlpimdkgboabcaa", sum := "daeb6824463d3d7cd7cd3acdc4c14b0835bc7107d19979e811e1d48158b7cb8e", func := "gusset/gussetlaw01.LimbBack", spec := "limbBack", inPlace := ["math/bits.Add64", "math/bits.Sub64"], unfollowed := true, recurses := true, named := ["math/bits.divideError", "math/bits.overflowError"], apart := false, narrowed := true }
def LimbBackUptoSaid : Prop := limbBackUptoRow.holds Try.pinned (OpenSpec.upto limbBackSpec)

end Rows
end Go.Proofs.Ytlpimdkgboabcaa
