import Derived.Test.YtiblnpnfaadmcaaGreatAmPlan15
/- Section 09: PlanFewer. -/
set_option linter.unusedVariables false
set_option maxRecDepth 10000
set_option linter.unusedSimpArgs false
namespace Go.Proofs.YtiblnpnfaadmcaaGreat.Am
open Go

structure LO (xs : List PT) (gs : List Sg) (v : List AV) (e : Int) : Prop where
  c : CellsOK v 3
  r : readCells v (some 3) = some (.agg v)
  k : ∀ h, byVal (callW gp) h fid.zf0j [.is xs.length false (xs.flatMap ptc), .is gs.length false (gs.flatMap sgc)] = some (.tup [.agg v, .int .i64 e])
section
variable {ps : List (Rat × Rat)} {f : Bool} {cid : Nat} {c : Rat}
end
end Go.Proofs.YtiblnpnfaadmcaaGreat.Am
