import Derived.Test.YtiblnpnfaadmcaaGreatAmPlan17
/- Section 09: PlanScaled. -/
set_option linter.unusedVariables false
set_option maxRecDepth 10000
set_option linter.unusedSimpArgs false
namespace Go.Proofs.YtiblnpnfaadmcaaGreat.Am
open Go

section
variable {ps : List (Rat × Rat)} {f : Bool} {k : Int} {y1 : AV}
end
end Go.Proofs.YtiblnpnfaadmcaaGreat.Am
