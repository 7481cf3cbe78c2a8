import Derived.Test.YtiblnpnfaadmcaaGreatAmGeom2w
/- The document's geometry. -/
set_option linter.unusedVariables false
set_option maxRecDepth 10000
set_option linter.unusedSimpArgs false
namespace Go.Proofs.YtiblnpnfaadmcaaGreat.Am
open Go
section
variable {h : Heap} {ax ay bx b_ cx cy dx dy : Rat}
end
end Go.Proofs.YtiblnpnfaadmcaaGreat.Am
