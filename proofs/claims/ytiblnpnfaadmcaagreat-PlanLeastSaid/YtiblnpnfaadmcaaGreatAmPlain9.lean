import Derived.Test.YtiblnpnfaadmcaaGreatAmV
import Derived.Test.YtiblnpnfaadmcaaGreatAmGeom2w
/- Measures of plans: as numbers. -/
set_option linter.unusedVariables false
set_option maxRecDepth 10000
set_option linter.unusedSimpArgs false
namespace Go.Proofs.YtiblnpnfaadmcaaGreat.Am
open Go

section
variable {ax ay bx b_ cx cy dx dy k : Rat}
theorem far_comm : farQ ax ay bx b_ = farQ bx b_ ax ay := by unfold farQ; grind
def zy0j (ax ay bx b_ cx cy dx dy : Rat) : Rat :=
 if meetQ ax ay bx b_ cx cy dx dy ≠ 0 then 0 else minQ (minQ (nearQ ax ay bx b_ cx cy) (nearQ ax ay bx b_ dx dy)) (minQ (nearQ cx cy dx dy ax ay) (nearQ cx cy dx dy bx b_))
end
end Go.Proofs.YtiblnpnfaadmcaaGreat.Am
