import Derived.Test.YtechbfodaallkaaGreatAmWell8
import Derived.Test.YtechbfodaallkaaGreatTWChecks
/- Well: both answers are one; a plan's copy is the same. -/
set_option linter.unusedVariables false
set_option maxRecDepth 10000
set_option linter.unusedSimpArgs false
namespace Go.Proofs.YtechbfodaallkaaGreat.Am
open Go

/-! ### A plan is the same as itself -/
end Go.Proofs.YtechbfodaallkaaGreat.Am
