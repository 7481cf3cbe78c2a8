import Derived.Test.YtechbfodaallkaaGreatAmGp
set_option linter.unusedVariables false
set_option maxRecDepth 10000
set_option maxHeartbeats 0
namespace Go.Proofs.YtechbfodaallkaaGreat.Am
open Go
/-! gusset gussetref10.First -/
/-! gusset gussetref10.asked -/
/-! gusset gussetref09.Ends -/
/-! gusset gussetref10.crossed -/
/-! gusset gussetref10.sharp -/
/-! gusset gussetref10.common -/
/-! gusset gussetref09.Share -/
end Go.Proofs.YtechbfodaallkaaGreat.Am
