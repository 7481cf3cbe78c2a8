import Derived.Test.YtojfiboeghonoaaGreatAmGp
set_option linter.unusedVariables false
set_option maxRecDepth 10000
set_option maxHeartbeats 0
namespace Go.Proofs.YtojfiboeghonoaaGreat.Am
open Go
/-! gusset gussetref06.Area2 -/
end Go.Proofs.YtojfiboeghonoaaGreat.Am
