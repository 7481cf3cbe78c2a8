import Derived.Test.YtechbfodaallkaaGreatAmWell7
/- Well, the document's answer: the first thing that is wrong. -/
set_option linter.unusedVariables false
set_option maxRecDepth 10000
set_option linter.unusedSimpArgs false
namespace Go.Proofs.YtechbfodaallkaaGreat.Am
open Go

section
variable {q : Pq}
end
/-! ### First -/
section
variable {q : Pq}
end
end Go.Proofs.YtechbfodaallkaaGreat.Am
