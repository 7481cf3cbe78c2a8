import Derived.Test.YtechbfodaallkaaGreatAmWell6
/- Well, the document's answer: pairs of segments. -/
set_option linter.unusedVariables false
set_option maxRecDepth 10000
set_option linter.unusedSimpArgs false
namespace Go.Proofs.YtechbfodaallkaaGreat.Am
open Go

section
variable {h : Heap}
end
end Go.Proofs.YtechbfodaallkaaGreat.Am
