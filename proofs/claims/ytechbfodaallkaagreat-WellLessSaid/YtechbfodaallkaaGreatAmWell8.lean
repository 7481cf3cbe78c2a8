import Derived.Test.YtechbfodaallkaaGreatAmWell5
import Derived.Test.YtechbfodaallkaaGreatAmGeom3w
import Derived.Test.YtechbfodaallkaaGreatTRef10
/- Well, the document's answer: what is asked, what two segments have in common. -/
set_option linter.unusedVariables false
set_option maxRecDepth 10000
set_option linter.unusedSimpArgs false
namespace Go.Proofs.YtechbfodaallkaaGreat.Am
open Go

section
variable {h : Heap}
end
end Go.Proofs.YtechbfodaallkaaGreat.Am

/- Well, the document's answer: pairs of segments. -/
set_option linter.unusedVariables false
set_option maxRecDepth 10000
set_option linter.unusedSimpArgs false
namespace Go.Proofs.YtechbfodaallkaaGreat.Am
open Go

section
variable {h : Heap}
end
end Go.Proofs.YtechbfodaallkaaGreat.Am

/- Well, the document's answer: the first thing that is wrong. -/
set_option linter.unusedVariables false
set_option maxRecDepth 10000
set_option linter.unusedSimpArgs false
namespace Go.Proofs.YtechbfodaallkaaGreat.Am
open Go

section
variable {q : Pq}
end
/-! ### First -/
section
variable {q : Pq}
end
end Go.Proofs.YtechbfodaallkaaGreat.Am
