import Derived.Test.YtojfiboeghonoaaGreatAmLoc4
/- Where points lie in a mesh: the way, the document's answer. -/
set_option linter.unusedVariables false
set_option maxRecDepth 10000
set_option linter.unusedSimpArgs false
namespace Go.Proofs.YtojfiboeghonoaaGreat.Am
open Go

section
variable {q : Mq} {i : Nat} {x y : Rat}
variable {h : Heap} {t : Int}
end
end Go.Proofs.YtojfiboeghonoaaGreat.Am
