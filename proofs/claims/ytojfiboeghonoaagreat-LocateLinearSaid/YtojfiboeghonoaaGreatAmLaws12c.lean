import Derived.Test.YtojfiboeghonoaaGreatAmLaws12b
/- Section 12: what a function is at a point. -/
set_option linter.unusedVariables false
set_option maxRecDepth 10000
set_option linter.unusedSimpArgs false
namespace Go.Proofs.YtojfiboeghonoaaGreat.Am
open Go

section
variable {q : Mq} {x y : Rat} {us : List Rat} {h : Heap}
theorem eqa_rr {r : Rat} : opEqa false [.b, .s, .s] (ra r) (ra r) = some (.bool true) := by rw [eqa_r, decide_eq_true rfl]
end
section
end
end Go.Proofs.YtojfiboeghonoaaGreat.Am
