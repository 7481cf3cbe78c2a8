import Derived.Test.YtojfiboeghonoaaGreatAmLaws12
import Derived.Test.YtojfiboeghonoaaGreatAmLoc10
/- Section 12: where a point lies, what a function is there, where ways end. -/
set_option linter.unusedVariables false
set_option maxRecDepth 10000
set_option linter.unusedSimpArgs false
namespace Go.Proofs.YtojfiboeghonoaaGreat.Am
open Go

section
/-! ### Ways end -/
theorem rsgn_one {q : Rat} (h : 0 < q) : rsgn q = 1 := by
  have h5 := @rsgn_le q
  have h6 := rsgn_bd q
  have : ¬ rsgn q ≤ 0 := fun hh => by have := h5.1 hh; grind
  omega
end
end Go.Proofs.YtojfiboeghonoaaGreat.Am
