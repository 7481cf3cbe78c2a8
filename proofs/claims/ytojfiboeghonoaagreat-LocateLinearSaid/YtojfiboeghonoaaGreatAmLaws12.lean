import Derived.Test.YtojfiboeghonoaaGreatAmLoc9
/- Section 12: the laws that need no corners. -/
set_option linter.unusedVariables false
set_option maxRecDepth 10000
set_option linter.unusedSimpArgs false
namespace Go.Proofs.YtojfiboeghonoaaGreat.Am
open Go

theorem notT : opUn .not (.bool true) = some (.bool false) := Eq.trans rfl rfl
theorem notF : opUn .not (.bool false) = some (.bool true) := Eq.trans rfl rfl
section
end
end Go.Proofs.YtojfiboeghonoaaGreat.Am
