import Derived.Test.YtiblnpnfaadmcaaGreatAmPlan13
/- Section 09: PlanLeast. -/
set_option linter.unusedVariables false
set_option maxRecDepth 10000
set_option linter.unusedSimpArgs false
namespace Go.Proofs.YtiblnpnfaadmcaaGreat.Am
open Go

theorem CpR.hd {c c' : List AV} {T : Heap} {y : AV} {sz n : Nat} {cs : List AV} (h : CpR (some c :: T) y sz n cs) (hj : ∀ id, y = .rs sz id 0 n → id ≠ 0) : CpR (some c' :: T) y sz n cs := CpR.set h hj (some c') (by simp)
end Go.Proofs.YtiblnpnfaadmcaaGreat.Am
