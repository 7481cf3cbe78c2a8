import Derived.Test.YtiblnpnfaadmcaaGreatAmPlan16
/- Section 09: PlanFewer's law. -/
set_option linter.unusedVariables false
set_option maxRecDepth 10000
set_option linter.unusedSimpArgs false
namespace Go.Proofs.YtiblnpnfaadmcaaGreat.Am
open Go

section
variable {ps : List (Rat × Rat)} {ss : List Sq}
end
theorem LO.nil {xs : List PT} {v : List AV} {e : Int} (h : LO xs [] v e) (H : Heap) : byVal (callW gp) H fid.zf0j [.is xs.length false (xs.flatMap ptc), .is 0 true []] = some (.tup [.agg v, .int .i64 e]) :=
  byVal_via (mapM2 frz_isP (frz_isS (xs := []))) (by simp only [List.all_cons, List.all_nil, Bool.and_true, nr_isP]; rfl) (imm_L2p imm_isP (imm_isS (gs := []))) (h.k H)
end Go.Proofs.YtiblnpnfaadmcaaGreat.Am
