import Derived.Test.YtiblnpnfaadmcaaGreatAmPlan16
/- Section 09: PlanFewer's law. -/
set_option linter.unusedVariables false
set_option maxRecDepth 10000
set_option linter.unusedSimpArgs false
namespace Go.Proofs.YtiblnpnfaadmcaaGreat.Am
open Go

section
variable {ps : List (Rat × Rat)} {ss : List Sq}
theorem sv_mem {n : Nat} {s : Sq} (h : SV n ss) (hs : s ∈ ss) : s.1 < n ∧ s.2.1 < n := by
  obtain ⟨i, hi, rfl⟩ := List.getElem_of_mem hs
  have e : sat ss i = ss[i] := by unfold sat; simp [List.getD, List.getElem?_eq_getElem hi]
  have := h i hi
  rw [e] at this
  exact this
theorem least_z (hz : PZ ps) (hsv : SV ps.length ss) (h2 : 2 ≤ ps.length) : Rz (leastQ ps ss) 1500 := by
  have h := (least_ok (ss := ss) h2).2.1
  generalize leastQ ps ss = m at *
  cases h with
  | far i k hk hi => exact far_rd hz hi (by omega)
  | near i s hi hs h =>
    obtain ⟨v1, v2⟩ := sv_mem hsv hs
    obtain ⟨z1, z2⟩ := hz _ v1
    obtain ⟨z3', z4⟩ := hz _ v2
    obtain ⟨z5, z6'⟩ := hz _ hi
    exact near_z z1 z2 z3' z4 z5 z6'
  | apart i k hk hi h1 h2 =>
    obtain ⟨v1, v2⟩ := hsv i hi
    obtain ⟨w1, w2⟩ := hsv k (by omega)
    obtain ⟨z1, z2⟩ := hz _ v1
    obtain ⟨z3', z4⟩ := hz _ v2
    obtain ⟨z5, z6'⟩ := hz _ w1
    obtain ⟨z7, z8⟩ := hz _ w2
    exact apart_z z1 z2 z3' z4 z5 z6' z7 z8
end
theorem LO.nil {xs : List PT} {v : List AV} {e : Int} (h : LO xs [] v e) (H : Heap) : byVal (callW gp) H fid.zf0j [.is xs.length false (xs.flatMap ptc), .is 0 true []] = some (.tup [.agg v, .int .i64 e]) :=
  byVal_via (mapM2 frz_isP (frz_isS (xs := []))) (by simp only [List.all_cons, List.all_nil, Bool.and_true, nr_isP]; rfl) (imm_L2p imm_isP (imm_isS (gs := []))) (h.k H)
theorem bldz9 : opBld [.bool false, .str ⟨#[]⟩, .str ⟨#[]⟩] [] = some (.agg z3) := bldz
end Go.Proofs.YtiblnpnfaadmcaaGreat.Am
