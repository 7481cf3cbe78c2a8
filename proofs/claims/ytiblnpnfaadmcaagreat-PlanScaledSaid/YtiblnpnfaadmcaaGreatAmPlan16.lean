import Derived.Test.YtiblnpnfaadmcaaGreatAmPlan15
/- Section 09: PlanFewer. -/
set_option linter.unusedVariables false
set_option maxRecDepth 10000
set_option linter.unusedSimpArgs false
namespace Go.Proofs.YtiblnpnfaadmcaaGreat.Am
open Go

structure LO (xs : List PT) (gs : List Sg) (v : List AV) (e : Int) : Prop where
  c : CellsOK v 3
  r : readCells v (some 3) = some (.agg v)
  k : ∀ h, byVal (callW gp) h fid.zf0j [.is xs.length false (xs.flatMap ptc), .is gs.length false (gs.flatMap sgc)] = some (.tup [.agg v, .int .i64 e])
theorem lo_ok {ps : List (Rat × Rat)} {ss : List Sq} (hz : PZ ps) (hsv : SV ps.length ss) (h2 : 2 ≤ ps.length) (hn : ps.length ≤ 40) (hm : ss.length ≤ 60) : LO (ps.map pc) (ss.map sq_) (rcl (leastQ ps ss)) 0 :=
  ⟨⟨rfl, rfl⟩, rcl_rd, fun h => by
    have := k_least (h := h) hz hsv h2 hn hm
    unfold pcs scs at this
    rw [List.length_map, List.length_map]
    exact this⟩
section
variable {ps : List (Rat × Rat)} {f : Bool} {cid : Nat} {c : Rat}
theorem far_rd {i k : Nat} (hz : PZ ps) (hi : i < ps.length) (hk : k < ps.length) : Rz (dF ps i k) 1500 := by
  obtain ⟨z1, z2⟩ := hz i hi
  obtain ⟨z3', z4⟩ := hz k hk
  exact far_z40 z1 z2 z3' z4
end
end Go.Proofs.YtiblnpnfaadmcaaGreat.Am
