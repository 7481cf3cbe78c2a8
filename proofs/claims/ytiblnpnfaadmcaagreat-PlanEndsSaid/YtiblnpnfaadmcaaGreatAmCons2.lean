import Derived.Test.YtiblnpnfaadmcaaGreatAmCons
import Derived.Test.YtiblnpnfaadmcaaGreatTCen
import Derived.Test.YtiblnpnfaadmcaaGreatTCen6
import Derived.Test.YtiblnpnfaadmcaaGreatTRef6
/- Distances, middles, centres: cons with its errors, and the document's answer (printed by gencons.py). -/
set_option linter.unusedVariables false
set_option maxRecDepth 10000
set_option linter.unusedSimpArgs false
namespace Go.Proofs.YtiblnpnfaadmcaaGreat.Am
open Go

section
variable {h : Heap} {x y u v ax ay bx b_ cx cy : Rat}

theorem k_near (h1 : Rz ax 100) (h2 : Rz ay 100) (h3 : Rz bx 100) (h4 : Rz b_ 100) (h5 : Rz cx 100) (h6 : Rz cy 100) : byVal (callW gp) h fid.zf2g [pa ax ay, pa bx b_, pa cx cy] = some (.tup [ra (nearQ ax ay bx b_ cx cy), .int .i64 0]) := byVal_imm (imm_L3 imm_pa imm_pa imm_pa) (by
  rw [zf2g.eq]
  unfold zf2g.f nearQ
  by_cases q1 : (cx - ax) * (bx - ax) + (cy - ay) * (b_ - ay) ≤ 0
  · rw [if_pos q1]
    have s1 : rsgn ((cx - ax) * (bx - ax) + (cy - ay) * (b_ - ay)) ≤ 0 := rsgn_le.2 q1
    simp (disch := first | exact dE | fail) only [Wd, W2d, W3d, Nat.reduceAdd, Nat.reduceMul, Nat.reduceSub, k_cask3, c_cminus, c_cdot, k_rsign, c_cfar]
  rw [if_neg q1]
  have s1 : ¬ rsgn ((cx - ax) * (bx - ax) + (cy - ay) * (b_ - ay)) ≤ 0 := fun hh => q1 (rsgn_le.1 hh)
  by_cases q2 : 0 ≤ (cx - bx) * (bx - ax) + (cy - b_) * (b_ - ay)
  · rw [if_pos q2]
    have s2 : 0 ≤ rsgn ((cx - bx) * (bx - ax) + (cy - b_) * (b_ - ay)) := rsgn_ge.2 q2
    simp (disch := first | exact dE | fail) only [Wd, W2d, W3d, Nat.reduceAdd, Nat.reduceMul, Nat.reduceSub, k_cask3, c_cminus, c_cdot, k_rsign, c_cfar]
  · rw [if_neg q2]
    have s2 : ¬ 0 ≤ rsgn ((cx - bx) * (bx - ax) + (cy - b_) * (b_ - ay)) := fun hh => q2 (rsgn_ge.1 hh)
    have n0 : (bx - ax) * (bx - ax) + (b_ - ay) * (b_ - ay) ≠ 0 := fun hh => by
      have hx : bx - ax = 0 := by
        have a1 := sq_nn (bx - ax); have a2 := sq_nn (b_ - ay)
        have : (bx - ax) * (bx - ax) = 0 := by grind
        rcases Rat.mul_eq_zero.1 this with h | h <;> exact h
      have hy : b_ - ay = 0 := by
        have a1 := sq_nn (bx - ax); have a2 := sq_nn (b_ - ay)
        have : (b_ - ay) * (b_ - ay) = 0 := by grind
        rcases Rat.mul_eq_zero.1 this with h | h <;> exact h
      exact q1 (by rw [hx, hy]; grind)
    simp (disch := first | exact dE | fail) only [Wd, W2d, W3d, Nat.reduceAdd, Nat.reduceMul, Nat.reduceSub, k_cask3, c_cminus, c_cdot, c_ccross, c_cprod, c_cover, k_rsign, c_cfar])
end
end Go.Proofs.YtiblnpnfaadmcaaGreat.Am
