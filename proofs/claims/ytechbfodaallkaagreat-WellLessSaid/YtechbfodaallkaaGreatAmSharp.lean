import Derived.Test.YtechbfodaallkaaGreatAmCons
import Derived.Test.YtechbfodaallkaaGreatTRef6
/- Whether an angle is sharp; both texts (out of AmCons2). -/
set_option linter.unusedVariables false
set_option maxRecDepth 10000
set_option linter.unusedSimpArgs false
namespace Go.Proofs.YtechbfodaallkaaGreat.Am
open Go

section
variable {h : Heap} {ax ay bx b_ cx cy : Rat}
theorem k_sharp (h1 : Rz ax 100) (h2 : Rz ay 100) (h3 : Rz bx 100) (h4 : Rz b_ 100) (h5 : Rz cx 100) (h6 : Rz cy 100) (n1 : ¬ (ax = bx ∧ ay = b_)) (n2 : ¬ (cx = bx ∧ cy = b_)) : byVal (callW gp) h fid.cons_Sharp [pa ax ay, pa bx b_, pa cx cy] = some (.tup [.bool (sharpQ ax ay bx b_ cx cy), .int .i64 0]) := byVal_imm (imm_L3 imm_pa imm_pa imm_pa) (by
  rw [cons_Sharp.eq]
  unfold cons_Sharp.f sharpQ
  have o4 := fun h => k_rof (h := h) (z := 4) (by omega) (by omega)
  by_cases q1 : (ax - bx) * (cx - bx) + (ay - b_) * (cy - b_) ≤ 0
  · rw [if_pos q1]
    have s1 : rsgn ((ax - bx) * (cx - bx) + (ay - b_) * (cy - b_)) ≤ 0 := rsgn_le.2 q1
    simp (disch := first | exact dE | fail) only [Wd, W2d, W3d, Nat.reduceAdd, Nat.reduceMul, Nat.reduceSub, k_cask3, eqa_p, c_cminus, c_cdot, k_rsign]
  · rw [if_neg q1]
    have s1 : ¬ rsgn ((ax - bx) * (cx - bx) + (ay - b_) * (cy - b_)) ≤ 0 := fun hh => q1 (rsgn_le.1 hh)
    have hb := cmpQ_bd (((4 : Int) : Rat) * (((ax - bx) * (cx - bx) + (ay - b_) * (cy - b_)) * ((ax - bx) * (cx - bx) + (ay - b_) * (cy - b_)))) (((ax - bx) * (ax - bx) + (ay - b_) * (ay - b_)) * ((cx - bx) * (cx - bx) + (cy - b_) * (cy - b_)))
    have hg : (decide (0 < cmpQ (((4 : Int) : Rat) * (((ax - bx) * (cx - bx) + (ay - b_) * (cy - b_)) * ((ax - bx) * (cx - bx) + (ay - b_) * (cy - b_)))) (((ax - bx) * (ax - bx) + (ay - b_) * (ay - b_)) * ((cx - bx) * (cx - bx) + (cy - b_) * (cy - b_))))) = decide (((ax - bx) * (ax - bx) + (ay - b_) * (ay - b_)) * ((cx - bx) * (cx - bx) + (cy - b_) * (cy - b_)) < ((4 : Int) : Rat) * (((ax - bx) * (cx - bx) + (ay - b_) * (cy - b_)) * ((ax - bx) * (cx - bx) + (ay - b_) * (cy - b_)))) := by rw [decide_eq_decide]; exact cmpQ_gt
    simp (disch := first | exact dE | fail) only [Wd, W2d, W3d, Nat.reduceAdd, Nat.reduceMul, Nat.reduceSub, k_cask3, eqa_p, c_cminus, c_cdot, k_rsign, c_cprod, c_corder, o4, gt_iff_lt, hg])
end
end Go.Proofs.YtechbfodaallkaaGreat.Am
