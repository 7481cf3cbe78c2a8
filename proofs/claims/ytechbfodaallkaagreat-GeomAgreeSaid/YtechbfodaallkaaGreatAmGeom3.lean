import Derived.Test.YtechbfodaallkaaGreatAmGeom2
/- The document's geometry. -/
set_option linter.unusedVariables false
set_option maxRecDepth 10000
set_option linter.unusedSimpArgs false
namespace Go.Proofs.YtechbfodaallkaaGreat.Am
open Go
section
variable {h : Heap} {ax ay bx b_ cx cy dx dy : Rat}
theorem k5on (h1 : Rz ax 2000) (h2 : Rz ay 2000) (h3 : Rz bx 2000) (h4 : Rz b_ 2000) (h5 : Rz cx 2000) (h6 : Rz cy 2000) : byVal (callW gp) h fid.gussetref05_On [pa ax ay, pa bx b_, pa cx cy] = some (.bool (decide (onP ax ay bx b_ cx cy))) := byVal_imm (imm_L3 imm_pa imm_pa imm_pa) (by
  rw [gussetref05_On.eq]
  unfold gussetref05_On.f
  have hb := rsgn_bd (discQ ax ay bx b_ cx cy)
  by_cases q1 : area ax ay bx b_ cx cy = 0
  · have s1 := rsgn_zero.2 q1
    by_cases q2 : discQ ax ay bx b_ cx cy ≤ 0
    · have s2 := rsgn_le.2 q2
      have q : onP ax ay bx b_ cx cy := ⟨q1, q2⟩
      rw [decide_eq_true q]
      have e : decide ((0 : Int) ≤ -(rsgn (discQ ax ay bx b_ cx cy))) = true := decide_eq_true (by omega)
      simp (disch := first | exact dD | fail) only [Wd, W2d, W3d, Nat.reduceAdd, Nat.reduceMul, Nat.reduceSub, k_5orient, k_5disc, s1, e]
    · have s2 : ¬ rsgn (discQ ax ay bx b_ cx cy) ≤ 0 := fun h => q2 (rsgn_le.1 h)
      have q : ¬ onP ax ay bx b_ cx cy := fun h => q2 h.2
      rw [decide_eq_false q]
      have e : decide ((0 : Int) ≤ -(rsgn (discQ ax ay bx b_ cx cy))) = false := decide_eq_false (by omega)
      simp (disch := first | exact dD | fail) only [Wd, W2d, W3d, Nat.reduceAdd, Nat.reduceMul, Nat.reduceSub, k_5orient, k_5disc, s1, e]
  · have s1 := fun h => q1 (rsgn_zero.1 h)
    have q : ¬ onP ax ay bx b_ cx cy := fun h => q1 h.1
    rw [decide_eq_false q]
    simp (disch := first | exact dD | fail) only [Wd, W2d, W3d, Nat.reduceAdd, Nat.reduceMul, Nat.reduceSub, k_5orient, k_5disc, s1])
end
end Go.Proofs.YtechbfodaallkaaGreat.Am
