import Derived.Test.YtiblnpnfaadmcaaGreatAmGeom2w
/- The document's geometry. -/
set_option linter.unusedVariables false
set_option maxRecDepth 10000
set_option linter.unusedSimpArgs false
namespace Go.Proofs.YtiblnpnfaadmcaaGreat.Am
open Go
section
variable {h : Heap} {ax ay bx b_ cx cy dx dy : Rat}
theorem k5on (h1 : Rz ax 2000) (h2 : Rz ay 2000) (h3 : Rz bx 2000) (h4 : Rz b_ 2000) (h5 : Rz cx 2000) (h6 : Rz cy 2000) : byVal (callW gp) h fid.gussetref05_On [pa ax ay, pa bx b_, pa cx cy] = some (.bool (decide (onP ax ay bx b_ cx cy))) := zy1m (zy75 zy7m zy7m zy7m) (by
 rw [gussetref05_On.eq]
 unfold gussetref05_On.f
 have hb := zyfa (discQ ax ay bx b_ cx cy)
 by_cases q1 : area ax ay bx b_ cx cy = 0
 ·have s1 := rsgn_zero.2 q1
  by_cases q2 : discQ ax ay bx b_ cx cy ≤ 0
  ·have s2 := rsgn_le.2 q2
   have q : onP ax ay bx b_ cx cy := ⟨q1, q2⟩
   rw [decide_eq_true q]
   have e : decide ((0 : Int) ≤ -(rsgn (discQ ax ay bx b_ cx cy))) = true := decide_eq_true (by omega)
   simp (disch := first | exact dD | fail) only [Wd, W2d, W3d, Nat.reduceAdd, Nat.reduceMul, Nat.reduceSub, zy8r, zy8q, s1, e]
  ·have s2 : ¬ rsgn (discQ ax ay bx b_ cx cy) ≤ 0 := fun h => q2 (rsgn_le.1 h)
   have q : ¬ onP ax ay bx b_ cx cy := fun h => q2 h.2
   rw [decide_eq_false q]
   have e : decide ((0 : Int) ≤ -(rsgn (discQ ax ay bx b_ cx cy))) = false := decide_eq_false (by omega)
   simp (disch := first | exact dD | fail) only [Wd, W2d, W3d, Nat.reduceAdd, Nat.reduceMul, Nat.reduceSub, zy8r, zy8q, s1, e]
 ·have s1 := fun h => q1 (rsgn_zero.1 h)
  have q : ¬ onP ax ay bx b_ cx cy := fun h => q1 h.1
  rw [decide_eq_false q]
  simp (disch := first | exact dD | fail) only [Wd, W2d, W3d, Nat.reduceAdd, Nat.reduceMul, Nat.reduceSub, zy8r, zy8q, s1])
theorem k_5meet (g1 : Rz ax 2000) (g2 : Rz ay 2000) (g3 : Rz bx 2000) (g4 : Rz b_ 2000) (g5 : Rz cx 2000) (g6 : Rz cy 2000) (g7 : Rz dx 2000) (g8 : Rz dy 2000) : byVal (callW gp) h fid.zf0g [pa ax ay, pa bx b_, pa cx cy, pa dx dy] = some (.int .i64 (meetQ ax ay bx b_ cx cy dx dy)) := zy1m (zy76 zy7m zy7m zy7m zy7m) (by
 rw [zf0g.eq]
 unfold zf0g.f
 have o1 := fun h => k5on (h := h) g1 g2 g3 g4 g5 g6
 have o2 := fun h => k5on (h := h) g1 g2 g3 g4 g7 g8
 have o3 := fun h => k5on (h := h) g5 g6 g7 g8 g1 g2
 have o4 := fun h => k5on (h := h) g5 g6 g7 g8 g3 g4
 unfold meetQ
 by_cases q1 : onP ax ay bx b_ cx cy
 ·rw [if_pos (.inl q1)]; rw [decide_eq_true q1] at o1
  simp (disch := first | exact dD | fail) only [Wd, W2d, W3d, Nat.reduceAdd, Nat.reduceMul, Nat.reduceSub, o1]
 rw [decide_eq_false q1] at o1
 by_cases q2 : onP ax ay bx b_ dx dy
 ·rw [if_pos (.inr (.inl q2))]; rw [decide_eq_true q2] at o2
  simp (disch := first | exact dD | fail) only [Wd, W2d, W3d, Nat.reduceAdd, Nat.reduceMul, Nat.reduceSub, o1, o2]
 rw [decide_eq_false q2] at o2
 by_cases q3 : onP cx cy dx dy ax ay
 ·rw [if_pos (.inr (.inr (.inl q3)))]; rw [decide_eq_true q3] at o3
  simp (disch := first | exact dD | fail) only [Wd, W2d, W3d, Nat.reduceAdd, Nat.reduceMul, Nat.reduceSub, o1, o2, o3]
 rw [decide_eq_false q3] at o3
 by_cases q4 : onP cx cy dx dy bx b_
 ·rw [if_pos (.inr (.inr (.inr q4)))]; rw [decide_eq_true q4] at o4
  simp (disch := first | exact dD | fail) only [Wd, W2d, W3d, Nat.reduceAdd, Nat.reduceMul, Nat.reduceSub, o1, o2, o3, o4]
 rw [decide_eq_false q4] at o4
 rw [if_neg (by rintro (h | h | h | h) <;> contradiction)]
 by_cases r1 : rsgn (area ax ay bx b_ cx cy) * rsgn (area ax ay bx b_ dx dy) < 0
 ·by_cases r2 : rsgn (area cx cy dx dy ax ay) * rsgn (area cx cy dx dy bx b_) < 0
  ·rw [if_pos ⟨r1, r2⟩]
   simp (disch := first | exact dD | fail) only [Wd, W2d, W3d, Nat.reduceAdd, Nat.reduceMul, Nat.reduceSub, o1, o2, o3, o4, zy8r, zyg2]
  ·rw [if_neg fun h => r2 h.2]
   simp (disch := first | exact dD | fail) only [Wd, W2d, W3d, Nat.reduceAdd, Nat.reduceMul, Nat.reduceSub, o1, o2, o3, o4, zy8r, zyg2]
 ·rw [if_neg fun h => r1 h.1]
  simp (disch := first | exact dD | fail) only [Wd, W2d, W3d, Nat.reduceAdd, Nat.reduceMul, Nat.reduceSub, o1, o2, o3, o4, zy8r, zyg2])
end
end Go.Proofs.YtiblnpnfaadmcaaGreat.Am
