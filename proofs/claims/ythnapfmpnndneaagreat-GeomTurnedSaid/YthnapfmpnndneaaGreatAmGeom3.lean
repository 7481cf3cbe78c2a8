import Derived.Test.YthnapfmpnndneaaGreatAmGeom2
/- The document's geometry. -/
set_option linter.unusedVariables false
set_option maxRecDepth 10000
set_option linter.unusedSimpArgs false
namespace Go.Proofs.YthnapfmpnndneaaGreat.Am
open Go
section
variable {h : Heap} {ax ay bx b_ cx cy dx dy : Rat}
theorem k5on (h1 : Rz ax 2000) (h2 : Rz ay 2000) (h3 : Rz bx 2000) (h4 : Rz b_ 2000) (h5 : Rz cx 2000) (h6 : Rz cy 2000) : byVal (callW gp) h fid.gussetref05_On [pa ax ay, pa bx b_, pa cx cy] = some (.bool (decide (onP ax ay bx b_ cx cy))) := byVal_imm (imm_L3 imm_pa imm_pa imm_pa) (by
  rw [gussetref05_On.eq]
  unfold gussetref05_On.f
  have hb := rsgn_bd (discQ ax ay bx b_ cx cy)
  by_cases q1 : area ax ay bx b_ cx cy = 0
  · have s1 := rsgn_zero.2 q1
    by_cases q2 : discQ ax ay bx b_ cx cy ≤ 0
    · have s2 := rsgn_le.2 q2
      have q : onP ax ay bx b_ cx cy := ⟨q1, q2⟩
      rw [decide_eq_true q]
      have e : decide ((0 : Int) ≤ -(rsgn (discQ ax ay bx b_ cx cy))) = true := decide_eq_true (by omega)
      simp (disch := first | exact dD | fail) only [Wd, W2d, W3d, Nat.reduceAdd, Nat.reduceMul, Nat.reduceSub, k_5orient, k_5disc, s1, e]
    · have s2 : ¬ rsgn (discQ ax ay bx b_ cx cy) ≤ 0 := fun h => q2 (rsgn_le.1 h)
      have q : ¬ onP ax ay bx b_ cx cy := fun h => q2 h.2
      rw [decide_eq_false q]
      have e : decide ((0 : Int) ≤ -(rsgn (discQ ax ay bx b_ cx cy))) = false := decide_eq_false (by omega)
      simp (disch := first | exact dD | fail) only [Wd, W2d, W3d, Nat.reduceAdd, Nat.reduceMul, Nat.reduceSub, k_5orient, k_5disc, s1, e]
  · have s1 := fun h => q1 (rsgn_zero.1 h)
    have q : ¬ onP ax ay bx b_ cx cy := fun h => q1 h.1
    rw [decide_eq_false q]
    simp (disch := first | exact dD | fail) only [Wd, W2d, W3d, Nat.reduceAdd, Nat.reduceMul, Nat.reduceSub, k_5orient, k_5disc, s1])
theorem k_5meet (g1 : Rz ax 2000) (g2 : Rz ay 2000) (g3 : Rz bx 2000) (g4 : Rz b_ 2000) (g5 : Rz cx 2000) (g6 : Rz cy 2000) (g7 : Rz dx 2000) (g8 : Rz dy 2000) : byVal (callW gp) h fid.gussetref05_Meet [pa ax ay, pa bx b_, pa cx cy, pa dx dy] = some (.int .i64 (meetQ ax ay bx b_ cx cy dx dy)) := byVal_imm (imm_L4 imm_pa imm_pa imm_pa imm_pa) (by
  rw [gussetref05_Meet.eq]
  unfold gussetref05_Meet.f
  have o1 := fun h => k5on (h := h) g1 g2 g3 g4 g5 g6
  have o2 := fun h => k5on (h := h) g1 g2 g3 g4 g7 g8
  have o3 := fun h => k5on (h := h) g5 g6 g7 g8 g1 g2
  have o4 := fun h => k5on (h := h) g5 g6 g7 g8 g3 g4
  unfold meetQ
  by_cases q1 : onP ax ay bx b_ cx cy
  · rw [if_pos (.inl q1)]; rw [decide_eq_true q1] at o1
    simp (disch := first | exact dD | fail) only [Wd, W2d, W3d, Nat.reduceAdd, Nat.reduceMul, Nat.reduceSub, o1]
  rw [decide_eq_false q1] at o1
  by_cases q2 : onP ax ay bx b_ dx dy
  · rw [if_pos (.inr (.inl q2))]; rw [decide_eq_true q2] at o2
    simp (disch := first | exact dD | fail) only [Wd, W2d, W3d, Nat.reduceAdd, Nat.reduceMul, Nat.reduceSub, o1, o2]
  rw [decide_eq_false q2] at o2
  by_cases q3 : onP cx cy dx dy ax ay
  · rw [if_pos (.inr (.inr (.inl q3)))]; rw [decide_eq_true q3] at o3
    simp (disch := first | exact dD | fail) only [Wd, W2d, W3d, Nat.reduceAdd, Nat.reduceMul, Nat.reduceSub, o1, o2, o3]
  rw [decide_eq_false q3] at o3
  by_cases q4 : onP cx cy dx dy bx b_
  · rw [if_pos (.inr (.inr (.inr q4)))]; rw [decide_eq_true q4] at o4
    simp (disch := first | exact dD | fail) only [Wd, W2d, W3d, Nat.reduceAdd, Nat.reduceMul, Nat.reduceSub, o1, o2, o3, o4]
  rw [decide_eq_false q4] at o4
  rw [if_neg (by rintro (h | h | h | h) <;> contradiction)]
  by_cases r1 : rsgn (area ax ay bx b_ cx cy) * rsgn (area ax ay bx b_ dx dy) < 0
  · by_cases r2 : rsgn (area cx cy dx dy ax ay) * rsgn (area cx cy dx dy bx b_) < 0
    · rw [if_pos ⟨r1, r2⟩]
      simp (disch := first | exact dD | fail) only [Wd, W2d, W3d, Nat.reduceAdd, Nat.reduceMul, Nat.reduceSub, o1, o2, o3, o4, k_5orient, sgn_mulQ]
    · rw [if_neg fun h => r2 h.2]
      simp (disch := first | exact dD | fail) only [Wd, W2d, W3d, Nat.reduceAdd, Nat.reduceMul, Nat.reduceSub, o1, o2, o3, o4, k_5orient, sgn_mulQ]
  · rw [if_neg fun h => r1 h.1]
    simp (disch := first | exact dD | fail) only [Wd, W2d, W3d, Nat.reduceAdd, Nat.reduceMul, Nat.reduceSub, o1, o2, o3, o4, k_5orient, sgn_mulQ])
theorem k_5within (g1 : Rz ax 2000) (g2 : Rz ay 2000) (g3 : Rz bx 2000) (g4 : Rz b_ 2000) (g5 : Rz cx 2000) (g6 : Rz cy 2000) (g7 : Rz dx 2000) (g8 : Rz dy 2000) : byVal (callW gp) h fid.gussetref05_Within [pa ax ay, pa bx b_, pa cx cy, pa dx dy] = some (.int .i64 (withinQ ax ay bx b_ cx cy dx dy)) := byVal_imm (imm_L4 imm_pa imm_pa imm_pa imm_pa) (by
  rw [gussetref05_Within.eq]
  unfold gussetref05_Within.f withinQ
  simp (disch := first | exact dD | fail) only [Wd, W2d, W3d, Nat.reduceAdd, Nat.reduceMul, Nat.reduceSub, k_5orient, sgn_mulQ, mm3])
theorem k_5crossing (h1 : Rz ax 100) (h2 : Rz ay 100) (h3 : Rz bx 100) (h4 : Rz b_ 100) (h5 : Rz cx 100) (h6 : Rz cy 100) (h7 : Rz dx 100) (h8 : Rz dy 100) (h0 : (bx - ax) * (dy - cy) - (b_ - ay) * (dx - cx) ≠ 0) : byVal (callW gp) h fid.gussetref05_Crossing [pa ax ay, pa bx b_, pa cx cy, pa dx dy] = some (.tup [pa (ax + (bx - ax) * alongQ ax ay bx b_ cx cy dx dy) (ay + (b_ - ay) * alongQ ax ay bx b_ cx cy dx dy), .bool true]) := byVal_imm (imm_L4 imm_pa imm_pa imm_pa imm_pa) (by
  rw [gussetref05_Crossing.eq]
  unfold gussetref05_Crossing.f
  have g1 := h1.mono (m := 20000) (by omega)
  have g2 := h2.mono (m := 20000) (by omega)
  have g3 := h3.mono (m := 20000) (by omega)
  have g4 := h4.mono (m := 20000) (by omega)
  have g5 := h5.mono (m := 20000) (by omega)
  have g6 := h6.mono (m := 20000) (by omega)
  have g7 := h7.mono (m := 20000) (by omega)
  have g8 := h8.mono (m := 20000) (by omega)
  have d1 := (h3.sub h1).mono (m := 3900) (by omega)
  have d2 := (h4.sub h2).mono (m := 3900) (by omega)
  have q1 := d1.mono (m := 9000) (by omega)
  have q2 := d2.mono (m := 9000) (by omega)
  have d3 := (h7.sub h5).mono (m := 9000) (by omega)
  have d4 := (h8.sub h6).mono (m := 9000) (by omega)
  have d5 := (h5.sub h1).mono (m := 9000) (by omega)
  have d6 := (h6.sub h2).mono (m := 9000) (by omega)
  have c1 := Rz_cross4 h1 h2 h3 h4 h5 h6 h7 h8
  have c2 : Rz ((cx - ax) * (dy - cy) - (cy - ay) * (dx - cx)) 1000 := (((h5.sub h1).mul (h8.sub h6)).sub ((h6.sub h2).mul (h7.sub h5))).mono (by omega)
  have c3 : Rz (alongQ ax ay bx b_ cx cy dx dy) 2000 := (c2.div c1).mono (by omega)
  have e1 := c1.mono (m := 20000) (by omega)
  have e2 := c2.mono (m := 20000) (by omega)
  have e3 := c3.mono (m := 20000) (by omega)
  have e4 := d1.mono (m := 20000) (by omega)
  have e5 := d2.mono (m := 20000) (by omega)
  have m1 : Rz ((bx - ax) * alongQ ax ay bx b_ cx cy dx dy) 20000 := (d1.mul c3).mono (by omega)
  have m2 : Rz ((b_ - ay) * alongQ ax ay bx b_ cx cy dx dy) 20000 := (d2.mul c3).mono (by omega)
  have e : ((cx - ax) * (dy - cy) - (cy - ay) * (dx - cx)) / ((bx - ax) * (dy - cy) - (b_ - ay) * (dx - cx)) = alongQ ax ay bx b_ cx cy dx dy := rfl
  have z0 : ¬ rsgn ((bx - ax) * (dy - cy) - (b_ - ay) * (dx - cx)) = 0 := fun h => h0 (rsgn_zero.1 h)
  simp (disch := first | exact dD | fail) only [Wd, W2d, W3d, Nat.reduceAdd, Nat.reduceMul, Nat.reduceSub, k_4minus, k_4cross, k_3sign, ← rsgn_eq, k_3div, e, k_4scale, k_4plus]
  rfl)
theorem k_5crossing0 (h1 : Rz ax 100) (h2 : Rz ay 100) (h3 : Rz bx 100) (h4 : Rz b_ 100) (h5 : Rz cx 100) (h6 : Rz cy 100) (h7 : Rz dx 100) (h8 : Rz dy 100) (h0 : (bx - ax) * (dy - cy) - (b_ - ay) * (dx - cx) = 0) : byVal (callW gp) h fid.gussetref05_Crossing [pa ax ay, pa bx b_, pa cx cy, pa dx dy] = some (.tup [.agg [.bool false, .str ⟨#[]⟩, .str ⟨#[]⟩, .bool false, .str ⟨#[]⟩, .str ⟨#[]⟩], .bool false]) := byVal_imm (imm_L4 imm_pa imm_pa imm_pa imm_pa) (by
  rw [gussetref05_Crossing.eq]
  unfold gussetref05_Crossing.f
  have g1 := h1.mono (m := 20000) (by omega)
  have g2 := h2.mono (m := 20000) (by omega)
  have g3 := h3.mono (m := 20000) (by omega)
  have g4 := h4.mono (m := 20000) (by omega)
  have g5 := h5.mono (m := 20000) (by omega)
  have g6 := h6.mono (m := 20000) (by omega)
  have g7 := h7.mono (m := 20000) (by omega)
  have g8 := h8.mono (m := 20000) (by omega)
  have q1 := (h3.sub h1).mono (m := 9000) (by omega)
  have q2 := (h4.sub h2).mono (m := 9000) (by omega)
  have d3 := (h7.sub h5).mono (m := 9000) (by omega)
  have d4 := (h8.sub h6).mono (m := 9000) (by omega)
  have z0 : rsgn ((bx - ax) * (dy - cy) - (b_ - ay) * (dx - cx)) = 0 := rsgn_zero.2 h0
  simp (disch := first | exact dD | fail) only [Wd, W2d, W3d, Nat.reduceAdd, Nat.reduceMul, Nat.reduceSub, k_4minus, k_4cross, k_3sign, ← rsgn_eq, z0]
  rfl)
theorem k_5circle (h1 : Rz ax 100) (h2 : Rz ay 100) (h3 : Rz bx 100) (h4 : Rz b_ 100) (h5 : Rz cx 100) (h6 : Rz cy 100) (h7 : Rz dx 100) (h8 : Rz dy 100) : byVal (callW gp) h fid.gussetref05_Circle [pa ax ay, pa bx b_, pa cx cy, pa dx dy] = some (.int .i64 (rsgn (area ax ay bx b_ cx cy) * rsgn (cirD ax ay bx b_ cx cy dx dy))) := byVal_imm (imm_L4 imm_pa imm_pa imm_pa imm_pa) (by
  rw [gussetref05_Circle.eq]
  unfold gussetref05_Circle.f
  rw [cir_eq, Int.mul_comm]
  have g1 := h1.mono (m := 20000) (by omega)
  have g2 := h2.mono (m := 20000) (by omega)
  have g3 := h3.mono (m := 20000) (by omega)
  have g4 := h4.mono (m := 20000) (by omega)
  have g5 := h5.mono (m := 20000) (by omega)
  have g6 := h6.mono (m := 20000) (by omega)
  have g7 := h7.mono (m := 20000) (by omega)
  have g8 := h8.mono (m := 20000) (by omega)
  have f1 := h1.mono (m := 2000) (by omega)
  have f2 := h2.mono (m := 2000) (by omega)
  have f3 := h3.mono (m := 2000) (by omega)
  have f4 := h4.mono (m := 2000) (by omega)
  have f5 := h5.mono (m := 2000) (by omega)
  have f6 := h6.mono (m := 2000) (by omega)
  have a1 := h1.sub h7
  have a2 := h2.sub h8
  have a3 := h3.sub h7
  have a4 := h4.sub h8
  have a5 := h5.sub h7
  have a6 := h6.sub h8
  have d1 := a1.mono (m := 9000) (by omega)
  have d2 := a2.mono (m := 9000) (by omega)
  have d3 := a3.mono (m := 9000) (by omega)
  have d4 := a4.mono (m := 9000) (by omega)
  have d5 := a5.mono (m := 9000) (by omega)
  have d6 := a6.mono (m := 9000) (by omega)
  have n1 := (a1.mul a1).add (a2.mul a2)
  have n2 := (a3.mul a3).add (a4.mul a4)
  have n3 := (a5.mul a5).add (a6.mul a6)
  have x1 := (a3.mul a6).sub (a4.mul a5)
  have x2 := (a5.mul a2).sub (a6.mul a1)
  have x3 := (a1.mul a4).sub (a2.mul a3)
  have p1 := n1.mul x1
  have p2 := n2.mul x2
  have p3 := n3.mul x3
  have s1 := (p1.add p2).mono (m := 20000) (by omega)
  have n1 := n1.mono (m := 20000) (by omega)
  have n2 := n2.mono (m := 20000) (by omega)
  have n3 := n3.mono (m := 20000) (by omega)
  have x1 := x1.mono (m := 20000) (by omega)
  have x2 := x2.mono (m := 20000) (by omega)
  have x3 := x3.mono (m := 20000) (by omega)
  have p1 := p1.mono (m := 20000) (by omega)
  have p2 := p2.mono (m := 20000) (by omega)
  have p3 := p3.mono (m := 20000) (by omega)
  unfold cir5
  simp (disch := first | exact dD | fail) only [Wd, W2d, W3d, Nat.reduceAdd, Nat.reduceMul, Nat.reduceSub, k_4minus, k_4cross, k_4norm, k_3mul, k_3sum, k_3sign, ← rsgn_eq, k_5orient, sgn_mulQ])
end
end Go.Proofs.YthnapfmpnndneaaGreat.Am