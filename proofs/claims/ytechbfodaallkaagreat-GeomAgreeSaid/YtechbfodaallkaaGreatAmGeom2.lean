import Derived.Test.YtechbfodaallkaaGreatAmGeom
import Derived.Test.YtechbfodaallkaaGreatAmDet3
/- Geometry: circles, discs, segments, triangles; both texts. -/
set_option linter.unusedVariables false
set_option maxRecDepth 10000
set_option linter.unusedSimpArgs false
namespace Go.Proofs.YtechbfodaallkaaGreat.Am
open Go

/-- Is a point on a segment? -/
def onP (ax ay bx b_ px py : Rat) : Prop := area ax ay bx b_ px py = 0 ∧ discQ ax ay bx b_ px py ≤ 0
instance (ax ay bx b_ px py : Rat) : Decidable (onP ax ay bx b_ px py) := by unfold onP; infer_instance
def min3 (x y z : Int) : Int := if z < (if y < x then y else x) then z else if y < x then y else x
def meetQ (ax ay bx b_ cx cy dx dy : Rat) : Int :=
  if onP ax ay bx b_ cx cy ∨ onP ax ay bx b_ dx dy ∨ onP cx cy dx dy ax ay ∨ onP cx cy dx dy bx b_ then 2
  else if rsgn (area ax ay bx b_ cx cy) * rsgn (area ax ay bx b_ dx dy) < 0 ∧ rsgn (area cx cy dx dy ax ay) * rsgn (area cx cy dx dy bx b_) < 0 then 1 else 0
def withinQ (ax ay bx b_ cx cy dx dy : Rat) : Int :=
  min3 (rsgn (area ax ay bx b_ cx cy) * rsgn (area ax ay bx b_ dx dy)) (rsgn (area ax ay bx b_ cx cy) * rsgn (area bx b_ cx cy dx dy)) (rsgn (area ax ay bx b_ cx cy) * rsgn (area cx cy ax ay dx dy))
/-- The lifted points' determinant. -/
def cirD (ax ay bx b_ cx cy dx dy : Rat) : Rat :=
  detR 3 [[ax - dx, ay - dy, (ax - dx) * (ax - dx) + (ay - dy) * (ay - dy)], [bx - dx, b_ - dy, (bx - dx) * (bx - dx) + (b_ - dy) * (b_ - dy)], [cx - dx, cy - dy, (cx - dx) * (cx - dx) + (cy - dy) * (cy - dy)]]
def cir5 (ax ay bx b_ cx cy dx dy : Rat) : Rat :=
  ((ax - dx) * (ax - dx) + (ay - dy) * (ay - dy)) * ((bx - dx) * (cy - dy) - (b_ - dy) * (cx - dx)) + ((bx - dx) * (bx - dx) + (b_ - dy) * (b_ - dy)) * ((cx - dx) * (ay - dy) - (cy - dy) * (ax - dx)) +
    ((cx - dx) * (cx - dx) + (cy - dy) * (cy - dy)) * ((ax - dx) * (b_ - dy) - (ay - dy) * (bx - dx))
theorem cir_eq {ax ay bx b_ cx cy dx dy : Rat} : cirD ax ay bx b_ cx cy dx dy = cir5 ax ay bx b_ cx cy dx dy := by
  unfold cirD cir5; rw [det3]; grind
/-- Where two lines cross: how far along the first. -/
def alongQ (ax ay bx b_ cx cy dx dy : Rat) : Rat := ((cx - ax) * (dy - cy) - (cy - ay) * (dx - cx)) / ((bx - ax) * (dy - cy) - (b_ - ay) * (dx - cx))
theorem sgn_mulQ {p q : Rat} : opBin .mul (.int .i64 (rsgn p)) (.int .i64 (rsgn q)) = some (.int .i64 (rsgn p * rsgn q)) := by
  have v : ∀ q : Rat, rsgn q = -1 ∨ rsgn q = 0 ∨ rsgn q = 1 := fun q => by have := rsgn_bd q; omega
  rcases v p with h | h | h <;> rcases v q with g | g | g <;> rw [h, g] <;> rfl
theorem mm3 {k : IntKind} {x y z : Int} : opMm false [.int k x, .int k y, .int k z] = some (.int k (min3 x y z)) := rfl
theorem firstE4 {a b c d : PT} {f : PT → Int} : firstE ([a, b, c, d].map f) = if firstE ([a, b, c].map f) = 0 then f d else firstE ([a, b, c].map f) := by
  rw [firstE3]
  show (if f a = 0 then (if f b = 0 then (if f c = 0 then (if f d = 0 then 0 else f d) else f c) else f b) else f a) = _
  by_cases h1 : f a = 0 <;> by_cases h2 : f b = 0 <;> by_cases h3 : f c = 0 <;> by_cases h4 : f d = 0 <;> simp [h1, h2, h3, h4]
theorem ok4 {a b c d : PT} (ha : a.ok) (hb : b.ok) (hc : c.ok) (hd : d.ok) : ∀ t ∈ [a, b, c, d], t.ok := fun t ht => by
  simp only [List.mem_cons, List.not_mem_nil, or_false] at ht
  rcases ht with rfl | rfl | rfl | rfl <;> assumption
theorem imm_L4 {a b c d : AV} (ha : Imm 12 a) (hb : Imm 12 b) (hc : Imm 12 c) (hd : Imm 12 d) : ∀ x ∈ [a, b, c, d], Imm 12 x := fun x hx => by
  rcases List.mem_cons.1 hx with rfl | hx
  · exact ha
  · exact imm_three hb hc hd x hx

theorem app_sr1 {h : Heap} {id n : Nat} {y : AV} (hl : (live h id).map List.length = some n) (hy : y.cell = true) (hn : n + 1 ≤ 4294967296) : opApp h 1 (.rs 1 id 0 n) (.is 1 true [y]) = some (.rs 1 h.length 0 (n + 1), h.set id none ++ [some (((live h id).getD []) ++ [y])]) := by
  cases hv : live h id with
  | none => rw [hv] at hl; cases hl
  | some old =>
    rw [hv] at hl
    exact app_sr hv (by simpa using hl) rfl (by omega) hn (by simp [hy])
section
variable {h : Heap} {ax ay bx b_ cx cy dx dy : Rat}

theorem k_indisc (h1 : Rz ax 900) (h2 : Rz ay 900) (h3 : Rz bx 900) (h4 : Rz b_ 900) (h5 : Rz cx 900) (h6 : Rz cy 900) : byVal (callW gp) h fid.geom_inDisc [pa ax ay, pa bx b_, pa cx cy] = some (.int .i64 (-(rsgn (discQ ax ay bx b_ cx cy)))) := byVal_imm (imm_L3 imm_pa imm_pa imm_pa) (by
  rw [geom_inDisc.eq]
  unfold geom_inDisc.f
  have g1 := h1.mono (m := 8000) (by omega)
  have g2 := h2.mono (m := 8000) (by omega)
  have g3 := h3.mono (m := 8000) (by omega)
  have g4 := h4.mono (m := 8000) (by omega)
  have g5 := h5.mono (m := 8000) (by omega)
  have g6 := h6.mono (m := 8000) (by omega)
  have d1 := (h1.sub h5).mono (m := 3900) (by omega)
  have d2 := (h2.sub h6).mono (m := 3900) (by omega)
  have d3 := (h3.sub h5).mono (m := 3900) (by omega)
  have d4 := (h4.sub h6).mono (m := 3900) (by omega)
  have d5 : Rz (discQ ax ay bx b_ cx cy) 8000 := (((h1.sub h5).mul (h3.sub h5)).add ((h2.sub h6).mul (h4.sub h6))).mono (by omega)
  have e : (ax - cx) * (bx - cx) + (ay - cy) * (b_ - cy) = discQ ax ay bx b_ cx cy := rfl
  have hb := rsgn_bd (discQ ax ay bx b_ cx cy)
  simp (disch := first | exact dD | fail) only [Wd, W2d, W3d, Nat.reduceAdd, Nat.reduceMul, Nat.reduceSub, c_gminus, k_dot, e, c_gsign, un_neg])
theorem k_gon (h1 : Rz ax 900) (h2 : Rz ay 900) (h3 : Rz bx 900) (h4 : Rz b_ 900) (h5 : Rz cx 900) (h6 : Rz cy 900) : byVal (callW gp) h fid.geom_on [pa ax ay, pa bx b_, pa cx cy] = some (.bool (decide (onP ax ay bx b_ cx cy))) := byVal_imm (imm_L3 imm_pa imm_pa imm_pa) (by
  rw [geom_on.eq]
  unfold geom_on.f
  have hb := rsgn_bd (discQ ax ay bx b_ cx cy)
  by_cases q1 : area ax ay bx b_ cx cy = 0
  · have s1 := rsgn_zero.2 q1
    by_cases q2 : discQ ax ay bx b_ cx cy ≤ 0
    · have s2 := rsgn_le.2 q2
      have q : onP ax ay bx b_ cx cy := ⟨q1, q2⟩
      rw [decide_eq_true q]
      have e : decide ((0 : Int) ≤ -(rsgn (discQ ax ay bx b_ cx cy))) = true := decide_eq_true (by omega)
      simp (disch := first | exact dD | fail) only [Wd, W2d, W3d, Nat.reduceAdd, Nat.reduceMul, Nat.reduceSub, k_turn, k_indisc, s1, e]
    · have s2 : ¬ rsgn (discQ ax ay bx b_ cx cy) ≤ 0 := fun h => q2 (rsgn_le.1 h)
      have q : ¬ onP ax ay bx b_ cx cy := fun h => q2 h.2
      rw [decide_eq_false q]
      have e : decide ((0 : Int) ≤ -(rsgn (discQ ax ay bx b_ cx cy))) = false := decide_eq_false (by omega)
      simp (disch := first | exact dD | fail) only [Wd, W2d, W3d, Nat.reduceAdd, Nat.reduceMul, Nat.reduceSub, k_turn, k_indisc, s1, e]
  · have s1 := fun h => q1 (rsgn_zero.1 h)
    have q : ¬ onP ax ay bx b_ cx cy := fun h => q1 h.1
    rw [decide_eq_false q]
    simp (disch := first | exact dD | fail) only [Wd, W2d, W3d, Nat.reduceAdd, Nat.reduceMul, Nat.reduceSub, k_turn, k_indisc, s1])
theorem k_gdisc (h1 : Rz ax 100) (h2 : Rz ay 100) (h3 : Rz bx 100) (h4 : Rz b_ 100) (h5 : Rz cx 100) (h6 : Rz cy 100) : byVal (callW gp) h fid.geom_Disc [pa ax ay, pa bx b_, pa cx cy] = some (.tup [.int .i64 (-(rsgn (discQ ax ay bx b_ cx cy))), .int .i64 0]) := byVal_imm (imm_L3 imm_pa imm_pa imm_pa) (by
  rw [geom_Disc.eq]
  unfold geom_Disc.f
  have hk := fun h f => k_asked (h := h) (f := f) (ok3 (pt_ok ax ay) (pt_ok bx b_) (pt_ok cx cy)) (by simp)
  rw [firstE3, askc_rat h1 h2, askc_rat h3 h4, askc_rat h5 h6] at hk
  simp only [if_true, List.flatMap_cons, List.flatMap_nil, List.length_cons, List.length_nil] at hk
  unfold ptc rtc rt at hk
  simp only [List.cons_append, List.nil_append, List.append_nil, Nat.zero_add, Nat.reduceAdd] at hk
  have g1 := h1.mono (m := 900) (by omega)
  have g2 := h2.mono (m := 900) (by omega)
  have g3 := h3.mono (m := 900) (by omega)
  have g4 := h4.mono (m := 900) (by omega)
  have g5 := h5.mono (m := 900) (by omega)
  have g6 := h6.mono (m := 900) (by omega)
  simp (disch := first | exact dD | fail) only [Wd, W2d, W3d, Nat.reduceAdd, Nat.reduceMul, Nat.reduceSub, hk, k_indisc])
theorem k_gOn (h1 : Rz ax 100) (h2 : Rz ay 100) (h3 : Rz bx 100) (h4 : Rz b_ 100) (h5 : Rz cx 100) (h6 : Rz cy 100) : byVal (callW gp) h fid.geom_On [pa ax ay, pa bx b_, pa cx cy] = some (.tup [.bool (decide (onP ax ay bx b_ cx cy)), .int .i64 0]) := byVal_imm (imm_L3 imm_pa imm_pa imm_pa) (by
  rw [geom_On.eq]
  unfold geom_On.f
  have hk := fun h f => k_asked (h := h) (f := f) (ok3 (pt_ok ax ay) (pt_ok bx b_) (pt_ok cx cy)) (by simp)
  rw [firstE3, askc_rat h1 h2, askc_rat h3 h4, askc_rat h5 h6] at hk
  simp only [if_true, List.flatMap_cons, List.flatMap_nil, List.length_cons, List.length_nil] at hk
  unfold ptc rtc rt at hk
  simp only [List.cons_append, List.nil_append, List.append_nil, Nat.zero_add, Nat.reduceAdd] at hk
  have g1 := h1.mono (m := 900) (by omega)
  have g2 := h2.mono (m := 900) (by omega)
  have g3 := h3.mono (m := 900) (by omega)
  have g4 := h4.mono (m := 900) (by omega)
  have g5 := h5.mono (m := 900) (by omega)
  have g6 := h6.mono (m := 900) (by omega)
  simp (disch := first | exact dD | fail) only [Wd, W2d, W3d, Nat.reduceAdd, Nat.reduceMul, Nat.reduceSub, hk, k_gon])
theorem k_gmeet (h1 : Rz ax 100) (h2 : Rz ay 100) (h3 : Rz bx 100) (h4 : Rz b_ 100) (h5 : Rz cx 100) (h6 : Rz cy 100) (h7 : Rz dx 100) (h8 : Rz dy 100) : byVal (callW gp) h fid.geom_Meet [pa ax ay, pa bx b_, pa cx cy, pa dx dy] = some (.tup [.int .i64 (meetQ ax ay bx b_ cx cy dx dy), .int .i64 0]) := byVal_imm (imm_L4 imm_pa imm_pa imm_pa imm_pa) (by
  rw [geom_Meet.eq]
  unfold geom_Meet.f geom_Meet.j0
  have hk := fun h f => k_asked (h := h) (f := f) (ok4 (pt_ok ax ay) (pt_ok bx b_) (pt_ok cx cy) (pt_ok dx dy)) (by simp)
  rw [firstE4, firstE3, askc_rat h1 h2, askc_rat h3 h4, askc_rat h5 h6, askc_rat h7 h8] at hk
  simp only [if_true, List.flatMap_cons, List.flatMap_nil, List.length_cons, List.length_nil] at hk
  unfold ptc rtc rt at hk
  simp only [List.cons_append, List.nil_append, List.append_nil, Nat.zero_add, Nat.reduceAdd] at hk
  have g1 := h1.mono (m := 900) (by omega)
  have g2 := h2.mono (m := 900) (by omega)
  have g3 := h3.mono (m := 900) (by omega)
  have g4 := h4.mono (m := 900) (by omega)
  have g5 := h5.mono (m := 900) (by omega)
  have g6 := h6.mono (m := 900) (by omega)
  have g7 := h7.mono (m := 900) (by omega)
  have g8 := h8.mono (m := 900) (by omega)
  have o1 := fun h => k_gon (h := h) g1 g2 g3 g4 g5 g6
  have o2 := fun h => k_gon (h := h) g1 g2 g3 g4 g7 g8
  have o3 := fun h => k_gon (h := h) g5 g6 g7 g8 g1 g2
  have o4 := fun h => k_gon (h := h) g5 g6 g7 g8 g3 g4
  unfold meetQ
  by_cases q1 : onP ax ay bx b_ cx cy
  · rw [if_pos (.inl q1)]; rw [decide_eq_true q1] at o1
    simp (disch := first | exact dD | fail) only [Wd, W2d, W3d, Nat.reduceAdd, Nat.reduceMul, Nat.reduceSub, hk, o1]
  rw [decide_eq_false q1] at o1
  by_cases q2 : onP ax ay bx b_ dx dy
  · rw [if_pos (.inr (.inl q2))]; rw [decide_eq_true q2] at o2
    simp (disch := first | exact dD | fail) only [Wd, W2d, W3d, Nat.reduceAdd, Nat.reduceMul, Nat.reduceSub, hk, o1, o2]
  rw [decide_eq_false q2] at o2
  by_cases q3 : onP cx cy dx dy ax ay
  · rw [if_pos (.inr (.inr (.inl q3)))]; rw [decide_eq_true q3] at o3
    simp (disch := first | exact dD | fail) only [Wd, W2d, W3d, Nat.reduceAdd, Nat.reduceMul, Nat.reduceSub, hk, o1, o2, o3]
  rw [decide_eq_false q3] at o3
  by_cases q4 : onP cx cy dx dy bx b_
  · rw [if_pos (.inr (.inr (.inr q4)))]; rw [decide_eq_true q4] at o4
    simp (disch := first | exact dD | fail) only [Wd, W2d, W3d, Nat.reduceAdd, Nat.reduceMul, Nat.reduceSub, hk, o1, o2, o3, o4]
  rw [decide_eq_false q4] at o4
  rw [if_neg (by rintro (h | h | h | h) <;> contradiction)]
  by_cases r1 : rsgn (area ax ay bx b_ cx cy) * rsgn (area ax ay bx b_ dx dy) < 0
  · by_cases r2 : rsgn (area cx cy dx dy ax ay) * rsgn (area cx cy dx dy bx b_) < 0
    · rw [if_pos ⟨r1, r2⟩]
      simp (disch := first | exact dD | fail) only [Wd, W2d, W3d, Nat.reduceAdd, Nat.reduceMul, Nat.reduceSub, hk, o1, o2, o3, o4, k_turn, sgn_mulQ]
    · rw [if_neg fun h => r2 h.2]
      simp (disch := first | exact dD | fail) only [Wd, W2d, W3d, Nat.reduceAdd, Nat.reduceMul, Nat.reduceSub, hk, o1, o2, o3, o4, k_turn, sgn_mulQ]
  · rw [if_neg fun h => r1 h.1]
    simp (disch := first | exact dD | fail) only [Wd, W2d, W3d, Nat.reduceAdd, Nat.reduceMul, Nat.reduceSub, hk, o1, o2, o3, o4, k_turn, sgn_mulQ])
theorem k_gwithin (h1 : Rz ax 100) (h2 : Rz ay 100) (h3 : Rz bx 100) (h4 : Rz b_ 100) (h5 : Rz cx 100) (h6 : Rz cy 100) (h7 : Rz dx 100) (h8 : Rz dy 100) (h0 : area ax ay bx b_ cx cy ≠ 0) : byVal (callW gp) h fid.geom_Within [pa ax ay, pa bx b_, pa cx cy, pa dx dy] = some (.tup [.int .i64 (withinQ ax ay bx b_ cx cy dx dy), .int .i64 0]) := byVal_imm (imm_L4 imm_pa imm_pa imm_pa imm_pa) (by
  rw [geom_Within.eq]
  unfold geom_Within.f
  have hk := fun h f => k_asked (h := h) (f := f) (ok4 (pt_ok ax ay) (pt_ok bx b_) (pt_ok cx cy) (pt_ok dx dy)) (by simp)
  rw [firstE4, firstE3, askc_rat h1 h2, askc_rat h3 h4, askc_rat h5 h6, askc_rat h7 h8] at hk
  simp only [if_true, List.flatMap_cons, List.flatMap_nil, List.length_cons, List.length_nil] at hk
  unfold ptc rtc rt at hk
  simp only [List.cons_append, List.nil_append, List.append_nil, Nat.zero_add, Nat.reduceAdd] at hk
  have g1 := h1.mono (m := 900) (by omega)
  have g2 := h2.mono (m := 900) (by omega)
  have g3 := h3.mono (m := 900) (by omega)
  have g4 := h4.mono (m := 900) (by omega)
  have g5 := h5.mono (m := 900) (by omega)
  have g6 := h6.mono (m := 900) (by omega)
  have g7 := h7.mono (m := 900) (by omega)
  have g8 := h8.mono (m := 900) (by omega)
  have q0 := fun h => h0 (rsgn_zero.1 h)
  unfold withinQ
  simp (disch := first | exact dD | fail) only [Wd, W2d, W3d, Nat.reduceAdd, Nat.reduceMul, Nat.reduceSub, hk, k_turn, sgn_mulQ, mm3, q0])
theorem k_gwithin0 (h1 : Rz ax 100) (h2 : Rz ay 100) (h3 : Rz bx 100) (h4 : Rz b_ 100) (h5 : Rz cx 100) (h6 : Rz cy 100) (h7 : Rz dx 100) (h8 : Rz dy 100) (h0 : area ax ay bx b_ cx cy = 0) : byVal (callW gp) h fid.geom_Within [pa ax ay, pa bx b_, pa cx cy, pa dx dy] = some (.tup [.int .i64 0, .int .i64 6]) := byVal_imm (imm_L4 imm_pa imm_pa imm_pa imm_pa) (by
  rw [geom_Within.eq]
  unfold geom_Within.f
  have hk := fun h f => k_asked (h := h) (f := f) (ok4 (pt_ok ax ay) (pt_ok bx b_) (pt_ok cx cy) (pt_ok dx dy)) (by simp)
  rw [firstE4, firstE3, askc_rat h1 h2, askc_rat h3 h4, askc_rat h5 h6, askc_rat h7 h8] at hk
  simp only [if_true, List.flatMap_cons, List.flatMap_nil, List.length_cons, List.length_nil] at hk
  unfold ptc rtc rt at hk
  simp only [List.cons_append, List.nil_append, List.append_nil, Nat.zero_add, Nat.reduceAdd] at hk
  have g1 := h1.mono (m := 900) (by omega)
  have g2 := h2.mono (m := 900) (by omega)
  have g3 := h3.mono (m := 900) (by omega)
  have g4 := h4.mono (m := 900) (by omega)
  have g5 := h5.mono (m := 900) (by omega)
  have g6 := h6.mono (m := 900) (by omega)
  have g7 := h7.mono (m := 900) (by omega)
  have g8 := h8.mono (m := 900) (by omega)
  have q0 := rsgn_zero.2 h0
  simp (disch := first | exact dD | fail) only [Wd, W2d, W3d, Nat.reduceAdd, Nat.reduceMul, Nat.reduceSub, hk, k_turn, q0])
theorem Rz_cross4 (h1 : Rz ax 100) (h2 : Rz ay 100) (h3 : Rz bx 100) (h4 : Rz b_ 100) (h5 : Rz cx 100) (h6 : Rz cy 100) (h7 : Rz dx 100) (h8 : Rz dy 100) : Rz ((bx - ax) * (dy - cy) - (b_ - ay) * (dx - cx)) 1000 := (((h3.sub h1).mul (h8.sub h6)).sub ((h4.sub h2).mul (h7.sub h5))).mono (by omega)
theorem k_gcrossing (h1 : Rz ax 100) (h2 : Rz ay 100) (h3 : Rz bx 100) (h4 : Rz b_ 100) (h5 : Rz cx 100) (h6 : Rz cy 100) (h7 : Rz dx 100) (h8 : Rz dy 100) (h0 : (bx - ax) * (dy - cy) - (b_ - ay) * (dx - cx) ≠ 0) : byVal (callW gp) h fid.geom_Crossing [pa ax ay, pa bx b_, pa cx cy, pa dx dy] = some (.tup [pa (ax + (bx - ax) * alongQ ax ay bx b_ cx cy dx dy) (ay + (b_ - ay) * alongQ ax ay bx b_ cx cy dx dy), .int .i64 0]) := byVal_imm (imm_L4 imm_pa imm_pa imm_pa imm_pa) (by
  rw [geom_Crossing.eq]
  unfold geom_Crossing.f
  have hk := fun h f => k_asked (h := h) (f := f) (ok4 (pt_ok ax ay) (pt_ok bx b_) (pt_ok cx cy) (pt_ok dx dy)) (by simp)
  rw [firstE4, firstE3, askc_rat h1 h2, askc_rat h3 h4, askc_rat h5 h6, askc_rat h7 h8] at hk
  simp only [if_true, List.flatMap_cons, List.flatMap_nil, List.length_cons, List.length_nil] at hk
  unfold ptc rtc rt at hk
  simp only [List.cons_append, List.nil_append, List.append_nil, Nat.zero_add, Nat.reduceAdd] at hk
  have g1 := h1.mono (m := 8000) (by omega)
  have g2 := h2.mono (m := 8000) (by omega)
  have g3 := h3.mono (m := 8000) (by omega)
  have g4 := h4.mono (m := 8000) (by omega)
  have g5 := h5.mono (m := 8000) (by omega)
  have g6 := h6.mono (m := 8000) (by omega)
  have g7 := h7.mono (m := 8000) (by omega)
  have g8 := h8.mono (m := 8000) (by omega)
  have d1 := (h3.sub h1).mono (m := 3900) (by omega)
  have d2 := (h4.sub h2).mono (m := 3900) (by omega)
  have d3 := (h7.sub h5).mono (m := 3900) (by omega)
  have d4 := (h8.sub h6).mono (m := 3900) (by omega)
  have d5 := (h5.sub h1).mono (m := 3900) (by omega)
  have d6 := (h6.sub h2).mono (m := 3900) (by omega)
  have c1 := Rz_cross4 h1 h2 h3 h4 h5 h6 h7 h8
  have c2 : Rz ((cx - ax) * (dy - cy) - (cy - ay) * (dx - cx)) 1000 := (((h5.sub h1).mul (h8.sub h6)).sub ((h6.sub h2).mul (h7.sub h5))).mono (by omega)
  have c3 : Rz (alongQ ax ay bx b_ cx cy dx dy) 2000 := (c2.div c1).mono (by omega)
  have e1 := c1.mono (m := 8000) (by omega)
  have e2 := c2.mono (m := 8000) (by omega)
  have e3 := c3.mono (m := 8000) (by omega)
  have e4 := d1.mono (m := 8000) (by omega)
  have e5 := d2.mono (m := 8000) (by omega)
  have m1 : Rz ((bx - ax) * alongQ ax ay bx b_ cx cy dx dy) 8000 := (d1.mul c3).mono (by omega)
  have m2 : Rz ((b_ - ay) * alongQ ax ay bx b_ cx cy dx dy) 8000 := (d2.mul c3).mono (by omega)
  have e : ((cx - ax) * (dy - cy) - (cy - ay) * (dx - cx)) / ((bx - ax) * (dy - cy) - (b_ - ay) * (dx - cx)) = alongQ ax ay bx b_ cx cy dx dy := rfl
  simp (disch := first | exact dD | fail) only [Wd, W2d, W3d, Nat.reduceAdd, Nat.reduceMul, Nat.reduceSub, hk, c_gminus, c_gcross, k_rdiv, e, k_scale, k_plus])
theorem k_circle (h1 : Rz ax 60) (h2 : Rz ay 60) (h3 : Rz bx 60) (h4 : Rz b_ 60) (h5 : Rz cx 60) (h6 : Rz cy 60) (h7 : Rz dx 60) (h8 : Rz dy 60) (h0 : area ax ay bx b_ cx cy ≠ 0) : byVal (callW gp) h fid.geom_Circle [pa ax ay, pa bx b_, pa cx cy, pa dx dy] = some (.tup [.int .i64 (rsgn (area ax ay bx b_ cx cy) * rsgn (cirD ax ay bx b_ cx cy dx dy)), .int .i64 0]) := byVal_imm (imm_L4 imm_pa imm_pa imm_pa imm_pa) (by
  rw [geom_Circle.eq]
  unfold geom_Circle.f
  have n1 := h1.mono (m := 100) (by omega)
  have n2 := h2.mono (m := 100) (by omega)
  have n3 := h3.mono (m := 100) (by omega)
  have n4 := h4.mono (m := 100) (by omega)
  have n5 := h5.mono (m := 100) (by omega)
  have n6 := h6.mono (m := 100) (by omega)
  have n7 := h7.mono (m := 100) (by omega)
  have n8 := h8.mono (m := 100) (by omega)
  have hk := fun h f => k_asked (h := h) (f := f) (ok4 (pt_ok ax ay) (pt_ok bx b_) (pt_ok cx cy) (pt_ok dx dy)) (by simp)
  rw [firstE4, firstE3, askc_rat n1 n2, askc_rat n3 n4, askc_rat n5 n6, askc_rat n7 n8] at hk
  simp only [if_true, List.flatMap_cons, List.flatMap_nil, List.length_cons, List.length_nil] at hk
  unfold ptc rtc rt at hk
  simp only [List.cons_append, List.nil_append, List.append_nil, Nat.zero_add, Nat.reduceAdd] at hk
  have g1 := h1.mono (m := 8000) (by omega)
  have g2 := h2.mono (m := 8000) (by omega)
  have g3 := h3.mono (m := 8000) (by omega)
  have g4 := h4.mono (m := 8000) (by omega)
  have g5 := h5.mono (m := 8000) (by omega)
  have g6 := h6.mono (m := 8000) (by omega)
  have g7 := h7.mono (m := 8000) (by omega)
  have g8 := h8.mono (m := 8000) (by omega)
  have f1 := h1.mono (m := 900) (by omega)
  have f2 := h2.mono (m := 900) (by omega)
  have f3 := h3.mono (m := 900) (by omega)
  have f4 := h4.mono (m := 900) (by omega)
  have f5 := h5.mono (m := 900) (by omega)
  have f6 := h6.mono (m := 900) (by omega)
  have f7 := h7.mono (m := 900) (by omega)
  have f8 := h8.mono (m := 900) (by omega)
  have q0 := fun h => h0 (rsgn_zero.1 h)
  have a1 := (h1.sub h7).mono (m := 125) (by omega)
  have a2 := (h2.sub h8).mono (m := 125) (by omega)
  have a3 := (h3.sub h7).mono (m := 125) (by omega)
  have a4 := (h4.sub h8).mono (m := 125) (by omega)
  have a5 := (h5.sub h7).mono (m := 125) (by omega)
  have a6 := (h6.sub h8).mono (m := 125) (by omega)
  have d1 := a1.mono (m := 3900) (by omega)
  have d2 := a2.mono (m := 3900) (by omega)
  have d3 := a3.mono (m := 3900) (by omega)
  have d4 := a4.mono (m := 3900) (by omega)
  have d5 := a5.mono (m := 3900) (by omega)
  have d6 := a6.mono (m := 3900) (by omega)
  have b1 : Rz ((ax - dx) * (ax - dx) + (ay - dy) * (ay - dy)) 501 := (a1.mul a1).add (a2.mul a2)
  have b2 : Rz ((bx - dx) * (bx - dx) + (b_ - dy) * (b_ - dy)) 501 := (a3.mul a3).add (a4.mul a4)
  have b3 : Rz ((cx - dx) * (cx - dx) + (cy - dy) * (cy - dy)) 501 := (a5.mul a5).add (a6.mul a6)
  have hz : ∀ r ∈ [[ax - dx, ay - dy, (ax - dx) * (ax - dx) + (ay - dy) * (ay - dy)], [bx - dx, b_ - dy, (bx - dx) * (bx - dx) + (b_ - dy) * (b_ - dy)], [cx - dx, cy - dy, (cx - dx) * (cx - dx) + (cy - dy) * (cy - dy)]], ∀ q ∈ r, Rz q 501 := fun r hr q hq => by
    simp only [List.mem_cons, List.not_mem_nil, or_false] at hr
    rcases hr with rfl | rfl | rfl <;> (simp only [List.mem_cons, List.not_mem_nil, or_false] at hq; rcases hq with rfl | rfl | rfl) <;> first | assumption | (refine Rz.mono ?_ (Nat.le_refl 501); first | exact a1.mono (by omega) | exact a2.mono (by omega) | exact a3.mono (by omega) | exact a4.mono (by omega) | exact a5.mono (by omega) | exact a6.mono (by omega))
  have dz : Rz (cirD ax ay bx b_ cx cy dx dy) 8000 := (det_Rz (by omega) 2 _ hz).mono (by decide)
  have dt := Det_cv (b := 501) (by omega) (by simp) hz (show bd 501 2 ≤ 8000 by decide)
  rw [show [[ax - dx, ay - dy, (ax - dx) * (ax - dx) + (ay - dy) * (ay - dy)], [bx - dx, b_ - dy, (bx - dx) * (bx - dx) + (b_ - dy) * (b_ - dy)], [cx - dx, cy - dy, (cx - dx) * (cx - dx) + (cy - dy) * (cy - dy)]].length = 3 from rfl, show detR 3 [[ax - dx, ay - dy, (ax - dx) * (ax - dx) + (ay - dy) * (ay - dy)], [bx - dx, b_ - dy, (bx - dx) * (bx - dx) + (b_ - dy) * (b_ - dy)], [cx - dx, cy - dy, (cx - dx) * (cx - dx) + (cy - dy) * (cy - dy)]] = cirD ax ay bx b_ cx cy dx dy from rfl] at dt
  simp (disch := first | exact dD | fail) only [Wd, W2d, W3d, Nat.reduceAdd, Nat.reduceMul, Nat.reduceSub, hk, k_turn, q0]
  rw [geom_Circle.l0_eq]
  simp (disch := first | exact dD | fail) only [Wd, W2d, W3d, Nat.reduceAdd, Nat.reduceMul, Nat.reduceSub, c_gminus, k_norm, bslc_a3, bslc_rows1, app_s0]
  rw [geom_Circle.l0_eq]
  simp (disch := first | first | exact dD | fail | rfl) only [Wd, W2d, W3d, Nat.reduceAdd, Nat.reduceMul, Nat.reduceSub, c_gminus, k_norm, bslc_a3, bslc_rows1, app_sr1, Option.getD_some, List.cons_append, List.nil_append]
  rw [geom_Circle.l0_eq]
  simp (disch := first | first | exact dD | fail | rfl) only [Wd, W2d, W3d, Nat.reduceAdd, Nat.reduceMul, Nat.reduceSub, c_gminus, k_norm, bslc_a3, bslc_rows1, app_sr1, Option.getD_some, List.cons_append, List.nil_append]
  have kd : ∀ (H : Heap) (x : AV), (freeze H x = some (matQ [[ax - dx, ay - dy, (ax - dx) * (ax - dx) + (ay - dy) * (ay - dy)], [bx - dx, b_ - dy, (bx - dx) * (bx - dx) + (b_ - dy) * (b_ - dy)], [cx - dx, cy - dy, (cx - dx) * (cx - dx) + (cy - dy) * (cy - dy)]])) → byVal (callW gp) H fid.vec_Det [x] = some (.tup [ra (cirD ax ay bx b_ cx cy dx dy), .int .i64 0]) := fun H x hx => byVal_flat (mapM1 hx) dt rfl
  rw [geom_Circle.l0_eq]
  simp (disch := first | first | exact dD | fail | rfl) only [Wd, W2d, W3d, Nat.reduceAdd, Nat.reduceMul, Nat.reduceSub]
  rw [kd]
  · simp (disch := first | first | exact dD | fail | rfl) only [Wd, W2d, W3d, Nat.reduceAdd, Nat.reduceMul, Nat.reduceSub, c_gsign, sgn_mulQ]
  · rfl)
theorem k_circle0 (h1 : Rz ax 100) (h2 : Rz ay 100) (h3 : Rz bx 100) (h4 : Rz b_ 100) (h5 : Rz cx 100) (h6 : Rz cy 100) (h7 : Rz dx 100) (h8 : Rz dy 100) (h0 : area ax ay bx b_ cx cy = 0) : byVal (callW gp) h fid.geom_Circle [pa ax ay, pa bx b_, pa cx cy, pa dx dy] = some (.tup [.int .i64 0, .int .i64 6]) := byVal_imm (imm_L4 imm_pa imm_pa imm_pa imm_pa) (by
  rw [geom_Circle.eq]
  unfold geom_Circle.f
  have hk := fun h f => k_asked (h := h) (f := f) (ok4 (pt_ok ax ay) (pt_ok bx b_) (pt_ok cx cy) (pt_ok dx dy)) (by simp)
  rw [firstE4, firstE3, askc_rat h1 h2, askc_rat h3 h4, askc_rat h5 h6, askc_rat h7 h8] at hk
  simp only [if_true, List.flatMap_cons, List.flatMap_nil, List.length_cons, List.length_nil] at hk
  unfold ptc rtc rt at hk
  simp only [List.cons_append, List.nil_append, List.append_nil, Nat.zero_add, Nat.reduceAdd] at hk
  have f1 := h1.mono (m := 900) (by omega)
  have f2 := h2.mono (m := 900) (by omega)
  have f3 := h3.mono (m := 900) (by omega)
  have f4 := h4.mono (m := 900) (by omega)
  have f5 := h5.mono (m := 900) (by omega)
  have f6 := h6.mono (m := 900) (by omega)
  have q0 := rsgn_zero.2 h0
  simp (disch := first | exact dD | fail) only [Wd, W2d, W3d, Nat.reduceAdd, Nat.reduceMul, Nat.reduceSub, hk, k_turn, q0])
end
end Go.Proofs.YtechbfodaallkaaGreat.Am
