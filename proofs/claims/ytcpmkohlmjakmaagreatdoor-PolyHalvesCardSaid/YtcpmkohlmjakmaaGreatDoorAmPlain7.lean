import Derived.Test.YtcpmkohlmjakmaaGreatDoorAmV
/- Section 07: polynomials over triangles, as numbers. -/
set_option linter.unusedVariables false
set_option maxRecDepth 10000
set_option linter.unusedSimpArgs false
namespace Go.Proofs.YtcpmkohlmjakmaaGreatDoor.Am
open Go

/-- A polynomial's numbers; six values. -/
structure P6 where
  p0 : Rat
  p1 : Rat
  p2 : Rat
  p3 : Rat
  p4 : Rat
  p5 : Rat
/-- What a polynomial is at a point: as the program reckons it, and as the document does. -/
def evQ (f : P6) (x y : Rat) : Rat := f.p0 + ((f.p1 + (f.p3 * x + f.p4 * y)) * x + (f.p2 + f.p5 * y) * y)
def ev7 (f : P6) (x y : Rat) : Rat := ((0 : Int) : Rat) + f.p0 * ((1 : Int) : Rat) + f.p1 * x + f.p2 * y + f.p3 * (x * x) + f.p4 * (x * y) + f.p5 * (y * y)
theorem ic0 : ((0 : Int) : Rat) = 0 := rfl
theorem ic1 : ((1 : Int) : Rat) = 1 := rfl
theorem ic2 : ((2 : Int) : Rat) = 2 := rfl
theorem ic3 : ((3 : Int) : Rat) = 3 := rfl
theorem ic4 : ((4 : Int) : Rat) = 4 := rfl
theorem ev7_eq (f : P6) (x y : Rat) : ev7 f x y = evQ f x y := by unfold ev7 evQ; rw [ic0, ic1]; grind
def absQ (q : Rat) : Rat := if q < 0 then -q else q
theorem absQ_neg (q : Rat) : absQ (-q) = absQ q := by unfold absQ; split <;> split <;> grind
theorem absQ_pos {q : Rat} (h : q ≠ 0) : 0 < absQ q := by unfold absQ; split <;> grind
theorem absQ_mul {k q : Rat} (hk : 0 < k) : absQ (k * q) = k * absQ q := by
  unfold absQ
  by_cases h : q < 0
  · have := Rat.mul_pos (a := k) (b := -q) hk (by grind)
    rw [if_pos h, if_pos (by grind)]; grind
  · have := Rat.mul_nonneg (a := k) (b := q) (by grind) (by grind)
    rw [if_neg h, if_neg (by grind)]
/-- A polynomial at a triangle's corners, and halfway along its edges. -/
def sixQ (f : P6) (ax ay bx b_ cx cy : Rat) : P6 := ⟨evQ f ax ay, evQ f bx b_, evQ f cx cy, evQ f ((bx + cx) * (1 / 2)) ((b_ + cy) * (1 / 2)), evQ f ((cx + ax) * (1 / 2)) ((cy + ay) * (1 / 2)), evQ f ((ax + bx) * (1 / 2)) ((ay + b_) * (1 / 2))⟩
/-- A sum with weights. -/
def weS (s v : Rat) (w : Int) : Rat := if w = 0 then s else s + v * (w : Rat)
theorem weS_eq (s v : Rat) (w : Int) : weS s v w = s + v * (w : Rat) := by
  unfold weS; split
  · rename_i h; subst h; rw [ic0]; grind
  · rfl
structure W6 where
  w0 : Int
  w1 : Int
  w2 : Int
  w3 : Int
  w4 : Int
  w5 : Int
def weQ (v : P6) (w : W6) : Rat := weS (weS (weS (weS (weS (weS ((0 : Int) : Rat) v.p0 w.w0) v.p1 w.w1) v.p2 w.w2) v.p3 w.w3) v.p4 w.w4) v.p5 w.w5
def wedQ (v : P6) (w : W6) (a : Rat) (by_ : Int) : Rat := weQ v w * a / (by_ : Rat)
theorem wedQ_eq (v : P6) (w : W6) (a : Rat) (by_ : Int) : wedQ v w a by_ = (v.p0 * (w.w0 : Rat) + v.p1 * (w.w1 : Rat) + v.p2 * (w.w2 : Rat) + v.p3 * (w.w3 : Rat) + v.p4 * (w.w4 : Rat) + v.p5 * (w.w5 : Rat)) * a / (by_ : Rat) := by
  unfold wedQ weQ; simp only [weS_eq]; rw [ic0, Rat.zero_add]

def wI : W6 := ⟨0, 0, 0, 1, 1, 1⟩
def wL0 : W6 := ⟨2, -1, -1, 4, 8, 8⟩
def wL1 : W6 := ⟨-1, 2, -1, 8, 4, 8⟩
def wL2 : W6 := ⟨-1, -1, 2, 8, 8, 4⟩
def wS0 : W6 := ⟨6, -1, -1, -4, 0, 0⟩
def wS1 : W6 := ⟨-1, 6, -1, 0, -4, 0⟩
def wS2 : W6 := ⟨-1, -1, 6, 0, 0, -4⟩
def wS3 : W6 := ⟨-4, 0, 0, 32, 16, 16⟩
def wS4 : W6 := ⟨0, -4, 0, 16, 32, 16⟩
def wS5 : W6 := ⟨0, 0, -4, 16, 16, 32⟩
theorem icm4 : (((-4) : Int) : Rat) = -4 := rfl
theorem icm1 : (((-1) : Int) : Rat) = -1 := rfl
theorem ic6 : ((6 : Int) : Rat) = 6 := rfl
theorem ic8 : ((8 : Int) : Rat) = 8 := rfl
theorem ic16 : ((16 : Int) : Rat) = 16 := rfl
theorem ic32 : ((32 : Int) : Rat) = 32 := rfl
theorem ic60 : ((60 : Int) : Rat) = 60 := rfl
theorem ic180 : ((180 : Int) : Rat) = 180 := rfl
/-- The integrals, as the program reckons them, out of the six values and the area. -/
def intQ (v : P6) (a : Rat) : Rat := wedQ v wI a 3
def loadQ (v : P6) (a : Rat) : Rat × Rat × Rat := (wedQ v wL0 a 60, wedQ v wL1 a 60, wedQ v wL2 a 60)
def sqQ (v : P6) (a : Rat) : Rat := ((0 : Int) : Rat) + v.p0 * wedQ v wS0 a 180 + v.p1 * wedQ v wS1 a 180 + v.p2 * wedQ v wS2 a 180 + v.p3 * wedQ v wS3 a 180 + v.p4 * wedQ v wS4 a 180 + v.p5 * wedQ v wS5 a 180
/-- The triangle's area. -/
def arQ (ax ay bx b_ cx cy : Rat) : Rat := absQ (area ax ay bx b_ cx cy) / ((2 : Int) : Rat)

theorem intQ_eq (v : P6) (a : Rat) : intQ v a = (v.p3 + v.p4 + v.p5) * a / 3 := by
  unfold intQ; rw [wedQ_eq]; unfold wI; simp only [icm4, icm1, ic0, ic1, ic2, ic3, ic4, ic6, ic8, ic16, ic32, ic60, ic180]; grind
def lin (v : P6) (c0 c1 c2 c3 c4 c5 : Rat) : Rat := v.p0 * c0 + v.p1 * c1 + v.p2 * c2 + v.p3 * c3 + v.p4 * c4 + v.p5 * c5
theorem wL0_eq (v : P6) (a : Rat) : wedQ v wL0 a 60 = lin v (2) (-1) (-1) (4) (8) (8) * a / 60 := by
  rw [wedQ_eq]; unfold wL0 lin; simp only [icm4, icm1, ic0, ic1, ic2, ic3, ic4, ic6, ic8, ic16, ic32, ic60, ic180]
theorem wL1_eq (v : P6) (a : Rat) : wedQ v wL1 a 60 = lin v (-1) (2) (-1) (8) (4) (8) * a / 60 := by
  rw [wedQ_eq]; unfold wL1 lin; simp only [icm4, icm1, ic0, ic1, ic2, ic3, ic4, ic6, ic8, ic16, ic32, ic60, ic180]
theorem wL2_eq (v : P6) (a : Rat) : wedQ v wL2 a 60 = lin v (-1) (-1) (2) (8) (8) (4) * a / 60 := by
  rw [wedQ_eq]; unfold wL2 lin; simp only [icm4, icm1, ic0, ic1, ic2, ic3, ic4, ic6, ic8, ic16, ic32, ic60, ic180]
theorem wS0_eq (v : P6) (a : Rat) : wedQ v wS0 a 180 = lin v (6) (-1) (-1) (-4) (0) (0) * a / 180 := by
  rw [wedQ_eq]; unfold wS0 lin; simp only [icm4, icm1, ic0, ic1, ic2, ic3, ic4, ic6, ic8, ic16, ic32, ic60, ic180]
theorem wS1_eq (v : P6) (a : Rat) : wedQ v wS1 a 180 = lin v (-1) (6) (-1) (0) (-4) (0) * a / 180 := by
  rw [wedQ_eq]; unfold wS1 lin; simp only [icm4, icm1, ic0, ic1, ic2, ic3, ic4, ic6, ic8, ic16, ic32, ic60, ic180]
theorem wS2_eq (v : P6) (a : Rat) : wedQ v wS2 a 180 = lin v (-1) (-1) (6) (0) (0) (-4) * a / 180 := by
  rw [wedQ_eq]; unfold wS2 lin; simp only [icm4, icm1, ic0, ic1, ic2, ic3, ic4, ic6, ic8, ic16, ic32, ic60, ic180]
theorem wS3_eq (v : P6) (a : Rat) : wedQ v wS3 a 180 = lin v (-4) (0) (0) (32) (16) (16) * a / 180 := by
  rw [wedQ_eq]; unfold wS3 lin; simp only [icm4, icm1, ic0, ic1, ic2, ic3, ic4, ic6, ic8, ic16, ic32, ic60, ic180]
theorem wS4_eq (v : P6) (a : Rat) : wedQ v wS4 a 180 = lin v (0) (-4) (0) (16) (32) (16) * a / 180 := by
  rw [wedQ_eq]; unfold wS4 lin; simp only [icm4, icm1, ic0, ic1, ic2, ic3, ic4, ic6, ic8, ic16, ic32, ic60, ic180]
theorem wS5_eq (v : P6) (a : Rat) : wedQ v wS5 a 180 = lin v (0) (0) (-4) (16) (16) (32) * a / 180 := by
  rw [wedQ_eq]; unfold wS5 lin; simp only [icm4, icm1, ic0, ic1, ic2, ic3, ic4, ic6, ic8, ic16, ic32, ic60, ic180]
/-- The square's form. -/
def quad (v : P6) : Rat := 6 * v.p0 * v.p0 + 6 * v.p1 * v.p1 + 6 * v.p2 * v.p2 + 32 * v.p3 * v.p3 + 32 * v.p4 * v.p4 + 32 * v.p5 * v.p5 - 2 * v.p0 * v.p1 - 2 * v.p0 * v.p2 - 2 * v.p1 * v.p2 - 8 * v.p0 * v.p3 - 8 * v.p1 * v.p4 - 8 * v.p2 * v.p5 + 32 * v.p3 * v.p4 + 32 * v.p3 * v.p5 + 32 * v.p4 * v.p5
theorem sqQ_eq (v : P6) (a : Rat) : sqQ v a = quad v * a / 180 := by
  unfold sqQ; rw [wS0_eq, wS1_eq, wS2_eq, wS3_eq, wS4_eq, wS5_eq, ic0]; unfold lin quad; grind
theorem quad_sq (v : P6) : quad v = 32 * ((v.p3 - v.p0 / 8 + v.p4 / 2 + v.p5 / 2) * (v.p3 - v.p0 / 8 + v.p4 / 2 + v.p5 / 2)) + 24 * ((v.p4 + v.p0 / 12 - v.p1 / 6 + v.p5 / 3) * (v.p4 + v.p0 / 12 - v.p1 / 6 + v.p5 / 3)) + 64 / 3 * ((v.p5 + v.p0 / 16 + v.p1 / 16 - 3 * v.p2 / 16) * (v.p5 + v.p0 / 16 + v.p1 / 16 - 3 * v.p2 / 16)) + 21 / 4 * ((v.p0 - v.p1 / 7 - v.p2 / 7) * (v.p0 - v.p1 / 7 - v.p2 / 7)) + 36 / 7 * ((v.p1 - v.p2 / 6) * (v.p1 - v.p2 / 6)) + 5 * (v.p2 * v.p2) := by
  unfold quad; grind
theorem quad_nn (v : P6) : 0 ≤ quad v := by
  rw [quad_sq]
  have h0 := sq_nn (v.p3 - v.p0 / 8 + v.p4 / 2 + v.p5 / 2)
  have h1 := sq_nn (v.p4 + v.p0 / 12 - v.p1 / 6 + v.p5 / 3)
  have h2 := sq_nn (v.p5 + v.p0 / 16 + v.p1 / 16 - 3 * v.p2 / 16)
  have h3 := sq_nn (v.p0 - v.p1 / 7 - v.p2 / 7)
  have h4 := sq_nn (v.p1 - v.p2 / 6)
  have h5 := sq_nn v.p2
  generalize (v.p3 - v.p0 / 8 + v.p4 / 2 + v.p5 / 2) * (v.p3 - v.p0 / 8 + v.p4 / 2 + v.p5 / 2) = s0 at *
  generalize (v.p4 + v.p0 / 12 - v.p1 / 6 + v.p5 / 3) * (v.p4 + v.p0 / 12 - v.p1 / 6 + v.p5 / 3) = s1 at *
  generalize (v.p5 + v.p0 / 16 + v.p1 / 16 - 3 * v.p2 / 16) * (v.p5 + v.p0 / 16 + v.p1 / 16 - 3 * v.p2 / 16) = s2 at *
  generalize (v.p0 - v.p1 / 7 - v.p2 / 7) * (v.p0 - v.p1 / 7 - v.p2 / 7) = s3 at *
  generalize (v.p1 - v.p2 / 6) * (v.p1 - v.p2 / 6) = s4 at *
  generalize v.p2 * v.p2 = s5 at *
  grind
theorem sq_z {a : Rat} (h : a * a = 0) : a = 0 := by rcases Rat.mul_eq_zero.1 h with h | h <;> exact h
theorem quad_z {v : P6} (h : quad v = 0) : v.p0 = 0 ∧ v.p1 = 0 ∧ v.p2 = 0 ∧ v.p3 = 0 ∧ v.p4 = 0 ∧ v.p5 = 0 := by
  rw [quad_sq] at h
  have h0 := sq_nn (v.p3 - v.p0 / 8 + v.p4 / 2 + v.p5 / 2)
  have h1 := sq_nn (v.p4 + v.p0 / 12 - v.p1 / 6 + v.p5 / 3)
  have h2 := sq_nn (v.p5 + v.p0 / 16 + v.p1 / 16 - 3 * v.p2 / 16)
  have h3 := sq_nn (v.p0 - v.p1 / 7 - v.p2 / 7)
  have h4 := sq_nn (v.p1 - v.p2 / 6)
  have h5 := sq_nn v.p2
  have e : ∀ s0 s1 s2 s3 s4 s5 : Rat, 0 ≤ s0 → 0 ≤ s1 → 0 ≤ s2 → 0 ≤ s3 → 0 ≤ s4 → 0 ≤ s5 → 32 * s0 + 24 * s1 + 64 / 3 * s2 + 21 / 4 * s3 + 36 / 7 * s4 + 5 * s5 = 0 → s0 = 0 ∧ s1 = 0 ∧ s2 = 0 ∧ s3 = 0 ∧ s4 = 0 ∧ s5 = 0 := by
    intros
    refine ⟨?_, ?_, ?_, ?_, ?_, ?_⟩ <;> grind
  obtain ⟨g0, g1, g2, g3, g4, g5⟩ := e _ _ _ _ _ _ h0 h1 h2 h3 h4 h5 h
  have k5 := sq_z g5
  have k4 := sq_z g4
  have k3 := sq_z g3
  have k2 := sq_z g2
  have k1 := sq_z g1
  have k0 := sq_z g0
  refine ⟨?_, ?_, ?_, ?_, ?_, ?_⟩ <;> grind

/-- A polynomial at any point of the plane, out of its six values. -/
theorem ev_bary (f : P6) (ax ay bx b_ cx cy s t : Rat) : evQ f (ax + s * (bx - ax) + t * (cx - ax)) (ay + s * (b_ - ay) + t * (cy - ay)) = lin (sixQ f ax ay bx b_ cx cy) (1 - 3 * s - 3 * t + 2 * s * s + 4 * s * t + 2 * t * t) (2 * s * s - s) (2 * t * t - t) (4 * s * t) (4 * t * (1 - s - t)) (4 * s * (1 - s - t)) := by
  unfold sixQ lin evQ; grind
theorem ev_at {f : P6} {ax ay bx b_ cx cy x y : Rat} (s t : Rat) (hx : x = ax + s * (bx - ax) + t * (cx - ax)) (hy : y = ay + s * (b_ - ay) + t * (cy - ay)) : evQ f x y = lin (sixQ f ax ay bx b_ cx cy) (1 - 3 * s - 3 * t + 2 * s * s + 4 * s * t + 2 * t * t) (2 * s * s - s) (2 * t * t - t) (4 * s * t) (4 * t * (1 - s - t)) (4 * s * (1 - s - t)) := by
  rw [hx, hy]; exact ev_bary f ax ay bx b_ cx cy s t
/-! ### Halves -/
section
variable {f : P6} {ax ay bx b_ cx cy k : Rat}
theorem half1 : sixQ f ax ay (ax + (bx - ax) * k) (ay + (b_ - ay) * k) cx cy = ⟨(sixQ f ax ay bx b_ cx cy).p0, lin (sixQ f ax ay bx b_ cx cy) (1 - 3 * k + 2 * k * k) (2 * k * k - k) 0 0 0 (4 * k * (1 - k)), (sixQ f ax ay bx b_ cx cy).p2, lin (sixQ f ax ay bx b_ cx cy) (k * k / 2 - k / 2) (k * k / 2 - k / 2) 0 k (1 - k) (k - k * k), (sixQ f ax ay bx b_ cx cy).p4, lin (sixQ f ax ay bx b_ cx cy) (1 - 3 / 2 * k + k * k / 2) (k * k / 2 - k / 2) 0 0 0 (2 * k - k * k)⟩ := by
  unfold sixQ lin evQ
  simp only [P6.mk.injEq]
  refine ⟨?_, ?_, ?_, ?_, ?_, ?_⟩ <;> grind
theorem half2 : sixQ f (ax + (bx - ax) * k) (ay + (b_ - ay) * k) bx b_ cx cy = ⟨lin (sixQ f ax ay bx b_ cx cy) (1 - 3 * k + 2 * k * k) (2 * k * k - k) 0 0 0 (4 * k * (1 - k)), (sixQ f ax ay bx b_ cx cy).p1, (sixQ f ax ay bx b_ cx cy).p2, (sixQ f ax ay bx b_ cx cy).p3, lin (sixQ f ax ay bx b_ cx cy) (k * k / 2 - k / 2) (k * k / 2 - k / 2) 0 k (1 - k) (k - k * k), lin (sixQ f ax ay bx b_ cx cy) (k * k / 2 - k / 2) (k / 2 + k * k / 2) 0 0 0 (1 - k * k)⟩ := by
  unfold sixQ lin evQ
  simp only [P6.mk.injEq]
  refine ⟨?_, ?_, ?_, ?_, ?_, ?_⟩ <;> grind
theorem ar_half1 (h0 : 0 < k) : arQ ax ay (ax + (bx - ax) * k) (ay + (b_ - ay) * k) cx cy = k * arQ ax ay bx b_ cx cy := by
  have e : area ax ay (ax + (bx - ax) * k) (ay + (b_ - ay) * k) cx cy = k * area ax ay bx b_ cx cy := by unfold area; grind
  unfold arQ; rw [e, absQ_mul h0, ic2]; grind
theorem ar_half2 (h1 : k < 1) : arQ (ax + (bx - ax) * k) (ay + (b_ - ay) * k) bx b_ cx cy = (1 - k) * arQ ax ay bx b_ cx cy := by
  have e : area (ax + (bx - ax) * k) (ay + (b_ - ay) * k) bx b_ cx cy = (1 - k) * area ax ay bx b_ cx cy := by unfold area; grind
  unfold arQ; rw [e, absQ_mul (by grind), ic2]; grind
theorem int_half (h0 : 0 < k) (h1 : k < 1) : intQ (sixQ f ax ay bx b_ cx cy) (arQ ax ay bx b_ cx cy) = intQ (sixQ f ax ay (ax + (bx - ax) * k) (ay + (b_ - ay) * k) cx cy) (arQ ax ay (ax + (bx - ax) * k) (ay + (b_ - ay) * k) cx cy) + intQ (sixQ f (ax + (bx - ax) * k) (ay + (b_ - ay) * k) bx b_ cx cy) (arQ (ax + (bx - ax) * k) (ay + (b_ - ay) * k) bx b_ cx cy) := by
  rw [half1, half2, ar_half1 h0, ar_half2 h1, intQ_eq, intQ_eq, intQ_eq]
  generalize sixQ f ax ay bx b_ cx cy = v
  generalize arQ ax ay bx b_ cx cy = a
  cases v
  simp only [lin]
  grind
theorem quad_half (v : P6) (k : Rat) : quad v = k * quad ⟨v.p0, lin v (1 - 3 * k + 2 * k * k) (2 * k * k - k) 0 0 0 (4 * k * (1 - k)), v.p2, lin v (k * k / 2 - k / 2) (k * k / 2 - k / 2) 0 k (1 - k) (k - k * k), v.p4, lin v (1 - 3 / 2 * k + k * k / 2) (k * k / 2 - k / 2) 0 0 0 (2 * k - k * k)⟩ + (1 - k) * quad ⟨lin v (1 - 3 * k + 2 * k * k) (2 * k * k - k) 0 0 0 (4 * k * (1 - k)), v.p1, v.p2, v.p3, lin v (k * k / 2 - k / 2) (k * k / 2 - k / 2) 0 k (1 - k) (k - k * k), lin v (k * k / 2 - k / 2) (k / 2 + k * k / 2) 0 0 0 (1 - k * k)⟩ := by
  cases v
  simp only [quad, lin]
  grind
theorem sq_half (h0 : 0 < k) (h1 : k < 1) : sqQ (sixQ f ax ay bx b_ cx cy) (arQ ax ay bx b_ cx cy) = sqQ (sixQ f ax ay (ax + (bx - ax) * k) (ay + (b_ - ay) * k) cx cy) (arQ ax ay (ax + (bx - ax) * k) (ay + (b_ - ay) * k) cx cy) + sqQ (sixQ f (ax + (bx - ax) * k) (ay + (b_ - ay) * k) bx b_ cx cy) (arQ (ax + (bx - ax) * k) (ay + (b_ - ay) * k) bx b_ cx cy) := by
  rw [half1, half2, ar_half1 h0, ar_half2 h1, sqQ_eq, sqQ_eq, sqQ_eq]
  generalize sixQ f ax ay bx b_ cx cy = v
  generalize arQ ax ay bx b_ cx cy = a
  have h := quad_half v k
  generalize quad v = q at *
  generalize quad ⟨_, _, _, _, _, _⟩ = q1 at *
  generalize quad ⟨_, _, _, _, _, _⟩ = q2 at *
  rw [h]; grind
/-! ### Parts -/
theorem six_swap : sixQ f bx b_ ax ay cx cy = ⟨(sixQ f ax ay bx b_ cx cy).p1, (sixQ f ax ay bx b_ cx cy).p0, (sixQ f ax ay bx b_ cx cy).p2, (sixQ f ax ay bx b_ cx cy).p4, (sixQ f ax ay bx b_ cx cy).p3, (sixQ f ax ay bx b_ cx cy).p5⟩ := by
  unfold sixQ; simp only [Rat.add_comm]
theorem six_turn : sixQ f cx cy bx b_ ax ay = ⟨(sixQ f ax ay bx b_ cx cy).p2, (sixQ f ax ay bx b_ cx cy).p1, (sixQ f ax ay bx b_ cx cy).p0, (sixQ f ax ay bx b_ cx cy).p5, (sixQ f ax ay bx b_ cx cy).p4, (sixQ f ax ay bx b_ cx cy).p3⟩ := by
  unfold sixQ; simp only [Rat.add_comm]
theorem ar_swap : arQ bx b_ ax ay cx cy = arQ ax ay bx b_ cx cy := by
  have e : area bx b_ ax ay cx cy = -area ax ay bx b_ cx cy := by unfold area; grind
  unfold arQ; rw [e, absQ_neg]
theorem ar_turn : arQ cx cy bx b_ ax ay = arQ ax ay bx b_ cx cy := by
  have e : area cx cy bx b_ ax ay = -area ax ay bx b_ cx cy := by unfold area; grind
  unfold arQ; rw [e, absQ_neg]
theorem load_sum (v : P6) (a : Rat) : (loadQ v a).1 + ((loadQ v a).2.1 + (loadQ v a).2.2) = intQ v a := by
  rw [intQ_eq]; unfold loadQ; simp only [wL0_eq, wL1_eq, wL2_eq, lin]; grind
theorem load_swap (v : P6) (a : Rat) : loadQ ⟨v.p1, v.p0, v.p2, v.p4, v.p3, v.p5⟩ a = ((loadQ v a).2.1, (loadQ v a).1, (loadQ v a).2.2) := by
  unfold loadQ; simp only [wL0_eq, wL1_eq, wL2_eq, lin, Prod.mk.injEq]
  refine ⟨?_, ?_, ?_⟩ <;> grind
theorem sq_turn (v : P6) (a : Rat) : sqQ ⟨v.p2, v.p1, v.p0, v.p5, v.p4, v.p3⟩ a = sqQ v a := by
  rw [sqQ_eq, sqQ_eq]; unfold quad; grind
theorem div_pos {a b : Rat} (ha : 0 < a) (hb : 0 < b) : 0 < a / b := by
  rw [Rat.div_def]; exact Rat.mul_pos ha (Rat.inv_pos.2 hb)
theorem arQ_pos (h : area ax ay bx b_ cx cy ≠ 0) : 0 < arQ ax ay bx b_ cx cy := by
  have := absQ_pos h
  unfold arQ; rw [ic2]; exact div_pos this (by decide)
theorem sqQ_nn (v : P6) {a : Rat} (ha : 0 < a) : 0 ≤ sqQ v a := by
  rw [sqQ_eq]
  have := Rat.mul_nonneg (quad_nn v) (by grind : (0 : Rat) ≤ a)
  grind
theorem sqQ_z (v : P6) {a : Rat} (ha : 0 < a) : sqQ v a = 0 ↔ v = ⟨0, 0, 0, 0, 0, 0⟩ := by
  rw [sqQ_eq]
  constructor
  · intro h
    have h1 : quad v * a = 0 := by grind
    have h2 : quad v = 0 := by
      rcases Rat.mul_eq_zero.1 h1 with h | h
      · exact h
      · grind
    obtain ⟨g0, g1, g2, g3, g4, g5⟩ := quad_z h2
    cases v
    simp_all
  · intro h; subst h; unfold quad; grind
theorem six_z (h : area ax ay bx b_ cx cy ≠ 0) : sixQ f ax ay bx b_ cx cy = ⟨0, 0, 0, 0, 0, 0⟩ ↔ f = ⟨0, 0, 0, 0, 0, 0⟩ := by
  constructor
  · intro hz
    have all : ∀ x y, evQ f x y = 0 := fun x y => by
      have hd : (area ax ay bx b_ cx cy) * (area ax ay bx b_ cx cy)⁻¹ = 1 := Rat.mul_inv_cancel _ h
      have := ev_at (f := f) (ax := ax) (ay := ay) (bx := bx) (b_ := b_) (cx := cx) (cy := cy) (x := x) (y := y) (((x - ax) * (cy - ay) - (y - ay) * (cx - ax)) * (area ax ay bx b_ cx cy)⁻¹) (((bx - ax) * (y - ay) - (b_ - ay) * (x - ax)) * (area ax ay bx b_ cx cy)⁻¹) (by
        have : x - ax = (x - ax) * ((area ax ay bx b_ cx cy) * (area ax ay bx b_ cx cy)⁻¹) := by rw [hd]; grind
        generalize (area ax ay bx b_ cx cy)⁻¹ = i at *
        unfold area at *
        grind) (by
        have : y - ay = (y - ay) * ((area ax ay bx b_ cx cy) * (area ax ay bx b_ cx cy)⁻¹) := by rw [hd]; grind
        generalize (area ax ay bx b_ cx cy)⁻¹ = i at *
        unfold area at *
        grind)
      rw [this, hz]
      unfold lin; grind
    have e0 := all 0 0
    have e1 := all 1 0
    have e2 := all (-1) 0
    have e3 := all 0 1
    have e4 := all 0 (-1)
    have e5 := all 1 1
    cases f
    unfold evQ at *
    simp only [P6.mk.injEq] at *
    refine ⟨?_, ?_, ?_, ?_, ?_, ?_⟩ <;> grind
  · intro hz; subst hz; unfold sixQ evQ; simp [Rat.zero_mul, Rat.add_zero]
end
/-! ### Linear -/
def addP (f g : P6) (k : Rat) : P6 := ⟨f.p0 + g.p0 * k, f.p1 + g.p1 * k, f.p2 + g.p2 * k, f.p3 + g.p3 * k, f.p4 + g.p4 * k, f.p5 + g.p5 * k⟩
section
variable {f g : P6} {ax ay bx b_ cx cy : Rat}
theorem six7_add : sixQ (addP f g ((2 : Int) : Rat)) ax ay bx b_ cx cy = addP (sixQ f ax ay bx b_ cx cy) (sixQ g ax ay bx b_ cx cy) 2 := by
  unfold sixQ addP evQ; rw [ic2]
  simp only [P6.mk.injEq]
  refine ⟨?_, ?_, ?_, ?_, ?_, ?_⟩ <;> grind
theorem int7_add (v w : P6) (a : Rat) : intQ (addP v w 2) a = intQ v a + (intQ w a + intQ w a) := by
  simp only [intQ_eq, addP]; grind
theorem load7_add (v w : P6) (a : Rat) : loadQ (addP v w 2) a = ((loadQ v a).1 + ((loadQ w a).1 + (loadQ w a).1), (loadQ v a).2.1 + ((loadQ w a).2.1 + (loadQ w a).2.1), (loadQ v a).2.2 + ((loadQ w a).2.2 + (loadQ w a).2.2)) := by
  unfold loadQ; simp only [wL0_eq, wL1_eq, wL2_eq, lin, addP, Prod.mk.injEq]
  refine ⟨?_, ?_, ?_⟩ <;> grind
end
/-! ### The document's answer -/
/-- Factorials, and the integrals of products of hats. -/
def fac : Nat → Int
  | 0 => 1
  | n + 1 => fac n * (n + 1 : Nat)
def pwQ (a b c : Nat) : Rat := Rat.divInt (fac a * fac b * fac c) (fac (a + b + c + 2))
structure G6 where
  g00 : Rat
  g01 : Rat
  g02 : Rat
  g11 : Rat
  g12 : Rat
  g22 : Rat
def foQ (m x y : Rat) : Rat := ((4 : Int) : Rat) * m - x - y
def formQ (f : P6) (ax ay bx b_ cx cy : Rat) : G6 := ⟨ev7 f ax ay, foQ (ev7 f ((ax + bx) * Rat.divInt 1 2) ((ay + b_) * Rat.divInt 1 2)) (ev7 f ax ay) (ev7 f bx b_), foQ (ev7 f ((ax + cx) * Rat.divInt 1 2) ((ay + cy) * Rat.divInt 1 2)) (ev7 f ax ay) (ev7 f cx cy), ev7 f bx b_, foQ (ev7 f ((bx + cx) * Rat.divInt 1 2) ((b_ + cy) * Rat.divInt 1 2)) (ev7 f bx b_) (ev7 f cx cy), ev7 f cx cy⟩
def wgQ (g : G6) (a b c : Nat) : Rat := ((0 : Int) : Rat) + g.g00 * pwQ (a + 2) b c + g.g01 * pwQ (a + 1) (b + 1) c + g.g02 * pwQ (a + 1) b (c + 1) + g.g11 * pwQ a (b + 2) c + g.g12 * pwQ a (b + 1) (c + 1) + g.g22 * pwQ a b (c + 2)
def refInt (g : G6) (a : Rat) : Rat := a * wgQ g 0 0 0
def refLoad (g : G6) (a : Rat) : Rat × Rat × Rat := (a * wgQ g 1 0 0, a * wgQ g 0 1 0, a * wgQ g 0 0 1)
def refSq (g : G6) (a : Rat) : Rat := a * (((0 : Int) : Rat) + g.g00 * wgQ g 2 0 0 + g.g01 * wgQ g 1 1 0 + g.g02 * wgQ g 1 0 1 + g.g11 * wgQ g 0 2 0 + g.g12 * wgQ g 0 1 1 + g.g22 * wgQ g 0 0 2)
theorem dv12 : Rat.divInt 1 2 = 1 / 2 := by decide +kernel
theorem pw002 : pwQ 0 0 2 = 1 / 12 := by decide +kernel
theorem pw011 : pwQ 0 1 1 = 1 / 24 := by decide +kernel
theorem pw020 : pwQ 0 2 0 = 1 / 12 := by decide +kernel
theorem pw101 : pwQ 1 0 1 = 1 / 24 := by decide +kernel
theorem pw110 : pwQ 1 1 0 = 1 / 24 := by decide +kernel
theorem pw200 : pwQ 2 0 0 = 1 / 12 := by decide +kernel
theorem pw003 : pwQ 0 0 3 = 1 / 20 := by decide +kernel
theorem pw012 : pwQ 0 1 2 = 1 / 60 := by decide +kernel
theorem pw021 : pwQ 0 2 1 = 1 / 60 := by decide +kernel
theorem pw030 : pwQ 0 3 0 = 1 / 20 := by decide +kernel
theorem pw102 : pwQ 1 0 2 = 1 / 60 := by decide +kernel
theorem pw111 : pwQ 1 1 1 = 1 / 120 := by decide +kernel
theorem pw120 : pwQ 1 2 0 = 1 / 60 := by decide +kernel
theorem pw201 : pwQ 2 0 1 = 1 / 60 := by decide +kernel
theorem pw210 : pwQ 2 1 0 = 1 / 60 := by decide +kernel
theorem pw300 : pwQ 3 0 0 = 1 / 20 := by decide +kernel
theorem pw004 : pwQ 0 0 4 = 1 / 30 := by decide +kernel
theorem pw013 : pwQ 0 1 3 = 1 / 120 := by decide +kernel
theorem pw022 : pwQ 0 2 2 = 1 / 180 := by decide +kernel
theorem pw031 : pwQ 0 3 1 = 1 / 120 := by decide +kernel
theorem pw040 : pwQ 0 4 0 = 1 / 30 := by decide +kernel
theorem pw103 : pwQ 1 0 3 = 1 / 120 := by decide +kernel
theorem pw112 : pwQ 1 1 2 = 1 / 360 := by decide +kernel
theorem pw121 : pwQ 1 2 1 = 1 / 360 := by decide +kernel
theorem pw130 : pwQ 1 3 0 = 1 / 120 := by decide +kernel
theorem pw202 : pwQ 2 0 2 = 1 / 180 := by decide +kernel
theorem pw211 : pwQ 2 1 1 = 1 / 360 := by decide +kernel
theorem pw220 : pwQ 2 2 0 = 1 / 180 := by decide +kernel
theorem pw301 : pwQ 3 0 1 = 1 / 120 := by decide +kernel
theorem pw310 : pwQ 3 1 0 = 1 / 120 := by decide +kernel
theorem pw400 : pwQ 4 0 0 = 1 / 30 := by decide +kernel
theorem wg000 (g : G6) : wgQ g 0 0 0 = g.g00 * (1 / 12) + g.g01 * (1 / 24) + g.g02 * (1 / 24) + g.g11 * (1 / 12) + g.g12 * (1 / 24) + g.g22 * (1 / 12) := by
  unfold wgQ; simp only [Nat.zero_add, Nat.reduceAdd, pw200, pw110, pw101, pw020, pw011, pw002, ic0, Rat.zero_add]
theorem wg100 (g : G6) : wgQ g 1 0 0 = g.g00 * (1 / 20) + g.g01 * (1 / 60) + g.g02 * (1 / 60) + g.g11 * (1 / 60) + g.g12 * (1 / 120) + g.g22 * (1 / 60) := by
  unfold wgQ; simp only [Nat.zero_add, Nat.reduceAdd, pw300, pw210, pw201, pw120, pw111, pw102, ic0, Rat.zero_add]
theorem wg010 (g : G6) : wgQ g 0 1 0 = g.g00 * (1 / 60) + g.g01 * (1 / 60) + g.g02 * (1 / 120) + g.g11 * (1 / 20) + g.g12 * (1 / 60) + g.g22 * (1 / 60) := by
  unfold wgQ; simp only [Nat.zero_add, Nat.reduceAdd, pw210, pw120, pw111, pw030, pw021, pw012, ic0, Rat.zero_add]
theorem wg001 (g : G6) : wgQ g 0 0 1 = g.g00 * (1 / 60) + g.g01 * (1 / 120) + g.g02 * (1 / 60) + g.g11 * (1 / 60) + g.g12 * (1 / 60) + g.g22 * (1 / 20) := by
  unfold wgQ; simp only [Nat.zero_add, Nat.reduceAdd, pw201, pw111, pw102, pw021, pw012, pw003, ic0, Rat.zero_add]
theorem wg200 (g : G6) : wgQ g 2 0 0 = g.g00 * (1 / 30) + g.g01 * (1 / 120) + g.g02 * (1 / 120) + g.g11 * (1 / 180) + g.g12 * (1 / 360) + g.g22 * (1 / 180) := by
  unfold wgQ; simp only [Nat.zero_add, Nat.reduceAdd, pw400, pw310, pw301, pw220, pw211, pw202, ic0, Rat.zero_add]
theorem wg110 (g : G6) : wgQ g 1 1 0 = g.g00 * (1 / 120) + g.g01 * (1 / 180) + g.g02 * (1 / 360) + g.g11 * (1 / 120) + g.g12 * (1 / 360) + g.g22 * (1 / 360) := by
  unfold wgQ; simp only [Nat.zero_add, Nat.reduceAdd, pw310, pw220, pw211, pw130, pw121, pw112, ic0, Rat.zero_add]
theorem wg101 (g : G6) : wgQ g 1 0 1 = g.g00 * (1 / 120) + g.g01 * (1 / 360) + g.g02 * (1 / 180) + g.g11 * (1 / 360) + g.g12 * (1 / 360) + g.g22 * (1 / 120) := by
  unfold wgQ; simp only [Nat.zero_add, Nat.reduceAdd, pw301, pw211, pw202, pw121, pw112, pw103, ic0, Rat.zero_add]
theorem wg020 (g : G6) : wgQ g 0 2 0 = g.g00 * (1 / 180) + g.g01 * (1 / 120) + g.g02 * (1 / 360) + g.g11 * (1 / 30) + g.g12 * (1 / 120) + g.g22 * (1 / 180) := by
  unfold wgQ; simp only [Nat.zero_add, Nat.reduceAdd, pw220, pw130, pw121, pw040, pw031, pw022, ic0, Rat.zero_add]
theorem wg011 (g : G6) : wgQ g 0 1 1 = g.g00 * (1 / 360) + g.g01 * (1 / 360) + g.g02 * (1 / 360) + g.g11 * (1 / 120) + g.g12 * (1 / 180) + g.g22 * (1 / 120) := by
  unfold wgQ; simp only [Nat.zero_add, Nat.reduceAdd, pw211, pw121, pw112, pw031, pw022, pw013, ic0, Rat.zero_add]
theorem wg002 (g : G6) : wgQ g 0 0 2 = g.g00 * (1 / 180) + g.g01 * (1 / 360) + g.g02 * (1 / 120) + g.g11 * (1 / 180) + g.g12 * (1 / 120) + g.g22 * (1 / 30) := by
  unfold wgQ; simp only [Nat.zero_add, Nat.reduceAdd, pw202, pw112, pw103, pw022, pw013, pw004, ic0, Rat.zero_add]
/-- The document's form, out of the program's six values. -/
theorem form_eq (f : P6) (ax ay bx b_ cx cy : Rat) : formQ f ax ay bx b_ cx cy = ⟨(sixQ f ax ay bx b_ cx cy).p0, 4 * (sixQ f ax ay bx b_ cx cy).p5 - (sixQ f ax ay bx b_ cx cy).p0 - (sixQ f ax ay bx b_ cx cy).p1, 4 * (sixQ f ax ay bx b_ cx cy).p4 - (sixQ f ax ay bx b_ cx cy).p0 - (sixQ f ax ay bx b_ cx cy).p2, (sixQ f ax ay bx b_ cx cy).p1, 4 * (sixQ f ax ay bx b_ cx cy).p3 - (sixQ f ax ay bx b_ cx cy).p1 - (sixQ f ax ay bx b_ cx cy).p2, (sixQ f ax ay bx b_ cx cy).p2⟩ := by
  unfold formQ foQ sixQ
  simp only [ev7_eq, ic4, dv12, Rat.add_comm]
theorem ref_int (f : P6) (ax ay bx b_ cx cy : Rat) : refInt (formQ f ax ay bx b_ cx cy) (absQ (area ax ay bx b_ cx cy)) = intQ (sixQ f ax ay bx b_ cx cy) (arQ ax ay bx b_ cx cy) := by
  rw [form_eq, intQ_eq]
  unfold refInt arQ
  rw [wg000, ic2]
  generalize sixQ f ax ay bx b_ cx cy = v
  generalize absQ (area ax ay bx b_ cx cy) = a
  cases v; simp only; grind
theorem ref_load (f : P6) (ax ay bx b_ cx cy : Rat) : refLoad (formQ f ax ay bx b_ cx cy) (absQ (area ax ay bx b_ cx cy)) = loadQ (sixQ f ax ay bx b_ cx cy) (arQ ax ay bx b_ cx cy) := by
  rw [form_eq]
  unfold refLoad arQ loadQ
  rw [wg100, wg010, wg001, wL0_eq, wL1_eq, wL2_eq, ic2]
  generalize sixQ f ax ay bx b_ cx cy = v
  generalize absQ (area ax ay bx b_ cx cy) = a
  cases v; simp only [lin, Prod.mk.injEq]
  refine ⟨?_, ?_, ?_⟩ <;> grind
theorem ref_sq (f : P6) (ax ay bx b_ cx cy : Rat) : refSq (formQ f ax ay bx b_ cx cy) (absQ (area ax ay bx b_ cx cy)) = sqQ (sixQ f ax ay bx b_ cx cy) (arQ ax ay bx b_ cx cy) := by
  rw [form_eq, sqQ_eq]
  unfold refSq arQ
  simp only [wg200, wg110, wg101, wg020, wg011, wg002, ic2, ic0]
  generalize sixQ f ax ay bx b_ cx cy = v
  generalize absQ (area ax ay bx b_ cx cy) = a
  cases v; simp only [quad]; grind
end Go.Proofs.YtcpmkohlmjakmaaGreatDoor.Am