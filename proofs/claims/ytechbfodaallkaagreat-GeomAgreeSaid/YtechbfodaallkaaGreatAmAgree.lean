import Derived.Test.YtechbfodaallkaaGreatAmGeom2
/- The predicates agree: as numbers. -/
set_option linter.unusedVariables false
set_option maxRecDepth 10000
set_option linter.unusedSimpArgs false
namespace Go.Proofs.YtechbfodaallkaaGreat.Am
open Go

theorem mulpos {a b : Rat} (ha : 0 < a) (hb : 0 < b) : 0 < a * b := Rat.mul_pos ha hb
theorem sumsq {x y : Rat} (h : x * x + y * y = 0) : x = 0 ∧ y = 0 := by
  have h1 := sq_nn x
  have h2 := sq_nn y
  have e1 : x * x = 0 := by grind
  have e2 : y * y = 0 := by grind
  exact ⟨by rcases Rat.mul_eq_zero.1 e1 with h | h <;> exact h, by rcases Rat.mul_eq_zero.1 e2 with h | h <;> exact h⟩
/-- Sums of squares times what is above 0. -/
theorem cpos {x1 y1 x2 y2 x3 y3 : Rat} (h1 : 0 < x2 * y3 - y2 * x3) (h2 : 0 < x3 * y1 - y3 * x1) (h3 : 0 < x1 * y2 - y1 * x2) : 0 < (x1 * x1 + y1 * y1) * (x2 * y3 - y2 * x3) + (x2 * x2 + y2 * y2) * (x3 * y1 - y3 * x1) + (x3 * x3 + y3 * y3) * (x1 * y2 - y1 * x2) := by
  have n1 : 0 < x1 * x1 + y1 * y1 := by
    have a := sq_nn x1
    have b := sq_nn y1
    by_cases h : x1 * x1 + y1 * y1 = 0
    · obtain ⟨e1, e2⟩ := sumsq h
      subst e1 e2
      grind
    · grind
  have n2 : 0 ≤ x2 * x2 + y2 * y2 := by have a := sq_nn x2; have b := sq_nn y2; grind
  have n3 : 0 ≤ x3 * x3 + y3 * y3 := by have a := sq_nn x3; have b := sq_nn y3; grind
  have k1 := mulpos n1 h1
  have k2 := Rat.mul_nonneg n2 (by grind : 0 ≤ x3 * y1 - y3 * x1)
  have k3 := Rat.mul_nonneg n3 (by grind : 0 ≤ x1 * y2 - y1 * x2)
  generalize (x1 * x1 + y1 * y1) * (x2 * y3 - y2 * x3) = p1 at *
  generalize (x2 * x2 + y2 * y2) * (x3 * y1 - y3 * x1) = p2 at *
  generalize (x3 * x3 + y3 * y3) * (x1 * y2 - y1 * x2) = p3 at *
  grind
theorem cnn {x1 y1 x2 y2 x3 y3 : Rat} (h1 : 0 ≤ x2 * y3 - y2 * x3) (h2 : 0 ≤ x3 * y1 - y3 * x1) (h3 : 0 ≤ x1 * y2 - y1 * x2) : 0 ≤ (x1 * x1 + y1 * y1) * (x2 * y3 - y2 * x3) + (x2 * x2 + y2 * y2) * (x3 * y1 - y3 * x1) + (x3 * x3 + y3 * y3) * (x1 * y2 - y1 * x2) := by
  have n1 : 0 ≤ x1 * x1 + y1 * y1 := by have a := sq_nn x1; have b := sq_nn y1; grind
  have n2 : 0 ≤ x2 * x2 + y2 * y2 := by have a := sq_nn x2; have b := sq_nn y2; grind
  have n3 : 0 ≤ x3 * x3 + y3 * y3 := by have a := sq_nn x3; have b := sq_nn y3; grind
  have k1 := Rat.mul_nonneg n1 h1
  have k2 := Rat.mul_nonneg n2 h2
  have k3 := Rat.mul_nonneg n3 h3
  generalize (x1 * x1 + y1 * y1) * (x2 * y3 - y2 * x3) = p1 at *
  generalize (x2 * x2 + y2 * y2) * (x3 * y1 - y3 * x1) = p2 at *
  generalize (x3 * x3 + y3 * y3) * (x1 * y2 - y1 * x2) = p3 at *
  grind
theorem rsgn_gt {q : Rat} : 0 < rsgn q ↔ 0 < q := by
  have h1 := @rsgn_le q
  constructor
  · intro h
    have : ¬ q ≤ 0 := fun hh => by have := h1.2 hh; omega
    grind
  · intro h
    have : ¬ rsgn q ≤ 0 := fun hh => by have := h1.1 hh; grind
    omega
theorem rsgn_v (q : Rat) : rsgn q = -1 ∨ rsgn q = 0 ∨ rsgn q = 1 := by have := rsgn_bd q; omega
theorem min3_ge {x y z k : Int} (h : k ≤ min3 x y z) : k ≤ x ∧ k ≤ y ∧ k ≤ z := by
  unfold min3 at h
  split at h <;> split at h <;> omega
section
variable {ax ay bx b_ cx cy dx dy : Rat}
/-- The determinant changes its sign with a mirror. -/
theorem agree_way (h0 : area ax ay bx b_ cx cy ≠ 0) :
    (withinQ ax ay bx b_ cx cy dx dy = 1 → rsgn (area ax ay bx b_ cx cy) * rsgn (cirD ax ay bx b_ cx cy dx dy) = 1) ∧ (withinQ ax ay bx b_ cx cy dx dy = 0 → 0 ≤ rsgn (area ax ay bx b_ cx cy) * rsgn (cirD ax ay bx b_ cx cy dx dy)) := by
  rw [cir_eq]
  unfold withinQ
  have e1 : area bx b_ cx cy dx dy = (bx - dx) * (cy - dy) - (b_ - dy) * (cx - dx) := by unfold area; grind
  have e2 : area cx cy ax ay dx dy = (cx - dx) * (ay - dy) - (cy - dy) * (ax - dx) := by unfold area; grind
  have e3 : area ax ay bx b_ dx dy = (ax - dx) * (b_ - dy) - (ay - dy) * (bx - dx) := by unfold area; grind
  unfold cir5
  rw [e1, e2, e3]
  generalize ax - dx = x1 at *
  generalize ay - dy = y1 at *
  generalize bx - dx = x2 at *
  generalize b_ - dy = y2 at *
  generalize cx - dx = x3 at *
  generalize cy - dy = y3 at *
  have P := @cpos x1 y1 x2 y2 x3 y3
  have Q := @cnn x1 y1 x2 y2 x3 y3
  have P' := @cpos (-x1) y1 (-x2) y2 (-x3) y3
  have Q' := @cnn (-x1) y1 (-x2) y2 (-x3) y3
  have f1 : -x2 * y3 - y2 * -x3 = -(x2 * y3 - y2 * x3) := by grind
  have f2 : -x3 * y1 - y3 * -x1 = -(x3 * y1 - y3 * x1) := by grind
  have f3 : -x1 * y2 - y1 * -x2 = -(x1 * y2 - y1 * x2) := by grind
  have g1 : -x1 * -x1 = x1 * x1 := by grind
  have g2 : -x2 * -x2 = x2 * x2 := by grind
  have g3 : -x3 * -x3 = x3 * x3 := by grind
  rw [f1, f2, f3, g1, g2, g3] at P' Q'
  generalize x2 * y3 - y2 * x3 = S1 at *
  generalize x3 * y1 - y3 * x1 = S2 at *
  generalize x1 * y2 - y1 * x2 = S3 at *
  generalize x1 * x1 + y1 * y1 = N1 at *
  generalize x2 * x2 + y2 * y2 = N2 at *
  generalize x3 * x3 + y3 * y3 = N3 at *
  have eN : N1 * -S1 + N2 * -S2 + N3 * -S3 = -(N1 * S1 + N2 * S2 + N3 * S3) := by grind
  rw [eN] at P' Q'
  generalize N1 * S1 + N2 * S2 + N3 * S3 = D at *
  have a1 := @rsgn_gt S1
  have a2 := @rsgn_gt S2
  have a3 := @rsgn_gt S3
  have b1 := @rsgn_ge S1
  have b2 := @rsgn_ge S2
  have b3 := @rsgn_ge S3
  have c1 := @rsgn_lt S1
  have c2 := @rsgn_lt S2
  have c3 := @rsgn_lt S3
  have d1 := @rsgn_le S1
  have d2 := @rsgn_le S2
  have d3 := @rsgn_le S3
  have u1 := @rsgn_gt D
  have u2 := @rsgn_ge D
  have u3 := @rsgn_lt D
  have u4 := @rsgn_le D
  have v := rsgn_v D
  have hT : rsgn (area ax ay bx b_ cx cy) ≠ 0 := fun hh => h0 (rsgn_zero.1 hh)
  rcases rsgn_v (area ax ay bx b_ cx cy) with h | h | h
  · rw [h]
    refine ⟨fun hw => ?_, fun hw => ?_⟩
    · obtain ⟨g3, g1, g2⟩ := min3_ge (Int.le_of_eq hw.symm)
      have := c1.1 (by omega)
      have := c2.1 (by omega)
      have := c3.1 (by omega)
      have := P' (by grind) (by grind) (by grind)
      have := u3.2 (by grind)
      omega
    · obtain ⟨g3, g1, g2⟩ := min3_ge (Int.le_of_eq hw.symm)
      have := d1.1 (by omega)
      have := d2.1 (by omega)
      have := d3.1 (by omega)
      have := Q' (by grind) (by grind) (by grind)
      have := u4.2 (by grind)
      omega
  · exact absurd h hT
  · rw [h]
    refine ⟨fun hw => ?_, fun hw => ?_⟩
    · obtain ⟨g3, g1, g2⟩ := min3_ge (Int.le_of_eq hw.symm)
      have := u1.2 (P (a1.1 (by omega)) (a2.1 (by omega)) (a3.1 (by omega)))
      omega
    · obtain ⟨g3, g1, g2⟩ := min3_ge (Int.le_of_eq hw.symm)
      have := u2.2 (Q (b1.1 (by omega)) (b2.1 (by omega)) (b3.1 (by omega)))
      omega
theorem sgn_opp {p q : Rat} (h : rsgn p * rsgn q < 0) : (0 < p ∧ q < 0) ∨ (p < 0 ∧ 0 < q) := by
  have a1 := @rsgn_gt p
  have a2 := @rsgn_lt p
  have b1 := @rsgn_gt q
  have b2 := @rsgn_lt q
  rcases rsgn_v p with h1 | h1 | h1 <;> rcases rsgn_v q with h2 | h2 | h2 <;> rw [h1, h2] at h <;> first | omega | skip
  · exact .inr ⟨a2.1 (by omega), b1.1 (by omega)⟩
  · exact .inl ⟨a1.1 (by omega), b2.1 (by omega)⟩
/-- Where one number is above 0 and the other below, the first's part is between 0 and 1. -/
theorem frac01 {r u i : Rat} (h : (0 < r ∧ u < 0) ∨ (r < 0 ∧ 0 < u)) (hi : (r - u) * i = 1) : 0 ≤ r * i ∧ r * i ≤ 1 := by
  have hd : r - u ≠ 0 := fun hh => by rw [hh, Rat.zero_mul] at hi; exact absurd hi (by decide)
  have e : 1 - r * i = -u * i := by grind
  rcases h with ⟨h1, h2⟩ | ⟨h1, h2⟩
  · have ip : 0 < i := by
      by_cases hp : 0 < i
      · exact hp
      · have := Rat.mul_nonneg (a := r - u) (b := -i) (by grind) (by grind)
        grind
    have k1 := mulpos h1 ip
    have k2 := mulpos (by grind : 0 < -u) ip
    exact ⟨by grind, by grind⟩
  · have ip : 0 < -i := by
      by_cases hp : 0 < -i
      · exact hp
      · have := Rat.mul_nonneg (a := u - r) (b := i) (by grind) (by grind)
        grind
    have k1 := mulpos (by grind : 0 < -r) ip
    have k2 := mulpos h2 ip
    exact ⟨by grind, by grind⟩
/-- Where segments cross, the lines do, on both. -/
theorem agree_cross (hm : meetQ ax ay bx b_ cx cy dx dy = 1) :
    (bx - ax) * (dy - cy) - (b_ - ay) * (dx - cx) ≠ 0 ∧ onP ax ay bx b_ (ax + (bx - ax) * alongQ ax ay bx b_ cx cy dx dy) (ay + (b_ - ay) * alongQ ax ay bx b_ cx cy dx dy) ∧ onP cx cy dx dy (ax + (bx - ax) * alongQ ax ay bx b_ cx cy dx dy) (ay + (b_ - ay) * alongQ ax ay bx b_ cx cy dx dy) := by
  unfold meetQ at hm
  split at hm
  · exact absurd hm (by decide)
  split at hm
  rotate_left
  · exact absurd hm (by decide)
  rename_i h
  obtain ⟨h1, h2⟩ := h
  have o1 := sgn_opp h1
  have o2 := sgn_opp h2
  have dQ : area ax ay bx b_ dx dy - area ax ay bx b_ cx cy = (bx - ax) * (dy - cy) - (b_ - ay) * (dx - cx) := by unfold area; grind
  have dR : area cx cy dx dy ax ay - area cx cy dx dy bx b_ = (bx - ax) * (dy - cy) - (b_ - ay) * (dx - cx) := by unfold area; grind
  have hd : (bx - ax) * (dy - cy) - (b_ - ay) * (dx - cx) ≠ 0 := fun hh => by
    rw [hh] at dR
    rcases o2 with o | o <;> grind
  refine ⟨hd, ?_⟩
  have hi : ((bx - ax) * (dy - cy) - (b_ - ay) * (dx - cx)) * ((bx - ax) * (dy - cy) - (b_ - ay) * (dx - cx))⁻¹ = 1 := Rat.mul_inv_cancel _ hd
  have et : alongQ ax ay bx b_ cx cy dx dy = area cx cy dx dy ax ay * ((bx - ax) * (dy - cy) - (b_ - ay) * (dx - cx))⁻¹ := by
    have : (cx - ax) * (dy - cy) - (cy - ay) * (dx - cx) = area cx cy dx dy ax ay := by unfold area; grind
    unfold alongQ
    rw [this, Rat.div_def]
  obtain ⟨t0, t1⟩ := frac01 o2 (by rw [dR]; exact hi)
  have o1' : (0 < -area ax ay bx b_ cx cy ∧ -area ax ay bx b_ dx dy < 0) ∨ (-area ax ay bx b_ cx cy < 0 ∧ 0 < -area ax ay bx b_ dx dy) := by
    rcases o1 with ⟨q1, q2⟩ | ⟨q1, q2⟩
    · exact .inr ⟨by grind, by grind⟩
    · exact .inl ⟨by grind, by grind⟩
  obtain ⟨s0, s1⟩ := frac01 o1' (i := ((bx - ax) * (dy - cy) - (b_ - ay) * (dx - cx))⁻¹) (by
    have : -area ax ay bx b_ cx cy - -area ax ay bx b_ dx dy = area ax ay bx b_ dx dy - area ax ay bx b_ cx cy := by grind
    rw [this, dQ]; exact hi)
  rw [et]
  have eX : ax + (bx - ax) * (area cx cy dx dy ax ay * ((bx - ax) * (dy - cy) - (b_ - ay) * (dx - cx))⁻¹) = cx + (dx - cx) * (-area ax ay bx b_ cx cy * ((bx - ax) * (dy - cy) - (b_ - ay) * (dx - cx))⁻¹) := by
    have k : ax - cx = (ax - cx) * (((bx - ax) * (dy - cy) - (b_ - ay) * (dx - cx)) * ((bx - ax) * (dy - cy) - (b_ - ay) * (dx - cx))⁻¹) := by rw [hi]; grind
    generalize ((bx - ax) * (dy - cy) - (b_ - ay) * (dx - cx))⁻¹ = i at *
    unfold area
    grind
  have eY : ay + (b_ - ay) * (area cx cy dx dy ax ay * ((bx - ax) * (dy - cy) - (b_ - ay) * (dx - cx))⁻¹) = cy + (dy - cy) * (-area ax ay bx b_ cx cy * ((bx - ax) * (dy - cy) - (b_ - ay) * (dx - cx))⁻¹) := by
    have k : ay - cy = (ay - cy) * (((bx - ax) * (dy - cy) - (b_ - ay) * (dx - cx)) * ((bx - ax) * (dy - cy) - (b_ - ay) * (dx - cx))⁻¹) := by rw [hi]; grind
    generalize ((bx - ax) * (dy - cy) - (b_ - ay) * (dx - cx))⁻¹ = i at *
    unfold area
    grind
  have on1 : ∀ t : Rat, 0 ≤ t → t ≤ 1 → ∀ ax ay bx b_ : Rat, onP ax ay bx b_ (ax + (bx - ax) * t) (ay + (b_ - ay) * t) := by
    intro t h0 h1 ax ay bx b_
    refine ⟨by unfold area; grind, ?_⟩
    have k := Rat.mul_nonneg (Rat.mul_nonneg h0 (by grind : 0 ≤ 1 - t)) (show 0 ≤ (bx - ax) * (bx - ax) + (b_ - ay) * (b_ - ay) by have := sq_nn (bx - ax); have := sq_nn (b_ - ay); grind)
    have e : discQ ax ay bx b_ (ax + (bx - ax) * t) (ay + (b_ - ay) * t) = -(t * (1 - t) * ((bx - ax) * (bx - ax) + (b_ - ay) * (b_ - ay))) := by unfold discQ; grind
    rw [e]; grind
  refine ⟨on1 _ t0 t1 _ _ _ _, ?_⟩
  rw [eX, eY]
  exact on1 _ s0 s1 _ _ _ _
/-- One on a segment is within its disc, or an end. -/
theorem agree_on (h : onP ax ay bx b_ dx dy) : -(rsgn (discQ ax ay bx b_ dx dy)) = 1 ∨ (-(rsgn (discQ ax ay bx b_ dx dy)) = 0 ∧ ((dx = ax ∧ dy = ay) ∨ (dx = bx ∧ dy = b_))) := by
  obtain ⟨h1, h2⟩ := h
  have v := rsgn_v (discQ ax ay bx b_ dx dy)
  have l := (@rsgn_le (discQ ax ay bx b_ dx dy)).2 h2
  by_cases h0 : rsgn (discQ ax ay bx b_ dx dy) = 0
  rotate_left
  · left; omega
  right
  refine ⟨by omega, ?_⟩
  have z := rsgn_zero.1 h0
  have e1 : area ax ay bx b_ dx dy = (ax - dx) * (b_ - dy) - (ay - dy) * (bx - dx) := by unfold area; grind
  rw [e1] at h1
  unfold discQ at z
  have k : ((ax - dx) * (ax - dx) + (ay - dy) * (ay - dy)) * ((bx - dx) * (bx - dx) + (b_ - dy) * (b_ - dy)) = 0 := by
    have : ((ax - dx) * (ax - dx) + (ay - dy) * (ay - dy)) * ((bx - dx) * (bx - dx) + (b_ - dy) * (b_ - dy)) = ((ax - dx) * (bx - dx) + (ay - dy) * (b_ - dy)) * ((ax - dx) * (bx - dx) + (ay - dy) * (b_ - dy)) + ((ax - dx) * (b_ - dy) - (ay - dy) * (bx - dx)) * ((ax - dx) * (b_ - dy) - (ay - dy) * (bx - dx)) := by grind
    rw [this, z, h1]; grind
  rcases Rat.mul_eq_zero.1 k with k | k
  · obtain ⟨q1, q2⟩ := sumsq k
    exact .inl ⟨by grind, by grind⟩
  · obtain ⟨q1, q2⟩ := sumsq k
    exact .inr ⟨by grind, by grind⟩
end
end Go.Proofs.YtechbfodaallkaaGreat.Am
