import Derived.Test.YtiblnpnfaadmcaaGreatAmV
import Derived.Test.YtiblnpnfaadmcaaGreatAmGeom2w
/- Measures of plans: as numbers. -/
set_option linter.unusedVariables false
set_option maxRecDepth 10000
set_option linter.unusedSimpArgs false
namespace Go.Proofs.YtiblnpnfaadmcaaGreat.Am
open Go

section
variable {ax ay bx b_ cx cy dx dy k : Rat}
theorem sgn3 (x : Rat) : rsgn x = -1 ∨ rsgn x = 0 ∨ rsgn x = 1 := by
  unfold rsgn
  split
  · exact .inl rfl
  · split
    · exact .inr (.inl rfl)
    · exact .inr (.inr rfl)
def apartQ (ax ay bx b_ cx cy dx dy : Rat) : Rat :=
  if meetQ ax ay bx b_ cx cy dx dy ≠ 0 then 0 else minQ (minQ (nearQ ax ay bx b_ cx cy) (nearQ ax ay bx b_ dx dy)) (minQ (nearQ cx cy dx dy ax ay) (nearQ cx cy dx dy bx b_))
theorem kk_pos (hk : 0 < k) : 0 < k * k := Rat.mul_pos hk hk
theorem le_scale {z x : Rat} (hz : 0 < z) : z * x ≤ 0 ↔ x ≤ 0 := by
  constructor
  · intro h
    rcases Rat.le_total (a := x) (b := 0) with g | g
    · exact g
    · by_cases h0 : x = 0
      · rw [h0]; exact Rat.le_refl
      · have : 0 < z * x := Rat.mul_pos hz (Rat.lt_of_le_of_ne g (Ne.symm h0))
        grind
  · intro h
    have : 0 ≤ z * -x := Rat.mul_nonneg (Rat.le_of_lt hz) (by grind)
    grind
theorem eq_scale {z x : Rat} (hz : 0 < z) : z * x = 0 ↔ x = 0 := by
  constructor
  · intro h
    rcases Rat.mul_eq_zero.1 h with g | g
    · rw [g] at hz; exact absurd hz (by decide)
    · exact g
  · intro h; rw [h, Rat.mul_zero]
theorem sgn_ext {x y : Rat} (h1 : x = 0 ↔ y = 0) (h2 : x ≤ 0 ↔ y ≤ 0) : rsgn x = rsgn y := by
  have a1 := @rsgn_zero x
  have a2 := @rsgn_zero y
  have a3 := @rsgn_le x
  have a4 := @rsgn_le y
  rw [← a1, ← a2] at h1
  rw [← a3, ← a4] at h2
  have := sgn3 x
  have := sgn3 y
  omega
theorem sgn_scale {z x : Rat} (hz : 0 < z) : rsgn (z * x) = rsgn x := sgn_ext (eq_scale hz) (le_scale hz)
theorem sc_area : area (ax * k) (ay * k) (bx * k) (b_ * k) (cx * k) (cy * k) = k * k * area ax ay bx b_ cx cy := by unfold area; grind
theorem sc_disc : discQ (ax * k) (ay * k) (bx * k) (b_ * k) (cx * k) (cy * k) = k * k * discQ ax ay bx b_ cx cy := by unfold discQ; grind
theorem sc_far : farQ (ax * k) (ay * k) (bx * k) (b_ * k) = k * k * farQ ax ay bx b_ := by unfold farQ; grind
theorem sc_on (hk : 0 < k) : onP (ax * k) (ay * k) (bx * k) (b_ * k) (cx * k) (cy * k) ↔ onP ax ay bx b_ cx cy := by
  unfold onP
  rw [sc_area, sc_disc, eq_scale (kk_pos hk), le_scale (kk_pos hk)]
theorem sc_meet (hk : 0 < k) : meetQ (ax * k) (ay * k) (bx * k) (b_ * k) (cx * k) (cy * k) (dx * k) (dy * k) = meetQ ax ay bx b_ cx cy dx dy := by
  unfold meetQ
  simp only [sc_on hk, sc_area, sgn_scale (kk_pos hk)]
theorem sc_near (hk : 0 < k) : nearQ (ax * k) (ay * k) (bx * k) (b_ * k) (cx * k) (cy * k) = k * k * nearQ ax ay bx b_ cx cy := by
  unfold nearQ
  have e1 : (cx * k - ax * k) * (bx * k - ax * k) + (cy * k - ay * k) * (b_ * k - ay * k) = k * k * ((cx - ax) * (bx - ax) + (cy - ay) * (b_ - ay)) := by grind
  have e2 : (cx * k - bx * k) * (bx * k - ax * k) + (cy * k - b_ * k) * (b_ * k - ay * k) = k * k * ((cx - bx) * (bx - ax) + (cy - b_) * (b_ - ay)) := by grind
  have e3 : (bx * k - ax * k) * (cy * k - ay * k) - (b_ * k - ay * k) * (cx * k - ax * k) = k * k * ((bx - ax) * (cy - ay) - (b_ - ay) * (cx - ax)) := by grind
  have e4 : (bx * k - ax * k) * (bx * k - ax * k) + (b_ * k - ay * k) * (b_ * k - ay * k) = k * k * ((bx - ax) * (bx - ax) + (b_ - ay) * (b_ - ay)) := by grind
  have hz := @norm_dot ax ay bx b_ cx cy
  rw [e1, e2, e3, e4, sc_far, sc_far]
  generalize (bx - ax) * (bx - ax) + (b_ - ay) * (b_ - ay) = n at *
  generalize (cx - ax) * (bx - ax) + (cy - ay) * (b_ - ay) = d at *
  generalize (cx - bx) * (bx - ax) + (cy - b_) * (b_ - ay) = f at *
  generalize (bx - ax) * (cy - ay) - (b_ - ay) * (cx - ax) = c at *
  have hp := kk_pos hk
  have hp' := hp
  have h2 : 0 ≤ k * k * f ↔ 0 ≤ f := by
    have := le_scale (x := -f) hp
    constructor
    · intro h; have := this.1 (by grind); grind
    · intro h; exact Rat.mul_nonneg (Rat.le_of_lt hp) h
  by_cases h1 : d ≤ 0
  · rw [if_pos h1, if_pos ((le_scale hp).2 h1)]
  rw [if_neg h1, if_neg (fun g => h1 ((le_scale hp).1 g))]
  by_cases h3 : 0 ≤ f
  · rw [if_pos h3, if_pos (h2.2 h3)]
  rw [if_neg h3, if_neg (fun g => h3 (h2.1 g))]
  have n0 : n ≠ 0 := fun h => by have := hz h; grind
  generalize k * k = z at *
  have z0 : z ≠ 0 := by grind
  have zn : z * n ≠ 0 := fun h => (Rat.mul_eq_zero.1 h).elim z0 n0
  grind
theorem sc_min {z x y : Rat} (hz : 0 < z) : minQ (z * x) (z * y) = z * minQ x y := by
  have := le_scale (x := x - y) hz
  unfold minQ
  by_cases h : x ≤ y
  · rw [if_pos h, if_pos (by have := this.2 (by grind); grind)]
  · rw [if_neg h, if_neg (fun g => h (by have := this.1 (by grind); grind))]
theorem sc_apart (hk : 0 < k) : apartQ (ax * k) (ay * k) (bx * k) (b_ * k) (cx * k) (cy * k) (dx * k) (dy * k) = k * k * apartQ ax ay bx b_ cx cy dx dy := by
  unfold apartQ
  rw [sc_meet hk, sc_near hk, sc_near hk, sc_near hk, sc_near hk, sc_min (kk_pos hk), sc_min (kk_pos hk), sc_min (kk_pos hk)]
  split
  · rw [Rat.mul_zero]
  · rfl
end
end Go.Proofs.YtiblnpnfaadmcaaGreat.Am
