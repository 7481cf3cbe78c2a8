import Derived.Test.YtiblnpnfaadmcaaGreatAmV
import Derived.Test.YtiblnpnfaadmcaaGreatAmGeom2w
/- Measures of plans: as numbers. -/
set_option linter.unusedVariables false
set_option maxRecDepth 10000
set_option linter.unusedSimpArgs false
namespace Go.Proofs.YtiblnpnfaadmcaaGreat.Am
open Go

section
variable {ax ay bx b_ cx cy dx dy k : Rat}
theorem zybk : nearQ bx b_ ax ay cx cy = nearQ ax ay bx b_ cx cy := by
 unfold nearQ
 have e1 : (cx - bx) * (ax - bx) + (cy - b_) * (ay - b_) = -((cx - bx) * (bx - ax) + (cy - b_) * (b_ - ay)) := by grind
 have e2 : (cx - ax) * (ax - bx) + (cy - ay) * (ay - b_) = -((cx - ax) * (bx - ax) + (cy - ay) * (b_ - ay)) := by grind
 have e3 : ((ax - bx) * (cy - b_) - (ay - b_) * (cx - bx)) = -((bx - ax) * (cy - ay) - (b_ - ay) * (cx - ax)) := by grind
 have e4 : (ax - bx) * (ax - bx) + (ay - b_) * (ay - b_) = (bx - ax) * (bx - ax) + (b_ - ay) * (b_ - ay) := by grind
 have e5 : (cx - ax) * (bx - ax) + (cy - ay) * (b_ - ay) - ((cx - bx) * (bx - ax) + (cy - b_) * (b_ - ay)) = (bx - ax) * (bx - ax) + (b_ - ay) * (b_ - ay) := by grind
 have hn := @zybw ax ay bx b_
 have hz : (bx - ax) * (bx - ax) + (b_ - ay) * (b_ - ay) = 0 → farQ cx cy bx b_ = farQ cx cy ax ay := fun h => by
  obtain ⟨rfl, rfl⟩ := zy5c (ax := ax) (ay := ay) (bx := bx) (b_ := b_) h; rfl
 rw [e1, e2, e3, e4]
 generalize (bx - ax) * (bx - ax) + (b_ - ay) * (b_ - ay) = n at *
 generalize (cx - ax) * (bx - ax) + (cy - ay) * (b_ - ay) = d at *
 generalize (cx - bx) * (bx - ax) + (cy - b_) * (b_ - ay) = f at *
 generalize farQ cx cy ax ay = u at *
 generalize farQ cx cy bx b_ = v at *
 generalize (bx - ax) * (cy - ay) - (b_ - ay) * (cx - ax) = c at *
 by_cases h1 : d ≤ 0
 ·rw [if_pos h1]
  by_cases h2 : -f ≤ 0
  ·rw [if_pos h2]; exact hz (by grind)
  ·rw [if_neg h2, if_pos (by grind)]
 ·rw [if_neg h1]
  by_cases h2 : 0 ≤ f
  ·rw [if_pos h2, if_pos (by grind)]
  ·rw [if_neg h2, if_neg (by grind), if_neg (by grind)]
   grind
theorem sumsq9 {x y : Rat} (h : x * x + y * y = 0) : x = 0 ∧ y = 0 := by
 have h1 := sq_nn x
 have h2 := sq_nn y
 have e1 : x * x = 0 := by grind
 have e2 : y * y = 0 := by grind
 exact ⟨by rcases Rat.mul_eq_zero.1 e1 with h | h <;> exact h, by rcases Rat.mul_eq_zero.1 e2 with h | h <;> exact h⟩
theorem near_zero : nearQ ax ay bx b_ cx cy = 0 ↔ onP ax ay bx b_ cx cy := by
 have ea : area ax ay bx b_ cx cy = (bx - ax) * (cy - ay) - (b_ - ay) * (cx - ax) := rfl
 have ed : discQ ax ay bx b_ cx cy = farQ cx cy ax ay - ((cx - ax) * (bx - ax) + (cy - ay) * (b_ - ay)) := by unfold discQ farQ; grind
 have hl := @lagr ax ay bx b_ cx cy
 have hn := @zybw ax ay bx b_
 have hz := @zybv ax ay bx b_ cx cy
 have hF := @zy5b cx cy ax ay
 unfold nearQ onP
 rw [zy48, zy5a (ax := ax) (ay := ay) (bx := bx) (b_ := b_), ea, ed]
 generalize (bx - ax) * (bx - ax) + (b_ - ay) * (b_ - ay) = n at *
 generalize (cx - ax) * (bx - ax) + (cy - ay) * (b_ - ay) = d at *
 generalize farQ cx cy ax ay = F at *
 generalize (bx - ax) * (cy - ay) - (b_ - ay) * (cx - ax) = c at *
 by_cases h1 : d ≤ 0
 ·rw [if_pos h1]
  constructor
  ·intro h
   subst h
   have := sumsq9 (x := c) (y := d) (by grind)
   exact ⟨this.1, by grind⟩
  ·rintro ⟨_, h⟩; grind
 rw [if_neg h1]
 have n0 : n ≠ 0 := fun h => by have := hz h; grind
 have np : 0 < n := by grind
 by_cases h2 : 0 ≤ d - n
 ·rw [if_pos h2]
  constructor
  ·intro h
   have eF : F = 2 * d - n := by grind
   subst eF
   have := sumsq9 (x := c) (y := d - n) (by grind)
   exact ⟨this.1, by grind⟩
  ·rintro ⟨h, g⟩
   subst h
   have e : F * n = d * d := by grind
   have p1 : 0 ≤ (d - F) * n := Rat.mul_nonneg (by grind) hn
   have p2 : 0 ≤ d * (d - n) := Rat.mul_nonneg (by grind) h2
   have p3 : d * (d - n) = 0 := by grind
   have p4 : d - n = 0 := by rcases Rat.mul_eq_zero.1 p3 with h | h <;> grind
   have e2 : (F - n) * n = 0 := by grind
   have p5 : F - n = 0 := by rcases Rat.mul_eq_zero.1 e2 with h | h <;> grind
   grind
 ·rw [if_neg h2]
  constructor
  ·intro h
   have c0 : c * c = 0 := by
    have : c * c / n * n = c * c := by grind
    rw [h] at this; grind
   have c0 : c = 0 := by rcases Rat.mul_eq_zero.1 c0 with h | h <;> exact h
   subst c0
   refine ⟨rfl, ?_⟩
   have p : 0 < d * (n - d) := Rat.mul_pos (by grind) (by grind)
   apply Rat.not_lt.1
   intro g
   have : 0 < (F - d) * n := Rat.mul_pos (by grind) np
   grind
  ·rintro ⟨h, g⟩
   subst h
   grind

theorem area_sw : area bx b_ ax ay cx cy = -area ax ay bx b_ cx cy := by unfold area; grind
theorem on_sw : onP bx b_ ax ay cx cy ↔ onP ax ay bx b_ cx cy := by
 rw [← near_zero, zybk, near_zero]
theorem sgn3 (x : Rat) : rsgn x = -1 ∨ rsgn x = 0 ∨ rsgn x = 1 := by
 unfold rsgn
 split
 ·exact .inl rfl
 ·split
  ·exact .inr (.inl rfl)
  ·exact .inr (.inr rfl)
theorem sgn_neg {x : Rat} : rsgn (-x) = -(rsgn x) := by
 have a1 := @rsgn_zero x
 have a2 := @rsgn_zero (-x)
 have a3 := @rsgn_le x
 have a4 := @rsgn_le (-x)
 have c1 := sgn3 x
 have c2 := sgn3 (-x)
 have e1 : -x = 0 ↔ x = 0 := by constructor <;> intro h <;> grind
 by_cases h0 : x = 0
 ·have z1 := a1.2 h0
  have z2 := a2.2 (e1.2 h0)
  omega
 ·have z1 : ¬ rsgn x = 0 := fun h => h0 (a1.1 h)
  have z2 : ¬ rsgn (-x) = 0 := fun h => h0 (e1.1 (a2.1 h))
  by_cases h1 : x ≤ 0
  ·have w1 := a3.2 h1
   have : ¬ -x ≤ 0 := fun g => h0 (by grind)
   have w2 : ¬ rsgn (-x) ≤ 0 := fun h => this (a4.1 h)
   omega
  ·have w1 : ¬ rsgn x ≤ 0 := fun h => h1 (a3.1 h)
   have : -x ≤ 0 := by
    have := Rat.le_of_lt (Rat.not_le.1 h1)
    grind
   have w2 := a4.2 this
   omega
def zyaz (ax ay bx b_ cx cy dx dy : Rat) : Prop := meetQ ax ay bx b_ cx cy dx dy ≠ 0
theorem meets_iff : zyaz ax ay bx b_ cx cy dx dy ↔ (onP ax ay bx b_ cx cy ∨ onP ax ay bx b_ dx dy ∨ onP cx cy dx dy ax ay ∨ onP cx cy dx dy bx b_) ∨ (rsgn (area ax ay bx b_ cx cy) * rsgn (area ax ay bx b_ dx dy) < 0 ∧ rsgn (area cx cy dx dy ax ay) * rsgn (area cx cy dx dy bx b_) < 0) := by
 unfold zyaz meetQ
 by_cases h1 : onP ax ay bx b_ cx cy ∨ onP ax ay bx b_ dx dy ∨ onP cx cy dx dy ax ay ∨ onP cx cy dx dy bx b_
 ·rw [if_pos h1]; exact ⟨fun _ => .inl h1, fun _ => by decide⟩
 rw [if_neg h1]
 by_cases h2 : rsgn (area ax ay bx b_ cx cy) * rsgn (area ax ay bx b_ dx dy) < 0 ∧ rsgn (area cx cy dx dy ax ay) * rsgn (area cx cy dx dy bx b_) < 0
 ·rw [if_pos h2]; exact ⟨fun _ => .inr h2, fun _ => by decide⟩
 ·rw [if_neg h2]; exact ⟨fun h => absurd rfl h, fun h => (h.elim h1 h2).elim⟩
theorem meets_sw : zyaz bx b_ ax ay cx cy dx dy ↔ zyaz ax ay bx b_ cx cy dx dy := by
 rw [meets_iff, meets_iff, on_sw (ax := ax) (ay := ay) (bx := bx) (b_ := b_) (cx := cx) (cy := cy), on_sw (ax := ax) (ay := ay) (bx := bx) (b_ := b_) (cx := dx) (cy := dy), area_sw (ax := ax) (ay := ay) (bx := bx) (b_ := b_) (cx := cx) (cy := cy), area_sw (ax := ax) (ay := ay) (bx := bx) (b_ := b_) (cx := dx) (cy := dy), sgn_neg, sgn_neg, Int.neg_mul_neg, Int.mul_comm (rsgn (area cx cy dx dy bx b_))]
 constructor
 ·rintro ((h | h | h | h) | h)
  ·exact .inl (.inl h)
  ·exact .inl (.inr (.inl h))
  ·exact .inl (.inr (.inr (.inr h)))
  ·exact .inl (.inr (.inr (.inl h)))
  ·exact .inr h
 ·rintro ((h | h | h | h) | h)
  ·exact .inl (.inl h)
  ·exact .inl (.inr (.inl h))
  ·exact .inl (.inr (.inr (.inr h)))
  ·exact .inl (.inr (.inr (.inl h)))
  ·exact .inr h
theorem zyb0 : zyaz cx cy dx dy ax ay bx b_ ↔ zyaz ax ay bx b_ cx cy dx dy := by
 rw [meets_iff, meets_iff]
 constructor
 ·rintro ((h | h | h | h) | h)
  ·exact .inl (.inr (.inr (.inl h)))
  ·exact .inl (.inr (.inr (.inr h)))
  ·exact .inl (.inl h)
  ·exact .inl (.inr (.inl h))
  ·exact .inr ⟨h.2, h.1⟩
 ·rintro ((h | h | h | h) | h)
  ·exact .inl (.inr (.inr (.inl h)))
  ·exact .inl (.inr (.inr (.inr h)))
  ·exact .inl (.inl h)
  ·exact .inl (.inr (.inl h))
  ·exact .inr ⟨h.2, h.1⟩
def zy0k (ax ay bx b_ cx cy dx dy : Rat) : Rat :=
 if meetQ ax ay bx b_ cx cy dx dy ≠ 0 then 0 else minQ (minQ (nearQ ax ay bx b_ cx cy) (nearQ ax ay bx b_ dx dy)) (minQ (nearQ cx cy dx dy ax ay) (nearQ cx cy dx dy bx b_))
theorem min4_sw {x y z w : Rat} : minQ (minQ x y) (minQ z w) = minQ (minQ z w) (minQ y x) := by unfold minQ; grind
theorem zy0l : zy0k dx dy cx cy ax ay bx b_ = zy0k ax ay bx b_ cx cy dx dy := by
 unfold zy0k
 have hm : meetQ dx dy cx cy ax ay bx b_ ≠ 0 ↔ meetQ ax ay bx b_ cx cy dx dy ≠ 0 := (meets_sw (ax := cx) (ay := cy) (bx := dx) (b_ := dy) (cx := ax) (cy := ay) (dx := bx) (dy := b_)).trans zyb0
 by_cases h : meetQ ax ay bx b_ cx cy dx dy ≠ 0
 ·rw [if_pos h, if_pos (hm.2 h)]
 ·rw [if_neg h, if_neg (fun g => h (hm.1 g)), zybk (ax := cx) (ay := cy), zybk (ax := cx) (ay := cy), min4_sw]
  unfold minQ; grind
theorem zyb4 {x y : Rat} (h : minQ x y = 0) : x = 0 ∨ y = 0 := by unfold minQ at h; split at h <;> grind
theorem zy0m : zy0k ax ay bx b_ cx cy dx dy = 0 ↔ meetQ ax ay bx b_ cx cy dx dy ≠ 0 := by
 unfold zy0k
 by_cases h : meetQ ax ay bx b_ cx cy dx dy ≠ 0
 ·rw [if_pos h]; exact ⟨fun _ => h, fun _ => rfl⟩
 ·rw [if_neg h]
  refine ⟨fun g => (h ?_).elim, fun g => (h g).elim⟩
  refine meets_iff.2 (.inl ?_)
  rcases zyb4 g with g | g <;> rcases zyb4 g with g | g
  ·exact .inl (near_zero.1 g)
  ·exact .inr (.inl (near_zero.1 g))
  ·exact .inr (.inr (.inl (near_zero.1 g)))
  ·exact .inr (.inr (.inr (near_zero.1 g)))

end
end Go.Proofs.YtiblnpnfaadmcaaGreat.Am
