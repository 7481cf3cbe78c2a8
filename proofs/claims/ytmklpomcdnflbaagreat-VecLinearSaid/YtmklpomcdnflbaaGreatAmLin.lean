import Derived.Test.YtmklpomcdnflbaaGreatAmLaws4
import Derived.Test.YtmklpomcdnflbaaGreatAmV
/- Both products are linear. -/
set_option linter.unusedVariables false
set_option maxRecDepth 10000
set_option linter.unusedSimpArgs false
namespace Go.Proofs.YtmklpomcdnflbaaGreat.Am
open Go
def pchk3 (p q r : PT) : Int := firstE ([p, q, r].map pchk)
theorem pts3 {h : Heap} {p q r : PT} {f : Bool} (hp : p.ok) (hq : q.ok) (hr : r.ok) : byVal (callW gp) h fid.gussetref04_Points [.is 3 f (ptc p ++ ptc q ++ ptc r)] = some (.int .i64 (pchk3 p q r)) := by
  have pts := k_4points (h := h) (xs := [p, q, r]) (f := f) (fun t ht => by
    simp only [List.mem_cons, List.not_mem_nil, or_false] at ht
    rcases ht with rfl | rfl | rfl <;> assumption) (by simp)
  have e : [p, q, r].flatMap ptc = ptc p ++ ptc q ++ ptc r := by simp
  rw [e] at pts
  exact pts
theorem pchk3_zero {p q r : PT} (h : pchk3 p q r = 0) : pchk p = 0 ∧ pchk q = 0 ∧ pchk r = 0 := by
  have e : pchk3 p q r = if pchk p = 0 then (if pchk q = 0 then (if pchk r = 0 then 0 else pchk r) else pchk q) else pchk p := rfl
  rw [e] at h
  by_cases h1 : pchk p = 0 <;> by_cases h2 : pchk q = 0 <;> by_cases h3 : pchk r = 0 <;> simp [h1, h2, h3] at h ⊢
theorem sgn_eqL (q : Rat) : (if q.num < 0 then (-1 : Int) else if q.num = 0 then 0 else 1) = rsgn q := rfl
theorem nn_zero {x y : Rat} (h : x * x + y * y = 0) : x = 0 ∧ y = 0 := by
  have a1 := sq_nn x
  have a2 := sq_nn y
  have e1 : x * x = 0 := by grind
  have e2 : y * y = 0 := by grind
  have f1 := Rat.mul_eq_zero.1 e1
  have f2 := Rat.mul_eq_zero.1 e2
  exact ⟨by grind, by grind⟩
theorem beq_tt : (true == true) = true := Eq.trans rfl rfl
theorem beq_ff : (false == false) = true := Eq.trans rfl rfl
theorem vecLinear_cv (p q r : PT) (hp : p.ok) (hq : q.ok) (hr : r.ok) : cv gp fid.gussetlaw04_VecLinear [.agg (ptc p), .agg (ptc q), .agg (ptc r)] = some (.bool true) := by
  rw [gussetlaw04_VecLinear.eq]
  unfold gussetlaw04_VecLinear.f
  have s1 := fun h => c_small4 (h := h) (p := p)
  have s2 := fun h => c_small4 (h := h) (p := q)
  have s3 := fun h => c_small4 (h := h) (p := r)
  have pts := fun h f => pts3 (h := h) (f := f) hp hq hr
  by_cases h1 : shP p
  rotate_left
  · rw [decide_eq_false h1] at s1
    clear s2 s3 pts
    unfold ptc rtc at *
    simp only [List.cons_append, List.nil_append] at *
    simp (maxSteps := 1000000) (disch := first | exact dD | fail) only [Wd, W2d, W3d, Nat.reduceAdd, Nat.reduceMul, Nat.reduceSub, s1, live4_by]
  by_cases h2 : shP q
  rotate_left
  · rw [decide_eq_false h2] at s2
    rw [decide_eq_true h1] at s1
    clear s3 pts
    unfold ptc rtc at *
    simp only [List.cons_append, List.nil_append] at *
    simp (maxSteps := 1000000) (disch := first | exact dD | fail) only [Wd, W2d, W3d, Nat.reduceAdd, Nat.reduceMul, Nat.reduceSub, s1, s2, live4_by]
  by_cases h3 : shP r
  rotate_left
  · rw [decide_eq_false h3] at s3
    rw [decide_eq_true h1] at s1
    rw [decide_eq_true h2] at s2
    clear pts
    unfold ptc rtc at *
    simp only [List.cons_append, List.nil_append] at *
    simp (maxSteps := 1000000) (disch := first | exact dD | fail) only [Wd, W2d, W3d, Nat.reduceAdd, Nat.reduceMul, Nat.reduceSub, s1, s2, s3, live4_by]
  rw [decide_eq_true h1] at s1
  rw [decide_eq_true h2] at s2
  rw [decide_eq_true h3] at s3
  by_cases hc : pchk3 p q r = 0
  rotate_left
  · generalize pchk3 p q r = e at *
    unfold ptc rtc at *
    simp only [List.cons_append, List.nil_append] at *
    simp (maxSteps := 1000000) (disch := first | exact dD | fail) only [Wd, W2d, W3d, Nat.reduceAdd, Nat.reduceMul, Nat.reduceSub, s1, s2, s3, pts, live4_by]
  obtain ⟨c1, c2, c3⟩ := pchk3_zero hc
  rw [hc] at pts
  obtain ⟨x, y, rfl, hx, hy⟩ := PT.ratz8 hp h1 c1
  obtain ⟨u, v, rfl, hu, hv⟩ := PT.ratz8 hq h2 c2
  obtain ⟨s, t, rfl, hs, ht⟩ := PT.ratz8 hr h3 c3
  have i1 : (x + u) * t - (y + v) * s = (x * t - y * s) + (u * t - v * s) := by grind
  have i2 : (x * t - y * s) + (u * t - v * s) = -(s * (y + v) - t * (x + u)) := by grind
  have i3 : (x + u) * s + (y + v) * t = (x * s + y * t) + (u * s + v * t) := by grind
  have sqx : 0 ≤ x * x := by exact sq_nn x
  have sqy : 0 ≤ y * y := by exact sq_nn y
  have n0 : 0 ≤ rsgn (x * x + y * y) := rsgn_ge.2 (by grind)
  clear hp hq hr h1 h2 h3 c1 c2 c3 hc
  unfold ptc rtc rt at *
  simp only [List.cons_append, List.nil_append] at *
  unfold gussetlaw04_VecLinear.j0
  by_cases z1 : rsgn x = 0
  · have x0 : x = 0 := rsgn_zero.1 z1
    by_cases z2 : rsgn y = 0
    · have y0 : y = 0 := rsgn_zero.1 z2
      have z3 : decide (rsgn (x * x + y * y) = 0) = true := decide_eq_true (rsgn_zero.2 (by rw [x0, y0]; grind))
      have z4 : decide (rsgn y = 0) = true := decide_eq_true z2
      clear x0 y0
      simp (maxSteps := 1000000) (disch := first | exact dE | fail) only [Wd, W2d, W3d, Nat.reduceAdd, Nat.reduceMul, Nat.reduceSub, s1, s2, s3, pts, live4_by, k_plus, k_dot, k_cross, k_norm, k_3sum, k_3neg, i1, i2, i3, k_3sign, sgn_eqL, eqa_r, z3, z4, beq_tt, z1]
    · have z3 : decide (rsgn (x * x + y * y) = 0) = false := decide_eq_false fun h => z2 (rsgn_zero.2 (nn_zero (rsgn_zero.1 h)).2)
      have z4 : decide (rsgn y = 0) = false := decide_eq_false z2
      clear x0
      simp (maxSteps := 1000000) (disch := first | exact dE | fail) only [Wd, W2d, W3d, Nat.reduceAdd, Nat.reduceMul, Nat.reduceSub, s1, s2, s3, pts, live4_by, k_plus, k_dot, k_cross, k_norm, k_3sum, k_3neg, i1, i2, i3, k_3sign, sgn_eqL, eqa_r, z3, z4, beq_ff, z1]
  · have z3 : decide (rsgn (x * x + y * y) = 0) = false := decide_eq_false fun h => z1 (rsgn_zero.2 (nn_zero (rsgn_zero.1 h)).1)
    simp (maxSteps := 1000000) (disch := first | exact dE | fail) only [Wd, W2d, W3d, Nat.reduceAdd, Nat.reduceMul, Nat.reduceSub, s1, s2, s3, pts, live4_by, k_plus, k_dot, k_cross, k_norm, k_3sum, k_3neg, i1, i2, i3, k_3sign, sgn_eqL, eqa_r, z3, beq_ff, z1]
end Go.Proofs.YtmklpomcdnflbaaGreat.Am