import Derived.Test.YtechbfodaallkaaGreatAmWell14
/- A plan moved and drawn larger is as right or wrong as it was. -/
set_option linter.unusedVariables false
set_option maxRecDepth 10000
set_option linter.unusedSimpArgs false
namespace Go.Proofs.YtechbfodaallkaaGreat.Am
open Go

def mvR (k bx b_ : Rat) (r : Rat × Rat) : Rat × Rat := (r.1 * k + bx, r.2 * k + b_)
def mvQ (k bx b_ : Rat) (q : Pq) : Pq := ⟨q.ps.map (mvR k bx b_), q.ss, q.hs.map (mvR k bx b_), q.F, q.G⟩
section
variable {k u v : Rat}
theorem mv_area {ax ay bx b_ cx cy : Rat} : area (ax * k + u) (ay * k + v) (bx * k + u) (b_ * k + v) (cx * k + u) (cy * k + v) = k * k * area ax ay bx b_ cx cy := by unfold area; grind
theorem mv_disc {ax ay bx b_ cx cy : Rat} : discQ (ax * k + u) (ay * k + v) (bx * k + u) (b_ * k + v) (cx * k + u) (cy * k + v) = k * k * discQ ax ay bx b_ cx cy := by unfold discQ; grind
theorem kk_pos (hk : 0 < k) : 0 < k * k := Rat.mul_pos hk hk
theorem le_scale {z x : Rat} (hz : 0 < z) : z * x ≤ 0 ↔ x ≤ 0 := by
  constructor
  · intro h
    rcases Rat.le_total (a := x) (b := 0) with g | g
    · exact g
    · by_cases h0 : x = 0
      · rw [h0]; exact Rat.le_refl
      · have : 0 < z * x := Rat.mul_pos hz (Rat.lt_of_le_of_ne g (Ne.symm h0))
        grind
  · intro h
    have : 0 ≤ z * -x := Rat.mul_nonneg (Rat.le_of_lt hz) (by grind)
    grind
theorem lt_scale {z x : Rat} (hz : 0 < z) : 0 < z * x ↔ 0 < x := by
  have := le_scale (x := x) hz
  constructor
  · intro h; apply Rat.not_le.1; intro g; have := this.2 g; grind
  · intro h; exact Rat.mul_pos hz h
theorem eq_scale {z x : Rat} (hz : 0 < z) : z * x = 0 ↔ x = 0 := by
  constructor
  · intro h
    rcases Rat.mul_eq_zero.1 h with g | g
    · rw [g] at hz; exact absurd hz (by decide)
    · exact g
  · intro h; rw [h, Rat.mul_zero]
theorem mv_on {ax ay bx b_ cx cy : Rat} (hk : 0 < k) : onP (ax * k + u) (ay * k + v) (bx * k + u) (b_ * k + v) (cx * k + u) (cy * k + v) ↔ onP ax ay bx b_ cx cy := by
  unfold onP
  rw [mv_area, mv_disc, eq_scale (kk_pos hk), le_scale (kk_pos hk)]
theorem rsgn_3 (x : Rat) : rsgn x = -1 ∨ rsgn x = 0 ∨ rsgn x = 1 := by
  unfold rsgn
  split
  · exact .inl rfl
  · split
    · exact .inr (.inl rfl)
    · exact .inr (.inr rfl)
theorem sgn_ext {x y : Rat} (h1 : x = 0 ↔ y = 0) (h2 : x ≤ 0 ↔ y ≤ 0) : rsgn x = rsgn y := by
  have a1 := @rsgn_zero x
  have a2 := @rsgn_zero y
  have a3 := @rsgn_le x
  have a4 := @rsgn_le y
  rw [← a1, ← a2] at h1
  rw [← a3, ← a4] at h2
  have := rsgn_3 x
  have := rsgn_3 y
  omega
theorem sgn_scale {z x : Rat} (hz : 0 < z) : rsgn (z * x) = rsgn x := sgn_ext (eq_scale hz) (le_scale hz)
theorem mv_meet {ax ay bx b_ cx cy dx dy : Rat} (hk : 0 < k) : meetQ (ax * k + u) (ay * k + v) (bx * k + u) (b_ * k + v) (cx * k + u) (cy * k + v) (dx * k + u) (dy * k + v) = meetQ ax ay bx b_ cx cy dx dy := by
  unfold meetQ
  simp only [mv_on hk, mv_area, sgn_scale (kk_pos hk)]
theorem mv_sharp {ax ay bx b_ cx cy : Rat} (hk : 0 < k) : sharpQ (ax * k + u) (ay * k + v) (bx * k + u) (b_ * k + v) (cx * k + u) (cy * k + v) = sharpQ ax ay bx b_ cx cy := by
  unfold sharpQ
  have e1 : (ax * k + u - (bx * k + u)) * (cx * k + u - (bx * k + u)) + (ay * k + v - (b_ * k + v)) * (cy * k + v - (b_ * k + v)) = k * k * ((ax - bx) * (cx - bx) + (ay - b_) * (cy - b_)) := by grind
  have e2 : (ax * k + u - (bx * k + u)) * (ax * k + u - (bx * k + u)) + (ay * k + v - (b_ * k + v)) * (ay * k + v - (b_ * k + v)) = k * k * ((ax - bx) * (ax - bx) + (ay - b_) * (ay - b_)) := by grind
  have e3 : (cx * k + u - (bx * k + u)) * (cx * k + u - (bx * k + u)) + (cy * k + v - (b_ * k + v)) * (cy * k + v - (b_ * k + v)) = k * k * ((cx - bx) * (cx - bx) + (cy - b_) * (cy - b_)) := by grind
  rw [e1, e2, e3]
  generalize (ax - bx) * (cx - bx) + (ay - b_) * (cy - b_) = s
  generalize (ax - bx) * (ax - bx) + (ay - b_) * (ay - b_) = m
  generalize (cx - bx) * (cx - bx) + (cy - b_) * (cy - b_) = n
  have hz := kk_pos hk
  generalize k * k = z at *
  have hzz := kk_pos hz
  by_cases h : s ≤ 0
  · rw [if_pos h, if_pos ((le_scale hz).2 h)]
  · rw [if_neg h, if_neg (fun g => h ((le_scale hz).1 g))]
    refine decide_eq_decide.2 ?_
    have g := lt_scale (z := z * z) (x := ((4 : Int) : Rat) * (s * s) - m * n) hzz
    constructor
    · intro h; have := g.1 (by grind); grind
    · intro h; have := g.2 (by grind); grind
theorem mv_inj {x y w : Rat} (hk : 0 < k) : x * k + w = y * k + w ↔ x = y := by
  constructor
  · intro h
    have : k * (x - y) = 0 := by grind
    have := (eq_scale hk).1 this
    grind
  · intro h; rw [h]
variable {q : Pq}
theorem px_map {ps : List (Rat × Rat)} {i : Nat} (hi : i < ps.length) : px (ps.map (mvR k u v)) i = px ps i * k + u ∧ py (ps.map (mvR k u v)) i = py ps i * k + v := by
  unfold px py
  simp [List.getD, List.getElem?_eq_getElem hi, mvR]
theorem pairG_congr {n : Nat} {P Q : Nat → Nat → Bool} : ∀ {m i : Nat}, (∀ a, i ≤ a → a < i + m → ∀ k, k < n → P a k = Q a k) → pairG n P m i = pairG n Q m i
  | 0, _, _ => rfl
  | m + 1, i, h => by
    rw [pairG, pairG, scan_congr (P := P i) (Q := Q i) (fun j _ hj => h i (Nat.le_refl _) (by omega) j (by omega)), pairG_congr (m := m) (i := i + 1) (fun a h1 h2 => h a (by omega) (by omega))]
theorem mv_onI {s : Sq} {x y : Rat} (hs : SqOk q.ps.length s) (hk : 0 < k) : onI (q.ps.map (mvR k u v)) s (x * k + u) (y * k + v) = onI q.ps s x y := by
  unfold onI
  obtain ⟨e1, e2⟩ := px_map (k := k) (u := u) (v := v) hs.1
  obtain ⟨e3, e4⟩ := px_map (k := k) (u := u) (v := v) hs.2.1
  rw [e1, e2, e3, e4]
  exact decide_eq_decide.2 (mv_on hk)
theorem mv_holeI (hq : q.ok) (hk : 0 < k) {i : Nat} (hi : i < q.hs.length) : holeI (mvQ k u v q) i = holeI q i := by
  unfold holeI mvQ
  simp only [List.length_map]
  obtain ⟨e1, e2⟩ := px_map (k := k) (u := u) (v := v) hi
  rw [e1, e2]
  congr 2
  · refine scan_congr fun j _ hj => ?_
    unfold eqN
    obtain ⟨e3, e4⟩ := px_map (k := k) (u := u) (v := v) (ps := q.ps) (i := j) (by omega)
    rw [e3, e4]
    exact decide_eq_decide.2 (by rw [mv_inj hk, mv_inj hk])
  · exact scan_congr fun j _ hj => mv_onI (sat_ok hq (by omega)) hk
theorem mv_first (hq : q.ok) (hk : 0 < k) : firstQ (mvQ k u v q) = firstQ q := by
  have a1 : twiceF (mvQ k u v q) = twiceF q := by
    unfold twiceF mvQ
    simp only [List.length_map]
    refine pairF_congr fun a _ ha c hc => ?_
    unfold eqI
    obtain ⟨e1, e2⟩ := px_map (k := k) (u := u) (v := v) (ps := q.ps) (i := a) (by omega)
    obtain ⟨e3, e4⟩ := px_map (k := k) (u := u) (v := v) (ps := q.ps) (i := c) (by omega)
    rw [e1, e2, e3, e4]
    exact decide_eq_decide.2 (by rw [mv_inj hk, mv_inj hk])
  have a2 : thrF (mvQ k u v q) = thrF q := by
    unfold thrF mvQ
    simp only [List.length_map]
    refine pairG_congr fun a _ ha c hc => ?_
    unfold thrI
    obtain ⟨e1, e2⟩ := px_map (k := k) (u := u) (v := v) (ps := q.ps) (i := c) hc
    rw [e1, e2, mv_onI (sat_ok hq (by omega)) hk]
  have a3 : crsF (mvQ k u v q) = crsF q := by
    unfold crsF mvQ
    refine pairF_congr fun a _ ha c hc => ?_
    simp only [Nat.zero_add] at ha
    unfold crossI
    have s1 := sat_ok hq (i := a) (by omega)
    have s2 := sat_ok hq (i := c) (by omega)
    obtain ⟨e1, e2⟩ := px_map (k := k) (u := u) (v := v) s1.1
    obtain ⟨e3, e4⟩ := px_map (k := k) (u := u) (v := v) s1.2.1
    obtain ⟨e5, e6⟩ := px_map (k := k) (u := u) (v := v) s2.1
    obtain ⟨e7, e8⟩ := px_map (k := k) (u := u) (v := v) s2.2.1
    rw [e1, e2, e3, e4, e5, e6, e7, e8, mv_meet hk]
  have a4 : angF (mvQ k u v q) = angF q := by
    unfold angF mvQ
    refine pairF_congr fun a _ ha c hc => ?_
    simp only [Nat.zero_add] at ha
    unfold sharpI
    have s1 := sat_ok hq (i := a) (by omega)
    have s2 := sat_ok hq (i := c) (by omega)
    by_cases hh : (sharedF (sq_ (sat q.ss a)) (sq_ (sat q.ss c))).2.2.2 = true
    · rw [if_pos hh, if_pos hh]
      obtain ⟨w, x, y, e, h1, h2, h3, _, _⟩ := shared_ok s1 s2 hh
      rw [e]
      simp only [Int.toNat_natCast]
      obtain ⟨e1, e2⟩ := px_map (k := k) (u := u) (v := v) h1
      obtain ⟨e3, e4⟩ := px_map (k := k) (u := u) (v := v) h2
      obtain ⟨e5, e6⟩ := px_map (k := k) (u := u) (v := v) h3
      rw [e1, e2, e3, e4, e5, e6, mv_sharp hk]
    · rw [if_neg hh, if_neg hh]
  have a5 : holesF (mvQ k u v q) = holesF q := by
    unfold holesF
    have : (mvQ k u v q).hs.length = q.hs.length := by unfold mvQ; simp
    rw [this, scan_congr (P := holeI (mvQ k u v q)) (Q := holeI q) fun j _ hj => mv_holeI hq hk (by omega)]
  unfold firstQ
  rw [a1, a2, a3, a4, a5]
end
end Go.Proofs.YtechbfodaallkaaGreat.Am
