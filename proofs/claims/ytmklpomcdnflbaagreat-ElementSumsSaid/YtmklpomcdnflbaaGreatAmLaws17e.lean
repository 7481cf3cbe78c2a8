import Derived.Test.YtmklpomcdnflbaaGreatAmLaws17d
/- The laws of section 17: sums. -/
set_option linter.unusedVariables false
set_option maxRecDepth 10000
set_option linter.unusedSimpArgs false
namespace Go.Proofs.YtmklpomcdnflbaaGreat.Am
open Go
theorem q_form {A d : Rat} (h0 : A ≠ 0) : stQ A d = (absQ A * Rat.divInt 1 2) / (A * A) * d := by
  rw [← st_plain h0]
  generalize absQ A * Rat.divInt 1 2 = B
  grind
theorem neq_self {q : Rat} : opEqa true [.b, .s, .s] (ra q) (ra q) = some (.bool false) := by
  have h := eqa_r (p := q) (q := q)
  rw [decide_eq_true rfl] at h
  unfold opEqa at *
  simp only at *
  split at h
  · rename_i hl
    rw [if_pos hl]
    cases hc : eqCells [LK.b, LK.s, LK.s] [AV.bool (decide (q.num < 0)), str (nb q.num.natAbs), str (nb q.den)] [AV.bool (decide (q.num < 0)), str (nb q.num.natAbs), str (nb q.den)] with
    | none => rw [hc] at h; cases h
    | some b =>
      rw [hc] at h
      simp only [Option.map_some, Option.some.injEq, AV.bool.injEq, cond_false] at h
      simp [h]
  · cases h
section
variable {ax ay bx b_ cx cy u0 u1 u2 : Rat}

theorem row_0 (h0 : area ax ay bx b_ cx cy ≠ 0) : ((((0 : Int) : Rat) + stQ (area ax ay bx b_ cx cy) ((cx - bx) * (cx - bx) + (cy - b_) * (cy - b_))) + stQ (area ax ay bx b_ cx cy) ((cx - bx) * (ax - cx) + (cy - b_) * (ay - cy))) + stQ (area ax ay bx b_ cx cy) ((cx - bx) * (bx - ax) + (cy - b_) * (b_ - ay)) = 0 := by
  rw [q_form h0, q_form h0, q_form h0]
  have z : ((0 : Int) : Rat) = 0 := rfl
  rw [z]
  generalize (absQ (area ax ay bx b_ cx cy) * Rat.divInt 1 2) / (area ax ay bx b_ cx cy * area ax ay bx b_ cx cy) = c
  grind

theorem row_1 (h0 : area ax ay bx b_ cx cy ≠ 0) : ((((0 : Int) : Rat) + stQ (area ax ay bx b_ cx cy) ((cx - bx) * (ax - cx) + (cy - b_) * (ay - cy))) + stQ (area ax ay bx b_ cx cy) ((ax - cx) * (ax - cx) + (ay - cy) * (ay - cy))) + stQ (area ax ay bx b_ cx cy) ((ax - cx) * (bx - ax) + (ay - cy) * (b_ - ay)) = 0 := by
  rw [q_form h0, q_form h0, q_form h0]
  have z : ((0 : Int) : Rat) = 0 := rfl
  rw [z]
  generalize (absQ (area ax ay bx b_ cx cy) * Rat.divInt 1 2) / (area ax ay bx b_ cx cy * area ax ay bx b_ cx cy) = c
  grind

theorem row_2 (h0 : area ax ay bx b_ cx cy ≠ 0) : ((((0 : Int) : Rat) + stQ (area ax ay bx b_ cx cy) ((cx - bx) * (bx - ax) + (cy - b_) * (b_ - ay))) + stQ (area ax ay bx b_ cx cy) ((ax - cx) * (bx - ax) + (ay - cy) * (b_ - ay))) + stQ (area ax ay bx b_ cx cy) ((bx - ax) * (bx - ax) + (b_ - ay) * (b_ - ay)) = 0 := by
  rw [q_form h0, q_form h0, q_form h0]
  have z : ((0 : Int) : Rat) = 0 := rfl
  rw [z]
  generalize (absQ (area ax ay bx b_ cx cy) * Rat.divInt 1 2) / (area ax ay bx b_ cx cy * area ax ay bx b_ cx cy) = c
  grind

theorem sum_eq (h0 : area ax ay bx b_ cx cy ≠ 0) : ((0 : Int) : Rat) + stQ (area ax ay bx b_ cx cy) ((cx - bx) * (cx - bx) + (cy - b_) * (cy - b_)) * (u0 * u0) + stQ (area ax ay bx b_ cx cy) ((cx - bx) * (ax - cx) + (cy - b_) * (ay - cy)) * (u0 * u1) + stQ (area ax ay bx b_ cx cy) ((cx - bx) * (bx - ax) + (cy - b_) * (b_ - ay)) * (u0 * u2) + stQ (area ax ay bx b_ cx cy) ((cx - bx) * (ax - cx) + (cy - b_) * (ay - cy)) * (u1 * u0) + stQ (area ax ay bx b_ cx cy) ((ax - cx) * (ax - cx) + (ay - cy) * (ay - cy)) * (u1 * u1) + stQ (area ax ay bx b_ cx cy) ((ax - cx) * (bx - ax) + (ay - cy) * (b_ - ay)) * (u1 * u2) + stQ (area ax ay bx b_ cx cy) ((cx - bx) * (bx - ax) + (cy - b_) * (b_ - ay)) * (u2 * u0) + stQ (area ax ay bx b_ cx cy) ((ax - cx) * (bx - ax) + (ay - cy) * (b_ - ay)) * (u2 * u1) + stQ (area ax ay bx b_ cx cy) ((bx - ax) * (bx - ax) + (b_ - ay) * (b_ - ay)) * (u2 * u2) = (absQ (area ax ay bx b_ cx cy) * Rat.divInt 1 2) * ((slX ax ay bx b_ cx cy u0 u1 u2) * (slX ax ay bx b_ cx cy u0 u1 u2) + (slY ax ay bx b_ cx cy u0 u1 u2) * (slY ax ay bx b_ cx cy u0 u1 u2)) := by
  simp only [q_form h0]
  have z : ((0 : Int) : Rat) = 0 := rfl
  have eX : slX ax ay bx b_ cx cy u0 u1 u2 = ((0 - (cy - b_)) * u0 + (0 - (ay - cy)) * u1 + (0 - (b_ - ay)) * u2) / area ax ay bx b_ cx cy := by
    unfold slX
    rw [z]
    generalize area ax ay bx b_ cx cy = A at *
    grind
  have eY : slY ax ay bx b_ cx cy u0 u1 u2 = ((cx - bx) * u0 + (ax - cx) * u1 + (bx - ax) * u2) / area ax ay bx b_ cx cy := by
    unfold slY
    rw [z]
    generalize area ax ay bx b_ cx cy = A at *
    grind
  rw [eX, eY, z]
  generalize area ax ay bx b_ cx cy = A at *
  generalize absQ A * Rat.divInt 1 2 = B
  generalize cx - bx = e0
  generalize ax - cx = e1
  generalize bx - ax = e2
  generalize cy - b_ = f0
  generalize ay - cy = f1
  generalize b_ - ay = f2
  have hc : ∀ s t : Rat, B * (s / A * (s / A) + t / A * (t / A)) = B / (A * A) * (s * s + t * t) := fun s t => by grind
  rw [hc]
  generalize B / (A * A) = c
  grind
end

theorem elementSums_cv (t : T3) (u : U3) (ht : t.ok) (hu : u.ok) : cv gp fid.gussetlaw17_ElementSums [.agg (t3c t), .agg (u3c u)] = some (.bool true) := by
  obtain ⟨a, b, c⟩ := t
  obtain ⟨ha, hb, hc⟩ := ht
  simp only at ha hb hc
  rw [gussetlaw17_ElementSums.eq]
  unfold gussetlaw17_ElementSums.f gussetlaw17_ElementSums.j0
  have fw := fun H => few3 (a := a) (b := b) (c := c) (H := some (ptc a ++ ptc b ++ ptc c) :: H) (x := .rs 6 0 0 3) rfl
  have ak := fun H => ask3 (H := some (ptc a ++ ptc b ++ ptc c) :: H) (x := .rs 6 0 0 3) ha hb hc rfl
  have c0 := fun h => c_short17 (h := h) (t := u.1)
  have c1 := fun h => c_short17 (h := h) (t := u.2.1)
  have c2 := fun h => c_short17 (h := h) (t := u.2.2)
  by_cases hs : fewP [a, b, c]
  rotate_left
  · rw [decide_eq_false hs] at fw
    clear hs ak c0 c1 c2
    unfold t3c u3c ptc rtc at *
    simp only [List.cons_append, List.nil_append] at *
    simp (disch := first | first | exact dD | fail | rfl | with_unfolding_all rfl) only [Wd, W2d, W3d, Nat.reduceAdd, Nat.reduceMul, Nat.reduceSub, lc0, lc1, lc2, lc3, ad0, ad1, ad2, aidx_0, aidx_1, aidx_2, arrs_rp, rc18, rc27, rc9, rc24', sidx_2, sidx_3, ad3, fw, live17_by]
  rw [decide_eq_true hs] at fw
  obtain ⟨sa, sb, sc⟩ := few3_iff hs
  clear hs
  by_cases s0 : sh1 u.1
  rotate_left
  · rw [decide_eq_false s0] at c0
    clear ak c1 c2
    unfold t3c u3c ptc rtc at *
    simp only [List.cons_append, List.nil_append] at *
    simp (disch := first | first | exact dD | fail | rfl | with_unfolding_all rfl) only [Wd, W2d, W3d, Nat.reduceAdd, Nat.reduceMul, Nat.reduceSub, lc0, lc1, lc2, lc3, ad0, ad1, ad2, aidx_0, aidx_1, aidx_2, arrs_rp, rc18, rc27, rc9, rc24', sidx_2, sidx_3, ad3, fw, c0, live17_by]
  rw [decide_eq_true s0] at c0
  by_cases s1 : sh1 u.2.1
  rotate_left
  · rw [decide_eq_false s1] at c1
    clear ak c2
    unfold t3c u3c ptc rtc at *
    simp only [List.cons_append, List.nil_append] at *
    simp (disch := first | first | exact dD | fail | rfl | with_unfolding_all rfl) only [Wd, W2d, W3d, Nat.reduceAdd, Nat.reduceMul, Nat.reduceSub, lc0, lc1, lc2, lc3, ad0, ad1, ad2, aidx_0, aidx_1, aidx_2, arrs_rp, rc18, rc27, rc9, rc24', sidx_2, sidx_3, ad3, fw, c0, c1, live17_by]
  rw [decide_eq_true s1] at c1
  by_cases s2 : sh1 u.2.2
  rotate_left
  · rw [decide_eq_false s2] at c2
    clear ak
    unfold t3c u3c ptc rtc at *
    simp only [List.cons_append, List.nil_append] at *
    simp (disch := first | first | exact dD | fail | rfl | with_unfolding_all rfl) only [Wd, W2d, W3d, Nat.reduceAdd, Nat.reduceMul, Nat.reduceSub, lc0, lc1, lc2, lc3, ad0, ad1, ad2, aidx_0, aidx_1, aidx_2, arrs_rp, rc18, rc27, rc9, rc24', sidx_2, sidx_3, ad3, fw, c0, c1, c2, live17_by]
  rw [decide_eq_true s2] at c2
  have nu := fun h => k_17num (h := h) hu ⟨by have := s0.1; omega, by have := s0.2; omega⟩ ⟨by have := s1.1; omega, by have := s1.2; omega⟩ ⟨by have := s2.1; omega, by have := s2.2; omega⟩
  by_cases hn : nume u = 0
  rotate_left
  · generalize nume u = e at *
    clear s0 s1 s2 hu ak
    unfold t3c u3c ptc rtc at *
    simp only [List.cons_append, List.nil_append] at *
    simp (disch := first | first | exact dD | fail | rfl | with_unfolding_all rfl) only [Wd, W2d, W3d, Nat.reduceAdd, Nat.reduceMul, Nat.reduceSub, lc0, lc1, lc2, lc3, ad0, ad1, ad2, aidx_0, aidx_1, aidx_2, arrs_rp, rc18, rc27, rc9, rc24', sidx_2, sidx_3, ad3, fw, c0, c1, c2, nu, live17_by]
  rw [hn] at nu
  by_cases h0 : asC a b c = 0
  rotate_left
  · have k1 := fun h => k_slopeE (h := h) (t := u) ha hb hc h0
    have k2 := fun h => k_stiffE (h := h) ha hb hc h0
    change ∀ h, _ = some (AV.tup [_, AV.int .i64 (asC a b c)]) at k1
    change ∀ h, _ = some (AV.tup [_, AV.int .i64 (asC a b c)]) at k2
    generalize asC a b c = e at *
    clear s0 s1 s2 hu hn
    unfold t3c u3c ptc rtc at *
    simp only [List.cons_append, List.nil_append] at *
    simp (disch := first | first | exact dD | fail | rfl | with_unfolding_all rfl) only [Wd, W2d, W3d, Nat.reduceAdd, Nat.reduceMul, Nat.reduceSub, lc0, lc1, lc2, lc3, ad0, ad1, ad2, aidx_0, aidx_1, aidx_2, arrs_rp, rc18, rc27, rc9, rc24', sidx_2, sidx_3, ad3, fw, c0, c1, c2, nu, k1, k2, live17_by]
  obtain ⟨u0, u1, u2, rfl, g0, g1, g2⟩ := u3_rat hu s0 s1 s2 hn
  obtain ⟨z1, z2, z3⟩ := asC_zero h0
  obtain ⟨ax, ay, rfl, h1, h2⟩ := pt_rat ha sa z1
  obtain ⟨bx, b_, rfl, h3, h4⟩ := pt_rat hb sb z2
  obtain ⟨cx, cy, rfl, h5, h6⟩ := pt_rat hc sc z3
  have n1 := h1.mono (m := 100) (by omega)
  have n2 := h2.mono (m := 100) (by omega)
  have n3 := h3.mono (m := 100) (by omega)
  have n4 := h4.mono (m := 100) (by omega)
  have n5 := h5.mono (m := 100) (by omega)
  have n6 := h6.mono (m := 100) (by omega)
  clear sa sb sc z1 z2 z3 h0 ha hb hc s0 s1 s2 hu hn ak
  have w0 := g0.mono (m := 200) (by omega)
  have w1 := g1.mono (m := 200) (by omega)
  have w2 := g2.mono (m := 200) (by omega)
  by_cases q : area ax ay bx b_ cx cy = 0
  · have k1 := fun h => k_slope0 (h := h) n1 n2 n3 n4 n5 n6 w0 w1 w2 q
    have k2 := fun h => k_stiff0 (h := h) n1 n2 n3 n4 n5 n6 q
    clear q
    unfold t3c u3c ptc rtc rt at *
    simp only [List.cons_append, List.nil_append] at *
    simp (disch := first | first | exact dD | fail | rfl | with_unfolding_all rfl) only [Wd, W2d, W3d, Nat.reduceAdd, Nat.reduceMul, Nat.reduceSub, lc0, lc1, lc2, lc3, ad0, ad1, ad2, aidx_0, aidx_1, aidx_2, arrs_rp, rc18, rc27, rc9, rc24', sidx_2, sidx_3, ad3, fw, c0, c1, c2, nu, k1, k2, live17_by]
  have k1 := fun h => k_slope (h := h) n1 n2 n3 n4 n5 n6 w0 w1 w2 q
  have k2 := fun h => k_stiff (h := h) n1 n2 n3 n4 n5 n6 q
  have ka := fun h => k_17area (h := h) n1 n2 n3 n4 n5 n6
  unfold stiffC at k2
  rw [show (ax - cx) * (cx - bx) + (ay - cy) * (cy - b_) = (cx - bx) * (ax - cx) + (cy - b_) * (ay - cy) from by grind, show (bx - ax) * (cx - bx) + (b_ - ay) * (cy - b_) = (cx - bx) * (bx - ax) + (cy - b_) * (b_ - ay) from by grind, show (bx - ax) * (ax - cx) + (b_ - ay) * (ay - cy) = (ax - cx) * (bx - ax) + (ay - cy) * (b_ - ay) from by grind] at k2
  have r0 := row_0 q
  have r1 := row_1 q
  have r2 := row_2 q
  have main := sum_eq (u0 := u0) (u1 := u1) (u2 := u2) q
  have bA : Rz (area ax ay bx b_ cx cy) 245 := (Rz.area h1 h2 h3 h4 h5 h6).mono (by omega)
  have bB : Rz (absQ (area ax ay bx b_ cx cy) * Rat.divInt 1 2) 300 := ((Rz_abs bA).mul (m := 20) ⟨by show (nb (Rat.divInt 1 2).num.natAbs).length ≤ 20; decide +kernel, by show (nb (Rat.divInt 1 2).den).length ≤ 20; decide +kernel⟩).mono (by omega)
  have bX : Rz (slX ax ay bx b_ cx cy u0 u1 u2) 500 := by rw [slX_eq q]; exact ((((g1.sub g0).mul (h6.sub h2)).sub ((g2.sub g0).mul (h4.sub h2))).div bA).mono (by omega)
  have bY : Rz (slY ax ay bx b_ cx cy u0 u1 u2) 500 := by rw [slY_eq q]; exact ((((h3.sub h1).mul (g2.sub g0)).sub ((h5.sub h1).mul (g1.sub g0))).div bA).mono (by omega)
  have e0 := h5.sub h3
  have f0 := h6.sub h4
  have e1 := h1.sub h5
  have f1 := h2.sub h6
  have e2 := h3.sub h1
  have f2 := h4.sub h2
  have b00 : Rz (stQ (area ax ay bx b_ cx cy) ((cx - bx) * (cx - bx) + (cy - b_) * (cy - b_))) 520 := by unfold stQ; exact (((e0.mul e0).add (f0.mul f0)).div (Rz_two.mul bA)).mono (by omega)
  have b01 : Rz (stQ (area ax ay bx b_ cx cy) ((cx - bx) * (ax - cx) + (cy - b_) * (ay - cy))) 520 := by unfold stQ; exact (((e0.mul e1).add (f0.mul f1)).div (Rz_two.mul bA)).mono (by omega)
  have b02 : Rz (stQ (area ax ay bx b_ cx cy) ((cx - bx) * (bx - ax) + (cy - b_) * (b_ - ay))) 520 := by unfold stQ; exact (((e0.mul e2).add (f0.mul f2)).div (Rz_two.mul bA)).mono (by omega)
  have b11 : Rz (stQ (area ax ay bx b_ cx cy) ((ax - cx) * (ax - cx) + (ay - cy) * (ay - cy))) 520 := by unfold stQ; exact (((e1.mul e1).add (f1.mul f1)).div (Rz_two.mul bA)).mono (by omega)
  have b12 : Rz (stQ (area ax ay bx b_ cx cy) ((ax - cx) * (bx - ax) + (ay - cy) * (b_ - ay))) 520 := by unfold stQ; exact (((e1.mul e2).add (f1.mul f2)).div (Rz_two.mul bA)).mono (by omega)
  have b22 : Rz (stQ (area ax ay bx b_ cx cy) ((bx - ax) * (bx - ax) + (b_ - ay) * (b_ - ay))) 520 := by unfold stQ; exact (((e2.mul e2).add (f2.mul f2)).div (Rz_two.mul bA)).mono (by omega)
  generalize stQ (area ax ay bx b_ cx cy) ((cx - bx) * (cx - bx) + (cy - b_) * (cy - b_)) = q00 at *
  generalize stQ (area ax ay bx b_ cx cy) ((cx - bx) * (ax - cx) + (cy - b_) * (ay - cy)) = q01 at *
  generalize stQ (area ax ay bx b_ cx cy) ((cx - bx) * (bx - ax) + (cy - b_) * (b_ - ay)) = q02 at *
  generalize stQ (area ax ay bx b_ cx cy) ((ax - cx) * (ax - cx) + (ay - cy) * (ay - cy)) = q11 at *
  generalize stQ (area ax ay bx b_ cx cy) ((ax - cx) * (bx - ax) + (ay - cy) * (b_ - ay)) = q12 at *
  generalize stQ (area ax ay bx b_ cx cy) ((bx - ax) * (bx - ax) + (b_ - ay) * (b_ - ay)) = q22 at *
  generalize slX ax ay bx b_ cx cy u0 u1 u2 = X at *
  generalize slY ax ay bx b_ cx cy u0 u1 u2 = Y at *
  generalize absQ (area ax ay bx b_ cx cy) * Rat.divInt 1 2 = B at *
  have s0 := rsgn_zero.2 r0
  have s1 := rsgn_zero.2 r1
  have s2 := rsgn_zero.2 r2
  clear r0 r1 r2 q w0 w1 w2 n1 n2 n3 n4 n5 n6 bA
  unfold corn at ka
  unfold t3c u3c ptc rtc rt at *
  simp only [List.cons_append, List.nil_append] at *
  simp (disch := first | first | exact dD | fail | rfl | with_unfolding_all rfl) only [Wd, W2d, W3d, Nat.reduceAdd, Nat.reduceMul, Nat.reduceSub, lc0, lc1, lc2, lc3, ad0, ad1, ad2, aidx_0, aidx_1, aidx_2, arrs_rp, rc18, rc27, rc9, rc24', sidx_2, sidx_3, ad3, fw, c0, c1, c2, nu, k1, k2, k_3of]
  rw [gussetlaw17_ElementSums.l0_eq]
  simp (disch := first | first | exact dD | fail | rfl | with_unfolding_all rfl) only [Wd, W2d, W3d, Nat.reduceAdd, Nat.reduceMul, Nat.reduceSub, lc0, lc1, lc2, lc3, ad0, ad1, ad2, aidx_0, aidx_1, aidx_2, arrs_rp, rc18, rc27, rc9, rc24', sidx_2, sidx_3, ad3, k_3of]
  rw [gussetlaw17_ElementSums.l1_eq]
  simp (disch := first | exact dE | fail) only [Wd, W2d, W3d, Nat.reduceAdd, Nat.reduceMul, Nat.reduceSub, lc0, lc1, lc2, lc3, ad0, ad1, ad2, aidx_0, aidx_1, aidx_2, arrs_rp, rc18, rc27, rc9, rc24', sidx_2, sidx_3, ad3, neq_self, k_3sum, k_3mul, k_3sign, ← rsgn_eq, s0, s1, s2]
  rw [gussetlaw17_ElementSums.l1_eq]
  simp (disch := first | exact dE | fail) only [Wd, W2d, W3d, Nat.reduceAdd, Nat.reduceMul, Nat.reduceSub, lc0, lc1, lc2, lc3, ad0, ad1, ad2, aidx_0, aidx_1, aidx_2, arrs_rp, rc18, rc27, rc9, rc24', sidx_2, sidx_3, ad3, neq_self, k_3sum, k_3mul, k_3sign, ← rsgn_eq, s0, s1, s2]
  rw [gussetlaw17_ElementSums.l1_eq]
  simp (disch := first | exact dE | fail) only [Wd, W2d, W3d, Nat.reduceAdd, Nat.reduceMul, Nat.reduceSub, lc0, lc1, lc2, lc3, ad0, ad1, ad2, aidx_0, aidx_1, aidx_2, arrs_rp, rc18, rc27, rc9, rc24', sidx_2, sidx_3, ad3, neq_self, k_3sum, k_3mul, k_3sign, ← rsgn_eq, s0, s1, s2]
  rw [gussetlaw17_ElementSums.l1_eq]
  simp (disch := first | exact dE | fail) only [Wd, W2d, W3d, Nat.reduceAdd, Nat.reduceMul, Nat.reduceSub, lc0, lc1, lc2, lc3, ad0, ad1, ad2, aidx_0, aidx_1, aidx_2, arrs_rp, rc18, rc27, rc9, rc24', sidx_2, sidx_3, ad3, neq_self, k_3sum, k_3mul, k_3sign, ← rsgn_eq, s0, s1, s2]
  rw [gussetlaw17_ElementSums.l0_eq]
  simp (disch := first | first | exact dD | fail | rfl | with_unfolding_all rfl) only [Wd, W2d, W3d, Nat.reduceAdd, Nat.reduceMul, Nat.reduceSub, lc0, lc1, lc2, lc3, ad0, ad1, ad2, aidx_0, aidx_1, aidx_2, arrs_rp, rc18, rc27, rc9, rc24', sidx_2, sidx_3, ad3, k_3of]
  rw [gussetlaw17_ElementSums.l1_eq]
  simp (disch := first | exact dE | fail) only [Wd, W2d, W3d, Nat.reduceAdd, Nat.reduceMul, Nat.reduceSub, lc0, lc1, lc2, lc3, ad0, ad1, ad2, aidx_0, aidx_1, aidx_2, arrs_rp, rc18, rc27, rc9, rc24', sidx_2, sidx_3, ad3, neq_self, k_3sum, k_3mul, k_3sign, ← rsgn_eq, s0, s1, s2]
  rw [gussetlaw17_ElementSums.l1_eq]
  simp (disch := first | exact dE | fail) only [Wd, W2d, W3d, Nat.reduceAdd, Nat.reduceMul, Nat.reduceSub, lc0, lc1, lc2, lc3, ad0, ad1, ad2, aidx_0, aidx_1, aidx_2, arrs_rp, rc18, rc27, rc9, rc24', sidx_2, sidx_3, ad3, neq_self, k_3sum, k_3mul, k_3sign, ← rsgn_eq, s0, s1, s2]
  rw [gussetlaw17_ElementSums.l1_eq]
  simp (disch := first | exact dE | fail) only [Wd, W2d, W3d, Nat.reduceAdd, Nat.reduceMul, Nat.reduceSub, lc0, lc1, lc2, lc3, ad0, ad1, ad2, aidx_0, aidx_1, aidx_2, arrs_rp, rc18, rc27, rc9, rc24', sidx_2, sidx_3, ad3, neq_self, k_3sum, k_3mul, k_3sign, ← rsgn_eq, s0, s1, s2]
  rw [gussetlaw17_ElementSums.l1_eq]
  simp (disch := first | exact dE | fail) only [Wd, W2d, W3d, Nat.reduceAdd, Nat.reduceMul, Nat.reduceSub, lc0, lc1, lc2, lc3, ad0, ad1, ad2, aidx_0, aidx_1, aidx_2, arrs_rp, rc18, rc27, rc9, rc24', sidx_2, sidx_3, ad3, neq_self, k_3sum, k_3mul, k_3sign, ← rsgn_eq, s0, s1, s2]
  rw [gussetlaw17_ElementSums.l0_eq]
  simp (disch := first | first | exact dD | fail | rfl | with_unfolding_all rfl) only [Wd, W2d, W3d, Nat.reduceAdd, Nat.reduceMul, Nat.reduceSub, lc0, lc1, lc2, lc3, ad0, ad1, ad2, aidx_0, aidx_1, aidx_2, arrs_rp, rc18, rc27, rc9, rc24', sidx_2, sidx_3, ad3, k_3of]
  rw [gussetlaw17_ElementSums.l1_eq]
  simp (disch := first | exact dE | fail) only [Wd, W2d, W3d, Nat.reduceAdd, Nat.reduceMul, Nat.reduceSub, lc0, lc1, lc2, lc3, ad0, ad1, ad2, aidx_0, aidx_1, aidx_2, arrs_rp, rc18, rc27, rc9, rc24', sidx_2, sidx_3, ad3, neq_self, k_3sum, k_3mul, k_3sign, ← rsgn_eq, s0, s1, s2]
  rw [gussetlaw17_ElementSums.l1_eq]
  simp (disch := first | exact dE | fail) only [Wd, W2d, W3d, Nat.reduceAdd, Nat.reduceMul, Nat.reduceSub, lc0, lc1, lc2, lc3, ad0, ad1, ad2, aidx_0, aidx_1, aidx_2, arrs_rp, rc18, rc27, rc9, rc24', sidx_2, sidx_3, ad3, neq_self, k_3sum, k_3mul, k_3sign, ← rsgn_eq, s0, s1, s2]
  rw [gussetlaw17_ElementSums.l1_eq]
  simp (disch := first | exact dE | fail) only [Wd, W2d, W3d, Nat.reduceAdd, Nat.reduceMul, Nat.reduceSub, lc0, lc1, lc2, lc3, ad0, ad1, ad2, aidx_0, aidx_1, aidx_2, arrs_rp, rc18, rc27, rc9, rc24', sidx_2, sidx_3, ad3, neq_self, k_3sum, k_3mul, k_3sign, ← rsgn_eq, s0, s1, s2]
  rw [gussetlaw17_ElementSums.l1_eq]
  simp (disch := first | exact dE | fail) only [Wd, W2d, W3d, Nat.reduceAdd, Nat.reduceMul, Nat.reduceSub, lc0, lc1, lc2, lc3, ad0, ad1, ad2, aidx_0, aidx_1, aidx_2, arrs_rp, rc18, rc27, rc9, rc24', sidx_2, sidx_3, ad3, neq_self, k_3sum, k_3mul, k_3sign, ← rsgn_eq, s0, s1, s2]
  rw [gussetlaw17_ElementSums.l0_eq]
  simp (disch := first | exact dE | fail) only [Wd, W2d, W3d, Nat.reduceAdd, Nat.reduceMul, Nat.reduceSub, lc0, lc1, lc2, lc3, ad0, ad1, ad2, aidx_0, aidx_1, aidx_2, arrs_rp, rc18, rc27, rc9, rc24', sidx_2, sidx_3, ad3, ka, k_4norm, k_3mul, eqa_r, live17_by]

end Go.Proofs.YtmklpomcdnflbaaGreat.Am