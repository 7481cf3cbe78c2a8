import Derived.Test.YtmklpomcdnflbaaGreatAmLaws17b
/- The laws of section 17: linear functions, moved triangles. -/
set_option linter.unusedVariables false
set_option maxRecDepth 10000
set_option linter.unusedSimpArgs false
namespace Go.Proofs.YtmklpomcdnflbaaGreat.Am
open Go
section
variable {ax ay bx b_ cx cy f0 f1 f2 : Rat}
theorem lin_X (h0 : area ax ay bx b_ cx cy ≠ 0) : slX ax ay bx b_ cx cy (f0 + (f1 * ax + f2 * ay)) (f0 + (f1 * bx + f2 * b_)) (f0 + (f1 * cx + f2 * cy)) = f1 := by
  rw [slX_eq h0]
  unfold area at h0 ⊢
  grind
theorem lin_Y (h0 : area ax ay bx b_ cx cy ≠ 0) : slY ax ay bx b_ cx cy (f0 + (f1 * ax + f2 * ay)) (f0 + (f1 * bx + f2 * b_)) (f0 + (f1 * cx + f2 * cy)) = f2 := by
  rw [slY_eq h0]
  unfold area at h0 ⊢
  grind
end
theorem u3_30 {q : Rat} (h : Rz q 30) : Rz q 20000 := h.mono (by omega)

theorem elementLinear_cv (t : T3) (u : U3) (ht : t.ok) (hu : u.ok) : cv gp fid.gussetlaw17_ElementLinear [.agg (t3c t), .agg (u3c u)] = some (.bool true) := by
  obtain ⟨a, b, c⟩ := t
  obtain ⟨ha, hb, hc⟩ := ht
  simp only at ha hb hc
  rw [gussetlaw17_ElementLinear.eq]
  unfold gussetlaw17_ElementLinear.f
  have fw := fun H => few3 (a := a) (b := b) (c := c) (H := some (ptc a ++ ptc b ++ ptc c) :: H) (x := .rs 6 0 0 3) rfl
  have ak := fun H => ask3 (H := some (ptc a ++ ptc b ++ ptc c) :: H) (x := .rs 6 0 0 3) ha hb hc rfl
  have c0 := fun h => c_short17 (h := h) (t := u.1)
  have c1 := fun h => c_short17 (h := h) (t := u.2.1)
  have c2 := fun h => c_short17 (h := h) (t := u.2.2)
  by_cases hs : fewP [a, b, c]
  rotate_left
  · rw [decide_eq_false hs] at fw
    clear hs ak c0 c1 c2
    unfold t3c u3c ptc rtc at *
    simp only [List.cons_append, List.nil_append] at *
    simp (disch := first | first | exact dD | fail | rfl | with_unfolding_all rfl) only [Wd, W2d, W3d, Nat.reduceAdd, Nat.reduceMul, Nat.reduceSub, lc0, lc1, lc2, lc3, ad0, ad1, ad2, aidx_0, aidx_1, aidx_2, arrs_rp, rc18, rc27, rc9, rc24', sidx_2, sidx_3, ad3, fw, live17_by]
  rw [decide_eq_true hs] at fw
  obtain ⟨sa, sb, sc⟩ := few3_iff hs
  clear hs
  by_cases s0 : sh1 u.1
  rotate_left
  · rw [decide_eq_false s0] at c0
    clear ak c1 c2
    unfold t3c u3c ptc rtc at *
    simp only [List.cons_append, List.nil_append] at *
    simp (disch := first | first | exact dD | fail | rfl | with_unfolding_all rfl) only [Wd, W2d, W3d, Nat.reduceAdd, Nat.reduceMul, Nat.reduceSub, lc0, lc1, lc2, lc3, ad0, ad1, ad2, aidx_0, aidx_1, aidx_2, arrs_rp, rc18, rc27, rc9, rc24', sidx_2, sidx_3, ad3, fw, c0, live17_by]
  rw [decide_eq_true s0] at c0
  by_cases s1 : sh1 u.2.1
  rotate_left
  · rw [decide_eq_false s1] at c1
    clear ak c2
    unfold t3c u3c ptc rtc at *
    simp only [List.cons_append, List.nil_append] at *
    simp (disch := first | first | exact dD | fail | rfl | with_unfolding_all rfl) only [Wd, W2d, W3d, Nat.reduceAdd, Nat.reduceMul, Nat.reduceSub, lc0, lc1, lc2, lc3, ad0, ad1, ad2, aidx_0, aidx_1, aidx_2, arrs_rp, rc18, rc27, rc9, rc24', sidx_2, sidx_3, ad3, fw, c0, c1, live17_by]
  rw [decide_eq_true s1] at c1
  by_cases s2 : sh1 u.2.2
  rotate_left
  · rw [decide_eq_false s2] at c2
    clear ak
    unfold t3c u3c ptc rtc at *
    simp only [List.cons_append, List.nil_append] at *
    simp (disch := first | first | exact dD | fail | rfl | with_unfolding_all rfl) only [Wd, W2d, W3d, Nat.reduceAdd, Nat.reduceMul, Nat.reduceSub, lc0, lc1, lc2, lc3, ad0, ad1, ad2, aidx_0, aidx_1, aidx_2, arrs_rp, rc18, rc27, rc9, rc24', sidx_2, sidx_3, ad3, fw, c0, c1, c2, live17_by]
  rw [decide_eq_true s2] at c2
  have nu := fun h => k_17num (h := h) hu ⟨by have := s0.1; omega, by have := s0.2; omega⟩ ⟨by have := s1.1; omega, by have := s1.2; omega⟩ ⟨by have := s2.1; omega, by have := s2.2; omega⟩
  by_cases hn : nume u = 0
  rotate_left
  · generalize nume u = e at *
    clear s0 s1 s2 hu ak
    unfold t3c u3c ptc rtc at *
    simp only [List.cons_append, List.nil_append] at *
    simp (disch := first | first | exact dD | fail | rfl | with_unfolding_all rfl) only [Wd, W2d, W3d, Nat.reduceAdd, Nat.reduceMul, Nat.reduceSub, lc0, lc1, lc2, lc3, ad0, ad1, ad2, aidx_0, aidx_1, aidx_2, arrs_rp, rc18, rc27, rc9, rc24', sidx_2, sidx_3, ad3, fw, c0, c1, c2, nu, live17_by]
  rw [hn] at nu
  obtain ⟨f0, f1, f2, rfl, g0, g1, g2⟩ := u3_rat hu s0 s1 s2 hn
  clear s0 s1 s2 hu hn
  by_cases h0 : asC a b c = 0
  rotate_left
  · generalize asC a b c = e at *
    unfold t3c u3c ptc rtc rt at *
    simp only [List.cons_append, List.nil_append] at *
    simp (disch := first | first | exact dD | fail | rfl | with_unfolding_all rfl) only [Wd, W2d, W3d, Nat.reduceAdd, Nat.reduceMul, Nat.reduceSub, lc0, lc1, lc2, lc3, ad0, ad1, ad2, aidx_0, aidx_1, aidx_2, arrs_rp, rc18, rc27, rc9, rc24', sidx_2, sidx_3, ad3, fw, ak, c0, c1, c2, nu, live17_by]
  rw [h0] at ak
  obtain ⟨z1, z2, z3⟩ := asC_zero h0
  obtain ⟨ax, ay, rfl, h1, h2⟩ := pt_rat ha sa z1
  obtain ⟨bx, b_, rfl, h3, h4⟩ := pt_rat hb sb z2
  obtain ⟨cx, cy, rfl, h5, h6⟩ := pt_rat hc sc z3
  have n1 := h1.mono (m := 100) (by omega)
  have n2 := h2.mono (m := 100) (by omega)
  have n3 := h3.mono (m := 100) (by omega)
  have n4 := h4.mono (m := 100) (by omega)
  have n5 := h5.mono (m := 100) (by omega)
  have n6 := h6.mono (m := 100) (by omega)
  have m1 := h1.mono (m := 2000) (by omega)
  have m2 := h2.mono (m := 2000) (by omega)
  have m3 := h3.mono (m := 2000) (by omega)
  have m4 := h4.mono (m := 2000) (by omega)
  have m5 := h5.mono (m := 2000) (by omega)
  have m6 := h6.mono (m := 2000) (by omega)
  have o1 := h1.mono (m := 20000) (by omega)
  have o2 := h2.mono (m := 20000) (by omega)
  have o3 := h3.mono (m := 20000) (by omega)
  have o4 := h4.mono (m := 20000) (by omega)
  have o5 := h5.mono (m := 20000) (by omega)
  have o6 := h6.mono (m := 20000) (by omega)
  clear sa sb sc z1 z2 z3 h0 ha hb hc
  have p1 := (g1.mul h1).mono (m := 20000) (by omega)
  have p2 := (g2.mul h2).mono (m := 20000) (by omega)
  have p3 := (g1.mul h3).mono (m := 20000) (by omega)
  have p4 := (g2.mul h4).mono (m := 20000) (by omega)
  have p5 := (g1.mul h5).mono (m := 20000) (by omega)
  have p6 := (g2.mul h6).mono (m := 20000) (by omega)
  have r1 := ((g1.mul h1).add (g2.mul h2)).mono (m := 20000) (by omega)
  have r2 := ((g1.mul h3).add (g2.mul h4)).mono (m := 20000) (by omega)
  have r3 := ((g1.mul h5).add (g2.mul h6)).mono (m := 20000) (by omega)
  have w0 := (g0.add ((g1.mul h1).add (g2.mul h2))).mono (m := 200) (by omega)
  have w1 := (g0.add ((g1.mul h3).add (g2.mul h4))).mono (m := 200) (by omega)
  have w2 := (g0.add ((g1.mul h5).add (g2.mul h6))).mono (m := 200) (by omega)
  have g0 := u3_30 g0
  have g1 := u3_30 g1
  have g2 := u3_30 g2
  have L : ∀ (V : Option AV), V = some (.bool true) → V = some (.bool true) := fun _ h => h
  by_cases q : area ax ay bx b_ cx cy = 0
  · have k1 := fun h => k_slope0 (h := h) n1 n2 n3 n4 n5 n6 w0 w1 w2 q
    have q0 := rsgn_zero.2 q
    clear q w0 w1 w2
    unfold t3c u3c ptc rtc rt at *
    simp only [List.cons_append, List.nil_append] at *
    simp (disch := first | first | exact dD | fail | rfl | with_unfolding_all rfl) only [Wd, W2d, W3d, Nat.reduceAdd, Nat.reduceMul, Nat.reduceSub, lc0, lc1, lc2, lc3, ad0, ad1, ad2, aidx_0, aidx_1, aidx_2, arrs_rp, rc18, rc27, rc9, rc24', sidx_2, sidx_3, ad3, fw, ak, c0, c1, c2, nu, live17_by]
    rw [gussetlaw17_ElementLinear.l0_eq]
    simp (disch := first | first | exact dD | fail | rfl | with_unfolding_all rfl) only [Wd, W2d, W3d, Nat.reduceAdd, Nat.reduceMul, Nat.reduceSub, lc0, lc1, lc2, lc3, ad0, ad1, ad2, aidx_0, aidx_1, aidx_2, arrs_rp, rc18, rc27, rc9, rc24', sidx_2, sidx_3, ad3, k_3mul, k_3sum, k1, k_5orient, q0, live17_by]
    rw [gussetlaw17_ElementLinear.l0_eq]
    simp (disch := first | first | exact dD | fail | rfl | with_unfolding_all rfl) only [Wd, W2d, W3d, Nat.reduceAdd, Nat.reduceMul, Nat.reduceSub, lc0, lc1, lc2, lc3, ad0, ad1, ad2, aidx_0, aidx_1, aidx_2, arrs_rp, rc18, rc27, rc9, rc24', sidx_2, sidx_3, ad3, k_3mul, k_3sum, k1, k_5orient, q0, live17_by]
    rw [gussetlaw17_ElementLinear.l0_eq]
    simp (disch := first | first | exact dD | fail | rfl | with_unfolding_all rfl) only [Wd, W2d, W3d, Nat.reduceAdd, Nat.reduceMul, Nat.reduceSub, lc0, lc1, lc2, lc3, ad0, ad1, ad2, aidx_0, aidx_1, aidx_2, arrs_rp, rc18, rc27, rc9, rc24', sidx_2, sidx_3, ad3, k_3mul, k_3sum, k1, k_5orient, q0, live17_by]
    rw [gussetlaw17_ElementLinear.l0_eq]
    simp (disch := first | first | exact dD | fail | rfl | with_unfolding_all rfl) only [Wd, W2d, W3d, Nat.reduceAdd, Nat.reduceMul, Nat.reduceSub, lc0, lc1, lc2, lc3, ad0, ad1, ad2, aidx_0, aidx_1, aidx_2, arrs_rp, rc18, rc27, rc9, rc24', sidx_2, sidx_3, ad3, k_3mul, k_3sum, k1, k_5orient, q0, live17_by]
  · have k1 := fun h => k_slope (h := h) n1 n2 n3 n4 n5 n6 w0 w1 w2 q
    have q0 : ¬ rsgn (area ax ay bx b_ cx cy) = 0 := fun h => q (rsgn_zero.1 h)
    rw [lin_X q, lin_Y q] at k1
    clear q w0 w1 w2
    unfold t3c u3c ptc rtc rt at *
    simp only [List.cons_append, List.nil_append] at *
    simp (disch := first | first | exact dD | fail | rfl | with_unfolding_all rfl) only [Wd, W2d, W3d, Nat.reduceAdd, Nat.reduceMul, Nat.reduceSub, lc0, lc1, lc2, lc3, ad0, ad1, ad2, aidx_0, aidx_1, aidx_2, arrs_rp, rc18, rc27, rc9, rc24', sidx_2, sidx_3, ad3, fw, ak, c0, c1, c2, nu, live17_by]
    rw [gussetlaw17_ElementLinear.l0_eq]
    simp (disch := first | first | exact dD | fail | rfl | with_unfolding_all rfl) only [Wd, W2d, W3d, Nat.reduceAdd, Nat.reduceMul, Nat.reduceSub, lc0, lc1, lc2, lc3, ad0, ad1, ad2, aidx_0, aidx_1, aidx_2, arrs_rp, rc18, rc27, rc9, rc24', sidx_2, sidx_3, ad3, k_3mul, k_3sum, k1, k_5orient, q0, live17_by, eqa_p, and_self]
    rw [gussetlaw17_ElementLinear.l0_eq]
    simp (disch := first | first | exact dD | fail | rfl | with_unfolding_all rfl) only [Wd, W2d, W3d, Nat.reduceAdd, Nat.reduceMul, Nat.reduceSub, lc0, lc1, lc2, lc3, ad0, ad1, ad2, aidx_0, aidx_1, aidx_2, arrs_rp, rc18, rc27, rc9, rc24', sidx_2, sidx_3, ad3, k_3mul, k_3sum, k1, k_5orient, q0, live17_by, eqa_p, and_self]
    rw [gussetlaw17_ElementLinear.l0_eq]
    simp (disch := first | first | exact dD | fail | rfl | with_unfolding_all rfl) only [Wd, W2d, W3d, Nat.reduceAdd, Nat.reduceMul, Nat.reduceSub, lc0, lc1, lc2, lc3, ad0, ad1, ad2, aidx_0, aidx_1, aidx_2, arrs_rp, rc18, rc27, rc9, rc24', sidx_2, sidx_3, ad3, k_3mul, k_3sum, k1, k_5orient, q0, live17_by, eqa_p, and_self]
    rw [gussetlaw17_ElementLinear.l0_eq]
    simp (disch := first | first | exact dD | fail | rfl | with_unfolding_all rfl) only [Wd, W2d, W3d, Nat.reduceAdd, Nat.reduceMul, Nat.reduceSub, lc0, lc1, lc2, lc3, ad0, ad1, ad2, aidx_0, aidx_1, aidx_2, arrs_rp, rc18, rc27, rc9, rc24', sidx_2, sidx_3, ad3, k_3mul, k_3sum, k1, k_5orient, q0, live17_by, eqa_p, and_self]

end Go.Proofs.YtmklpomcdnflbaaGreat.Am