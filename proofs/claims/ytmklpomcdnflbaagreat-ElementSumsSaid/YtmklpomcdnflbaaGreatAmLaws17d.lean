import Derived.Test.YtmklpomcdnflbaaGreatAmLaws17c
/- The laws of section 17: moved triangles. -/
set_option linter.unusedVariables false
set_option maxRecDepth 10000
set_option linter.unusedSimpArgs false
namespace Go.Proofs.YtmklpomcdnflbaaGreat.Am
open Go
theorem sgn_scale {A k : Rat} (hk : k ≠ 0) : rsgn (A * (k * k)) = rsgn A := by
  have kk : 0 < k * k := by
    have := sq_nn k
    have n0 : k * k ≠ 0 := fun h => by rcases Rat.mul_eq_zero.1 h with h | h <;> exact hk h
    grind
  have b1 := rsgn_b A
  have b2 := rsgn_b (A * (k * k))
  by_cases h1 : A < 0
  · have h2 : A * (k * k) < 0 := by
      have := Rat.mul_pos (a := -A) (by grind) kk
      grind
    have := rsgn_lt.2 h1
    have := rsgn_lt.2 h2
    omega
  · by_cases h2 : A = 0
    · rw [h2, Rat.zero_mul]
    · have h3 : 0 < A * (k * k) := Rat.mul_pos (by grind) kk
      have g1 : ¬ rsgn A < 0 := fun h => h1 (rsgn_lt.1 h)
      have g2 : ¬ rsgn A = 0 := fun h => h2 (rsgn_zero.1 h)
      have g3 : ¬ rsgn (A * (k * k)) < 0 := fun h => by have := rsgn_lt.1 h; grind
      have g4 : ¬ rsgn (A * (k * k)) = 0 := fun h => by have := rsgn_zero.1 h; grind
      omega
theorem stq_scale {A d k : Rat} (h0 : A ≠ 0) (hk : k ≠ 0) : stQ (A * (k * k)) (d * (k * k)) = stQ A d := by
  unfold stQ
  rw [sgn_scale hk]
  have n1 := two_ne h0
  have n2 : k * k ≠ 0 := fun h => by rcases Rat.mul_eq_zero.1 h with h | h <;> exact hk h
  generalize ((2 * rsgn A : Int) : Rat) = w at *
  have n3 : w ≠ 0 := fun h => n1 (by rw [h, Rat.zero_mul])
  grind
section
variable {ax ay bx b_ cx cy k px py : Rat}

theorem moved_area : area (-ay * k + px) (ax * k + py) (-b_ * k + px) (bx * k + py) (-cy * k + px) (cx * k + py) = area ax ay bx b_ cx cy * (k * k) := by unfold area; grind
theorem moved_st (h0 : area ax ay bx b_ cx cy ≠ 0) (hk : k ≠ 0) : stiffC (-ay * k + px) (ax * k + py) (-b_ * k + px) (bx * k + py) (-cy * k + px) (cx * k + py) = stiffC ax ay bx b_ cx cy := by
  unfold stiffC
  rw [moved_area]
  have e00 : ((-cy * k + px) - (-b_ * k + px)) * ((-cy * k + px) - (-b_ * k + px)) + ((cx * k + py) - (bx * k + py)) * ((cx * k + py) - (bx * k + py)) = ((cx - bx) * (cx - bx) + (cy - b_) * (cy - b_)) * (k * k) := by grind
  have e01 : ((-cy * k + px) - (-b_ * k + px)) * ((-ay * k + px) - (-cy * k + px)) + ((cx * k + py) - (bx * k + py)) * ((ax * k + py) - (cx * k + py)) = ((cx - bx) * (ax - cx) + (cy - b_) * (ay - cy)) * (k * k) := by grind
  have e02 : ((-cy * k + px) - (-b_ * k + px)) * ((-b_ * k + px) - (-ay * k + px)) + ((cx * k + py) - (bx * k + py)) * ((bx * k + py) - (ax * k + py)) = ((cx - bx) * (bx - ax) + (cy - b_) * (b_ - ay)) * (k * k) := by grind
  have e10 : ((-ay * k + px) - (-cy * k + px)) * ((-cy * k + px) - (-b_ * k + px)) + ((ax * k + py) - (cx * k + py)) * ((cx * k + py) - (bx * k + py)) = ((ax - cx) * (cx - bx) + (ay - cy) * (cy - b_)) * (k * k) := by grind
  have e11 : ((-ay * k + px) - (-cy * k + px)) * ((-ay * k + px) - (-cy * k + px)) + ((ax * k + py) - (cx * k + py)) * ((ax * k + py) - (cx * k + py)) = ((ax - cx) * (ax - cx) + (ay - cy) * (ay - cy)) * (k * k) := by grind
  have e12 : ((-ay * k + px) - (-cy * k + px)) * ((-b_ * k + px) - (-ay * k + px)) + ((ax * k + py) - (cx * k + py)) * ((bx * k + py) - (ax * k + py)) = ((ax - cx) * (bx - ax) + (ay - cy) * (b_ - ay)) * (k * k) := by grind
  have e20 : ((-b_ * k + px) - (-ay * k + px)) * ((-cy * k + px) - (-b_ * k + px)) + ((bx * k + py) - (ax * k + py)) * ((cx * k + py) - (bx * k + py)) = ((bx - ax) * (cx - bx) + (b_ - ay) * (cy - b_)) * (k * k) := by grind
  have e21 : ((-b_ * k + px) - (-ay * k + px)) * ((-ay * k + px) - (-cy * k + px)) + ((bx * k + py) - (ax * k + py)) * ((ax * k + py) - (cx * k + py)) = ((bx - ax) * (ax - cx) + (b_ - ay) * (ay - cy)) * (k * k) := by grind
  have e22 : ((-b_ * k + px) - (-ay * k + px)) * ((-b_ * k + px) - (-ay * k + px)) + ((bx * k + py) - (ax * k + py)) * ((bx * k + py) - (ax * k + py)) = ((bx - ax) * (bx - ax) + (b_ - ay) * (b_ - ay)) * (k * k) := by grind
  rw [e00, stq_scale h0 hk]
  rw [e01, stq_scale h0 hk]
  rw [e02, stq_scale h0 hk]
  rw [e10, stq_scale h0 hk]
  rw [e11, stq_scale h0 hk]
  rw [e12, stq_scale h0 hk]
  rw [e20, stq_scale h0 hk]
  rw [e21, stq_scale h0 hk]
  rw [e22, stq_scale h0 hk]
end

theorem elementMoved_cv (t : T3) (p : PT) (r : RT) (ht : t.ok) (hp : p.ok) (hr : r.ok) : cv gp fid.gussetlaw17_ElementMoved [.agg (t3c t), .agg (ptc p), .agg (rtc r)] = some (.bool true) := by
  obtain ⟨a, b, c⟩ := t
  obtain ⟨ha, hb, hc⟩ := ht
  simp only at ha hb hc
  rw [gussetlaw17_ElementMoved.eq]
  unfold gussetlaw17_ElementMoved.f
  have fw := fun H => few3 (a := a) (b := b) (c := c) (H := some (ptc a ++ ptc b ++ ptc c) :: H) (x := .rs 6 0 0 3) rfl
  have ak := fun H => ask3 (H := some (ptc a ++ ptc b ++ ptc c) :: H) (x := .rs 6 0 0 3) ha hb hc rfl
  have fp := fun H => c_few (xs := [p]) (H := H) (x := .is 1 true (ptc p)) (by simp) (by rw [show [p].flatMap ptc = ptc p by simp]; rfl)
  have ck := fun h => c_short17 (h := h) (t := r)
  have c4 := fun h => c_4check (h := h) hp
  have c3 := fun h => c_3check (h := h) (s := r.s) hr.1 hr.2
  have ek : rchk r.s r.m r.d = r.chk := rfl
  simp only [ek] at c3
  by_cases hs : fewP [a, b, c]
  rotate_left
  · rw [decide_eq_false hs] at fw
    clear hs ak fp ck c4 c3
    unfold t3c ptc rtc at *
    simp only [List.cons_append, List.nil_append] at *
    simp (disch := first | first | exact dD | fail | rfl | with_unfolding_all rfl) only [Wd, W2d, W3d, Nat.reduceAdd, Nat.reduceMul, Nat.reduceSub, lc0, lc1, lc2, lc3, ad0, ad1, ad2, aidx_0, aidx_1, aidx_2, arrs_rp, rc18, rc27, rc9, rc24', sidx_2, sidx_3, ad3, fw, live17_by]
  rw [decide_eq_true hs] at fw
  obtain ⟨sa, sb, sc⟩ := few3_iff hs
  clear hs
  by_cases s0 : fewP [p]
  rotate_left
  · rw [decide_eq_false s0] at fp
    clear ak ck c4 c3
    unfold t3c ptc rtc at *
    simp only [List.cons_append, List.nil_append] at *
    simp (disch := first | first | exact dD | fail | rfl | with_unfolding_all rfl) only [Wd, W2d, W3d, Nat.reduceAdd, Nat.reduceMul, Nat.reduceSub, lc0, lc1, lc2, lc3, ad0, ad1, ad2, aidx_0, aidx_1, aidx_2, arrs_rp, rc18, rc27, rc9, rc24', sidx_2, sidx_3, ad3, fw, fp, live17_by]
  rw [decide_eq_true s0] at fp
  have sp : sh2 p := s0 p (by simp)
  by_cases s1 : sh1 r
  rotate_left
  · rw [decide_eq_false s1] at ck
    clear ak c4 c3
    unfold t3c ptc rtc at *
    simp only [List.cons_append, List.nil_append] at *
    simp (disch := first | first | exact dD | fail | rfl | with_unfolding_all rfl) only [Wd, W2d, W3d, Nat.reduceAdd, Nat.reduceMul, Nat.reduceSub, lc0, lc1, lc2, lc3, ad0, ad1, ad2, aidx_0, aidx_1, aidx_2, arrs_rp, rc18, rc27, rc9, rc24', sidx_2, sidx_3, ad3, fw, fp, ck, live17_by]
  rw [decide_eq_true s1] at ck
  by_cases h0 : asC a b c = 0
  rotate_left
  · generalize asC a b c = e at *
    clear c4 c3
    unfold t3c ptc rtc at *
    simp only [List.cons_append, List.nil_append] at *
    simp (disch := first | first | exact dD | fail | rfl | with_unfolding_all rfl) only [Wd, W2d, W3d, Nat.reduceAdd, Nat.reduceMul, Nat.reduceSub, lc0, lc1, lc2, lc3, ad0, ad1, ad2, aidx_0, aidx_1, aidx_2, arrs_rp, rc18, rc27, rc9, rc24', sidx_2, sidx_3, ad3, fw, fp, ck, ak, live17_by]
  rw [h0] at ak
  by_cases h9 : pchk p = 0
  rotate_left
  · generalize pchk p = e at *
    clear c3
    unfold t3c ptc rtc at *
    simp only [List.cons_append, List.nil_append] at *
    simp (disch := first | first | exact dD | fail | rfl | with_unfolding_all rfl) only [Wd, W2d, W3d, Nat.reduceAdd, Nat.reduceMul, Nat.reduceSub, lc0, lc1, lc2, lc3, ad0, ad1, ad2, aidx_0, aidx_1, aidx_2, arrs_rp, rc18, rc27, rc9, rc24', sidx_2, sidx_3, ad3, fw, fp, ck, ak, c4, live17_by]
  rw [h9] at c4
  by_cases h8 : r.chk = 0
  rotate_left
  · generalize r.chk = e at *
    unfold t3c ptc rtc at *
    simp only [List.cons_append, List.nil_append] at *
    simp (disch := first | first | exact dD | fail | rfl | with_unfolding_all rfl) only [Wd, W2d, W3d, Nat.reduceAdd, Nat.reduceMul, Nat.reduceSub, lc0, lc1, lc2, lc3, ad0, ad1, ad2, aidx_0, aidx_1, aidx_2, arrs_rp, rc18, rc27, rc9, rc24', sidx_2, sidx_3, ad3, fw, fp, ck, ak, c4, c3, live17_by]
  rw [h8] at c3
  obtain ⟨z1, z2, z3⟩ := asC_zero h0
  obtain ⟨ax, ay, rfl, h1, h2⟩ := pt_rat ha sa z1
  obtain ⟨bx, b_, rfl, h3, h4⟩ := pt_rat hb sb z2
  obtain ⟨cx, cy, rfl, h5, h6⟩ := pt_rat hc sc z3
  obtain ⟨px, py, rfl, g1, g2⟩ := PT.ratz hp h9 sp.1 sp.2
  obtain ⟨k, rfl, g3⟩ := RT.ratz hr h8 s1
  have n1 := h1.mono (m := 100) (by omega)
  have n2 := h2.mono (m := 100) (by omega)
  have n3 := h3.mono (m := 100) (by omega)
  have n4 := h4.mono (m := 100) (by omega)
  have n5 := h5.mono (m := 100) (by omega)
  have n6 := h6.mono (m := 100) (by omega)
  have o1 := h1.mono (m := 20000) (by omega)
  have o2 := h2.mono (m := 20000) (by omega)
  have o3 := h3.mono (m := 20000) (by omega)
  have o4 := h4.mono (m := 20000) (by omega)
  have o5 := h5.mono (m := 20000) (by omega)
  have o6 := h6.mono (m := 20000) (by omega)
  clear sa sb sc z1 z2 z3 h0 ha hb hc hp hr h9 h8 s0 s1 sp
  by_cases k0 : k = 0
  · have q0 := rsgn_zero.2 k0
    clear k0
    unfold t3c ptc rtc rt at *
    simp only [List.cons_append, List.nil_append] at *
    simp (disch := first | first | exact dD | fail | rfl | with_unfolding_all rfl) only [Wd, W2d, W3d, Nat.reduceAdd, Nat.reduceMul, Nat.reduceSub, lc0, lc1, lc2, lc3, ad0, ad1, ad2, aidx_0, aidx_1, aidx_2, arrs_rp, rc18, rc27, rc9, rc24', sidx_2, sidx_3, ad3, fw, fp, ck, ak, c4, c3, k_3sign, ← rsgn_eq, q0, live17_by]
  have q9 : ¬ rsgn k = 0 := fun h => k0 (rsgn_zero.1 h)
  have x0 := (h2.neg.mul g3).mono (m := 20000) (by omega)
  have y0 := ((h2.neg.mul g3).add g1).mono (m := 100) (by omega)
  have x1 := (h1.mul g3).mono (m := 20000) (by omega)
  have y1 := ((h1.mul g3).add g2).mono (m := 100) (by omega)
  have x2 := (h4.neg.mul g3).mono (m := 20000) (by omega)
  have y2 := ((h4.neg.mul g3).add g1).mono (m := 100) (by omega)
  have x3 := (h3.mul g3).mono (m := 20000) (by omega)
  have y3 := ((h3.mul g3).add g2).mono (m := 100) (by omega)
  have x4 := (h6.neg.mul g3).mono (m := 20000) (by omega)
  have y4 := ((h6.neg.mul g3).add g1).mono (m := 100) (by omega)
  have x5 := (h5.mul g3).mono (m := 20000) (by omega)
  have y5 := ((h5.mul g3).add g2).mono (m := 100) (by omega)
  have v1 := h2.neg.mono (m := 20000) (by omega)
  have v2 := h4.neg.mono (m := 20000) (by omega)
  have v3 := h6.neg.mono (m := 20000) (by omega)
  have g1 := u3_30 g1
  have g2 := u3_30 g2
  have g3 := u3_30 g3
  by_cases q : area ax ay bx b_ cx cy = 0
  · have k1 := fun h => k_stiff0 (h := h) n1 n2 n3 n4 n5 n6 q
    have k2 := fun h => k_stiff0 (h := h) y0 y1 y2 y3 y4 y5 (by rw [moved_area, q, Rat.zero_mul])
    clear q
    unfold t3c ptc rtc rt at *
    simp only [List.cons_append, List.nil_append] at *
    simp (disch := first | first | exact dD | fail | rfl | with_unfolding_all rfl) only [Wd, W2d, W3d, Nat.reduceAdd, Nat.reduceMul, Nat.reduceSub, lc0, lc1, lc2, lc3, ad0, ad1, ad2, aidx_0, aidx_1, aidx_2, arrs_rp, rc18, rc27, rc9, rc24', sidx_2, sidx_3, ad3, fw, fp, ck, ak, c4, c3, k_3sign, ← rsgn_eq, q9, live17_by]
    rw [gussetlaw17_ElementMoved.l0_eq]
    simp (disch := first | first | exact dD | fail | rfl | with_unfolding_all rfl) only [Wd, W2d, W3d, Nat.reduceAdd, Nat.reduceMul, Nat.reduceSub, lc0, lc1, lc2, lc3, ad0, ad1, ad2, aidx_0, aidx_1, aidx_2, arrs_rp, rc18, rc27, rc9, rc24', sidx_2, sidx_3, ad3, k_3neg, k_4scale, k_4plus, k1, k2, live17_by, eqa_z27]
    rw [gussetlaw17_ElementMoved.l0_eq]
    simp (disch := first | first | exact dD | fail | rfl | with_unfolding_all rfl) only [Wd, W2d, W3d, Nat.reduceAdd, Nat.reduceMul, Nat.reduceSub, lc0, lc1, lc2, lc3, ad0, ad1, ad2, aidx_0, aidx_1, aidx_2, arrs_rp, rc18, rc27, rc9, rc24', sidx_2, sidx_3, ad3, k_3neg, k_4scale, k_4plus, k1, k2, live17_by, eqa_z27]
    rw [gussetlaw17_ElementMoved.l0_eq]
    simp (disch := first | first | exact dD | fail | rfl | with_unfolding_all rfl) only [Wd, W2d, W3d, Nat.reduceAdd, Nat.reduceMul, Nat.reduceSub, lc0, lc1, lc2, lc3, ad0, ad1, ad2, aidx_0, aidx_1, aidx_2, arrs_rp, rc18, rc27, rc9, rc24', sidx_2, sidx_3, ad3, k_3neg, k_4scale, k_4plus, k1, k2, live17_by, eqa_z27]
    rw [gussetlaw17_ElementMoved.l0_eq]
    simp (disch := first | first | exact dD | fail | rfl | with_unfolding_all rfl) only [Wd, W2d, W3d, Nat.reduceAdd, Nat.reduceMul, Nat.reduceSub, lc0, lc1, lc2, lc3, ad0, ad1, ad2, aidx_0, aidx_1, aidx_2, arrs_rp, rc18, rc27, rc9, rc24', sidx_2, sidx_3, ad3, k_3neg, k_4scale, k_4plus, k1, k2, live17_by, eqa_z27]
  · have k1 := fun h => k_stiff (h := h) n1 n2 n3 n4 n5 n6 q
    have k2 := fun h => k_stiff (h := h) y0 y1 y2 y3 y4 y5 (by
      rw [moved_area]
      intro h
      rcases Rat.mul_eq_zero.1 h with h | h
      · exact q h
      · rcases Rat.mul_eq_zero.1 h with h | h <;> exact k0 h)
    rw [moved_st q k0] at k2
    clear q k0
    unfold stiffC at k1 k2
    generalize stQ (area ax ay bx b_ cx cy) ((cx - bx) * (cx - bx) + (cy - b_) * (cy - b_)) = q00 at *
    generalize stQ (area ax ay bx b_ cx cy) ((cx - bx) * (ax - cx) + (cy - b_) * (ay - cy)) = q01 at *
    generalize stQ (area ax ay bx b_ cx cy) ((cx - bx) * (bx - ax) + (cy - b_) * (b_ - ay)) = q02 at *
    generalize stQ (area ax ay bx b_ cx cy) ((ax - cx) * (cx - bx) + (ay - cy) * (cy - b_)) = q10 at *
    generalize stQ (area ax ay bx b_ cx cy) ((ax - cx) * (ax - cx) + (ay - cy) * (ay - cy)) = q11 at *
    generalize stQ (area ax ay bx b_ cx cy) ((ax - cx) * (bx - ax) + (ay - cy) * (b_ - ay)) = q12 at *
    generalize stQ (area ax ay bx b_ cx cy) ((bx - ax) * (cx - bx) + (b_ - ay) * (cy - b_)) = q20 at *
    generalize stQ (area ax ay bx b_ cx cy) ((bx - ax) * (ax - cx) + (b_ - ay) * (ay - cy)) = q21 at *
    generalize stQ (area ax ay bx b_ cx cy) ((bx - ax) * (bx - ax) + (b_ - ay) * (b_ - ay)) = q22 at *
    have e9 := @eqa_9 q00 q01 q02 q10 q11 q12 q20 q21 q22
    unfold t3c ptc rtc rt at *
    simp only [List.cons_append, List.nil_append] at *
    simp (disch := first | first | exact dD | fail | rfl | with_unfolding_all rfl) only [Wd, W2d, W3d, Nat.reduceAdd, Nat.reduceMul, Nat.reduceSub, lc0, lc1, lc2, lc3, ad0, ad1, ad2, aidx_0, aidx_1, aidx_2, arrs_rp, rc18, rc27, rc9, rc24', sidx_2, sidx_3, ad3, fw, fp, ck, ak, c4, c3, k_3sign, ← rsgn_eq, q9, live17_by]
    rw [gussetlaw17_ElementMoved.l0_eq]
    simp (disch := first | first | exact dD | fail | rfl | with_unfolding_all rfl) only [Wd, W2d, W3d, Nat.reduceAdd, Nat.reduceMul, Nat.reduceSub, lc0, lc1, lc2, lc3, ad0, ad1, ad2, aidx_0, aidx_1, aidx_2, arrs_rp, rc18, rc27, rc9, rc24', sidx_2, sidx_3, ad3, k_3neg, k_4scale, k_4plus, k1, k2, live17_by, e9]
    rw [gussetlaw17_ElementMoved.l0_eq]
    simp (disch := first | first | exact dD | fail | rfl | with_unfolding_all rfl) only [Wd, W2d, W3d, Nat.reduceAdd, Nat.reduceMul, Nat.reduceSub, lc0, lc1, lc2, lc3, ad0, ad1, ad2, aidx_0, aidx_1, aidx_2, arrs_rp, rc18, rc27, rc9, rc24', sidx_2, sidx_3, ad3, k_3neg, k_4scale, k_4plus, k1, k2, live17_by, e9]
    rw [gussetlaw17_ElementMoved.l0_eq]
    simp (disch := first | first | exact dD | fail | rfl | with_unfolding_all rfl) only [Wd, W2d, W3d, Nat.reduceAdd, Nat.reduceMul, Nat.reduceSub, lc0, lc1, lc2, lc3, ad0, ad1, ad2, aidx_0, aidx_1, aidx_2, arrs_rp, rc18, rc27, rc9, rc24', sidx_2, sidx_3, ad3, k_3neg, k_4scale, k_4plus, k1, k2, live17_by, e9]
    rw [gussetlaw17_ElementMoved.l0_eq]
    simp (disch := first | first | exact dD | fail | rfl | with_unfolding_all rfl) only [Wd, W2d, W3d, Nat.reduceAdd, Nat.reduceMul, Nat.reduceSub, lc0, lc1, lc2, lc3, ad0, ad1, ad2, aidx_0, aidx_1, aidx_2, arrs_rp, rc18, rc27, rc9, rc24', sidx_2, sidx_3, ad3, k_3neg, k_4scale, k_4plus, k1, k2, live17_by, e9]

end Go.Proofs.YtmklpomcdnflbaaGreat.Am