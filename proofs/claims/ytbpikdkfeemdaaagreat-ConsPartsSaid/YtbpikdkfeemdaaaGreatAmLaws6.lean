import Derived.Test.YtbpikdkfeemdaaaGreatAmCons2
import Derived.Test.YtbpikdkfeemdaaaGreatAmSm6
import Derived.Test.YtbpikdkfeemdaaaGreatAmLive6
/- The laws of layer 6 (printed by genlaws6.py 2). -/
set_option linter.unusedVariables false
set_option maxRecDepth 10000
set_option linter.unusedSimpArgs false
namespace Go.Proofs.YtbpikdkfeemdaaaGreat.Am
open Go

theorem consNear_cv (t : T3) (ht : t.ok) : cv gp fid.gussetlaw06_ConsNear [.agg (t3c t)] = some (.bool true) := by
  obtain ⟨a, b, c⟩ := t
  obtain ⟨ha, hb, hc⟩ := ht
  simp only at ha hb hc
  rw [gussetlaw06_ConsNear.eq]
  unfold gussetlaw06_ConsNear.f
  have sm := fun h => c_small6 (h := h) (t := (a, b, c))
  by_cases hs : sm6 (a, b, c)
  rotate_left
  · rw [decide_eq_false hs] at sm
    clear hs
    unfold t3c ptc rtc at *
    simp only [List.cons_append, List.nil_append] at *
    simp (disch := first | omega | assumption | rfl | exact of_decide_eq_true rfl | exact ⟨rfl, rfl⟩ | (simp only [List.length_append, List.length_cons, List.length_nil]; omega) | fail) only [Wd, W2d, W3d, Int.toNat_natCast, List.nil_append, List.length_nil, List.length_cons, Nat.zero_add, Nat.mul_one, List.length_set, ne_eq, eq_self, not_true_eq_false, not_false_eq_true, decide_true, decide_false, Decidable.not_not, List.drop_zero, List.drop_succ_cons, List.take_zero, List.take_succ_cons, List.cons_append, List.set_cons_zero, List.set_cons_succ, List.drop_nil, List.append_nil, Nat.one_mul, Nat.reduceAdd, Nat.reduceMul, Nat.reduceSub, sm, live6_by]
  rw [decide_eq_true hs] at sm
  have ak := fun h => k_6asked (h := h) ha hb hc
  by_cases hz : firstE ([a, b, c].map askc) = 0
  · obtain ⟨ax, ay, bx, b_, cx, cy, rfl, rfl, rfl, h1, h2, h3, h4, h5, h6⟩ := small_rat ha hb hc hs hz
    rw [hz] at ak
    clear hz hs
    unfold t3c ptc rtc rt at *
    simp only [List.cons_append, List.nil_append] at *
    simp (disch := first | omega | assumption | rfl | exact of_decide_eq_true rfl | exact ⟨rfl, rfl⟩ | (simp only [List.length_append, List.length_cons, List.length_nil]; omega) | (apply Rz.mono; (focus (repeat' (first | assumption | apply Rz_area | apply Rz_far | apply Rz.div | apply Rz.sub | apply Rz.add | apply Rz.mul | (apply Rz_int <;> omega) | (apply Rz_divInt' <;> omega)))); omega) | fail) only [Wd, W2d, W3d, Int.toNat_natCast, List.nil_append, List.length_nil, List.length_cons, Nat.zero_add, Nat.mul_one, List.length_set, ne_eq, eq_self, not_true_eq_false, not_false_eq_true, decide_true, decide_false, Decidable.not_not, List.drop_zero, List.drop_succ_cons, List.take_zero, List.take_succ_cons, List.cons_append, List.set_cons_zero, List.set_cons_succ, List.drop_nil, List.append_nil, Nat.one_mul, Nat.reduceAdd, Nat.reduceMul, Nat.reduceSub, sm, ak, live6_by, k_near, k_6near, near_eq, eqa_r]
  · clear hs
    have w1 := fun h => k_nearE (h := h) ha hb hc hz
    generalize firstE ([a, b, c].map askc) = e at *
    unfold t3c ptc rtc at *
    simp only [List.cons_append, List.nil_append] at *
    simp (disch := first | omega | assumption | rfl | exact of_decide_eq_true rfl | exact ⟨rfl, rfl⟩ | (simp only [List.length_append, List.length_cons, List.length_nil]; omega) | (apply Rz.mono; (focus (repeat' (first | assumption | apply Rz_area | apply Rz_far | apply Rz.div | apply Rz.sub | apply Rz.add | apply Rz.mul | (apply Rz_int <;> omega) | (apply Rz_divInt' <;> omega)))); omega) | fail) only [Wd, W2d, W3d, Int.toNat_natCast, List.nil_append, List.length_nil, List.length_cons, Nat.zero_add, Nat.mul_one, List.length_set, ne_eq, eq_self, not_true_eq_false, not_false_eq_true, decide_true, decide_false, Decidable.not_not, List.drop_zero, List.drop_succ_cons, List.take_zero, List.take_succ_cons, List.cons_append, List.set_cons_zero, List.set_cons_succ, List.drop_nil, List.append_nil, Nat.one_mul, Nat.reduceAdd, Nat.reduceMul, Nat.reduceSub, sm, ak, live6_by, w1, eqa_z3', eqa_z6']
theorem consNearest_cv (t : T3) (n d : Int) (ht : t.ok) (hn : -9223372036854775808 ≤ n ∧ n ≤ 9223372036854775807) (hd : -9223372036854775808 ≤ d ∧ d ≤ 9223372036854775807) : cv gp fid.gussetlaw06_ConsNearest [.agg (t3c t), .int .i64 n, .int .i64 d] = some (.bool true) := by
  obtain ⟨a, b, c⟩ := t
  obtain ⟨ha, hb, hc⟩ := ht
  simp only at ha hb hc
  rw [gussetlaw06_ConsNearest.eq]
  unfold gussetlaw06_ConsNearest.f
  have sm := fun h => c_small6 (h := h) (t := (a, b, c))
  by_cases hs : sm6 (a, b, c)
  rotate_left
  · rw [decide_eq_false hs] at sm
    clear hs
    unfold t3c ptc rtc at *
    simp only [List.cons_append, List.nil_append] at *
    simp (disch := first | omega | assumption | rfl | exact of_decide_eq_true rfl | exact ⟨rfl, rfl⟩ | (simp only [List.length_append, List.length_cons, List.length_nil]; omega) | fail) only [Wd, W2d, W3d, Int.toNat_natCast, List.nil_append, List.length_nil, List.length_cons, Nat.zero_add, Nat.mul_one, List.length_set, ne_eq, eq_self, not_true_eq_false, not_false_eq_true, decide_true, decide_false, Decidable.not_not, List.drop_zero, List.drop_succ_cons, List.take_zero, List.take_succ_cons, List.cons_append, List.set_cons_zero, List.set_cons_succ, List.drop_nil, List.append_nil, Nat.one_mul, Nat.reduceAdd, Nat.reduceMul, Nat.reduceSub, sm, live6_by]
  rw [decide_eq_true hs] at sm
  have ak := fun h => k_6asked (h := h) ha hb hc
  by_cases hz : firstE ([a, b, c].map askc) = 0
  · obtain ⟨ax, ay, bx, b_, cx, cy, rfl, rfl, rfl, h1, h2, h3, h4, h5, h6⟩ := small_rat ha hb hc hs hz
    rw [hz] at ak
    clear hz hs
    unfold t3c ptc rtc rt at *
    simp only [List.cons_append, List.nil_append] at *
    by_cases r1 : d < 1
    · simp (disch := first | omega | assumption | rfl | exact of_decide_eq_true rfl | exact ⟨rfl, rfl⟩ | (simp only [List.length_append, List.length_cons, List.length_nil]; omega) | (apply Rz.mono; (focus (repeat' (first | assumption | apply Rz_area | apply Rz_far | apply Rz.div | apply Rz.sub | apply Rz.add | apply Rz.mul | (apply Rz_int <;> omega) | (apply Rz_divInt' <;> omega)))); omega) | fail) only [Wd, W2d, W3d, Int.toNat_natCast, List.nil_append, List.length_nil, List.length_cons, Nat.zero_add, Nat.mul_one, List.length_set, ne_eq, eq_self, not_true_eq_false, not_false_eq_true, decide_true, decide_false, Decidable.not_not, List.drop_zero, List.drop_succ_cons, List.take_zero, List.take_succ_cons, List.cons_append, List.set_cons_zero, List.set_cons_succ, List.drop_nil, List.append_nil, Nat.one_mul, Nat.reduceAdd, Nat.reduceMul, Nat.reduceSub, sm, ak, live6_by, r1]
    by_cases r2 : 1000 < d
    · simp (disch := first | omega | assumption | rfl | exact of_decide_eq_true rfl | exact ⟨rfl, rfl⟩ | (simp only [List.length_append, List.length_cons, List.length_nil]; omega) | (apply Rz.mono; (focus (repeat' (first | assumption | apply Rz_area | apply Rz_far | apply Rz.div | apply Rz.sub | apply Rz.add | apply Rz.mul | (apply Rz_int <;> omega) | (apply Rz_divInt' <;> omega)))); omega) | fail) only [Wd, W2d, W3d, Int.toNat_natCast, List.nil_append, List.length_nil, List.length_cons, Nat.zero_add, Nat.mul_one, List.length_set, ne_eq, eq_self, not_true_eq_false, not_false_eq_true, decide_true, decide_false, Decidable.not_not, List.drop_zero, List.drop_succ_cons, List.take_zero, List.take_succ_cons, List.cons_append, List.set_cons_zero, List.set_cons_succ, List.drop_nil, List.append_nil, Nat.one_mul, Nat.reduceAdd, Nat.reduceMul, Nat.reduceSub, sm, ak, live6_by, r2]
    by_cases r3 : n < 0
    · simp (disch := first | omega | assumption | rfl | exact of_decide_eq_true rfl | exact ⟨rfl, rfl⟩ | (simp only [List.length_append, List.length_cons, List.length_nil]; omega) | (apply Rz.mono; (focus (repeat' (first | assumption | apply Rz_area | apply Rz_far | apply Rz.div | apply Rz.sub | apply Rz.add | apply Rz.mul | (apply Rz_int <;> omega) | (apply Rz_divInt' <;> omega)))); omega) | fail) only [Wd, W2d, W3d, Int.toNat_natCast, List.nil_append, List.length_nil, List.length_cons, Nat.zero_add, Nat.mul_one, List.length_set, ne_eq, eq_self, not_true_eq_false, not_false_eq_true, decide_true, decide_false, Decidable.not_not, List.drop_zero, List.drop_succ_cons, List.take_zero, List.take_succ_cons, List.cons_append, List.set_cons_zero, List.set_cons_succ, List.drop_nil, List.append_nil, Nat.one_mul, Nat.reduceAdd, Nat.reduceMul, Nat.reduceSub, sm, ak, live6_by, r3]
    by_cases r4 : d < n
    · simp (disch := first | omega | assumption | rfl | exact of_decide_eq_true rfl | exact ⟨rfl, rfl⟩ | (simp only [List.length_append, List.length_cons, List.length_nil]; omega) | (apply Rz.mono; (focus (repeat' (first | assumption | apply Rz_area | apply Rz_far | apply Rz.div | apply Rz.sub | apply Rz.add | apply Rz.mul | (apply Rz_int <;> omega) | (apply Rz_divInt' <;> omega)))); omega) | fail) only [Wd, W2d, W3d, Int.toNat_natCast, List.nil_append, List.length_nil, List.length_cons, Nat.zero_add, Nat.mul_one, List.length_set, ne_eq, eq_self, not_true_eq_false, not_false_eq_true, decide_true, decide_false, Decidable.not_not, List.drop_zero, List.drop_succ_cons, List.take_zero, List.take_succ_cons, List.cons_append, List.set_cons_zero, List.set_cons_succ, List.drop_nil, List.append_nil, Nat.one_mul, Nat.reduceAdd, Nat.reduceMul, Nat.reduceSub, sm, ak, live6_by, r4]
    obtain ⟨hn1, hn2⟩ := hn
    obtain ⟨hd1, hd2⟩ := hd
    have d0 : d ≠ 0 := by omega
    have s0 : 0 ≤ Rat.divInt n d := Rat.divInt_nonneg (by omega) (by omega)
    have s1 : Rat.divInt n d ≤ 1 := divInt_le1 (by omega) (by omega)
    have fr := fun h => k_3frac (h := h) hn1 hn2 hd1 hd2 d0
    have le := cmpQ_le.2 (near_le (ax := ax) (ay := ay) (bx := bx) (b_ := b_) (cx := cx) (cy := cy) s0 s1)
    have nz : Rz (nearQ ax ay bx b_ cx cy) 20000 := by rw [near_eq]; unfold near6 minQ; (repeat' split) <;> (apply Rz.mono; (focus (repeat' (first | assumption | apply Rz_area | apply Rz_far | apply Rz.div | apply Rz.sub | apply Rz.add | apply Rz.mul | (apply Rz_int <;> omega) | (apply Rz_divInt' <;> omega)))); omega)
    simp (disch := first | omega | assumption | rfl | exact of_decide_eq_true rfl | exact ⟨rfl, rfl⟩ | (simp only [List.length_append, List.length_cons, List.length_nil]; omega) | (apply Rz.mono; (focus (repeat' (first | assumption | apply Rz_area | apply Rz_far | apply Rz.div | apply Rz.sub | apply Rz.add | apply Rz.mul | (apply Rz_int <;> omega) | (apply Rz_divInt' <;> omega)))); omega) | fail) only [Wd, W2d, W3d, Int.toNat_natCast, List.nil_append, List.length_nil, List.length_cons, Nat.zero_add, Nat.mul_one, List.length_set, ne_eq, eq_self, not_true_eq_false, not_false_eq_true, decide_true, decide_false, Decidable.not_not, List.drop_zero, List.drop_succ_cons, List.take_zero, List.take_succ_cons, List.cons_append, List.set_cons_zero, List.set_cons_succ, List.drop_nil, List.append_nil, Nat.one_mul, Nat.reduceAdd, Nat.reduceMul, Nat.reduceSub, sm, ak, live6_by, k_near, k_4minus, fr, k_4scale, k_4plus, k_6far, k_3order]
  · clear hs
    generalize firstE ([a, b, c].map askc) = e at *
    unfold t3c ptc rtc at *
    simp only [List.cons_append, List.nil_append] at *
    simp (disch := first | omega | assumption | rfl | exact of_decide_eq_true rfl | exact ⟨rfl, rfl⟩ | (simp only [List.length_append, List.length_cons, List.length_nil]; omega) | (apply Rz.mono; (focus (repeat' (first | assumption | apply Rz_area | apply Rz_far | apply Rz.div | apply Rz.sub | apply Rz.add | apply Rz.mul | (apply Rz_int <;> omega) | (apply Rz_divInt' <;> omega)))); omega) | fail) only [Wd, W2d, W3d, Int.toNat_natCast, List.nil_append, List.length_nil, List.length_cons, Nat.zero_add, Nat.mul_one, List.length_set, ne_eq, eq_self, not_true_eq_false, not_false_eq_true, decide_true, decide_false, Decidable.not_not, List.drop_zero, List.drop_succ_cons, List.take_zero, List.take_succ_cons, List.cons_append, List.set_cons_zero, List.set_cons_succ, List.drop_nil, List.append_nil, Nat.one_mul, Nat.reduceAdd, Nat.reduceMul, Nat.reduceSub, sm, ak, live6_by, ak]
theorem consAngles_cv (t : T3) (ht : t.ok) : cv gp fid.gussetlaw06_ConsAngles [.agg (t3c t)] = some (.bool true) := by
  obtain ⟨a, b, c⟩ := t
  obtain ⟨ha, hb, hc⟩ := ht
  simp only at ha hb hc
  rw [gussetlaw06_ConsAngles.eq]
  unfold gussetlaw06_ConsAngles.f
  have sm := fun h => c_small6 (h := h) (t := (a, b, c))
  by_cases hs : sm6 (a, b, c)
  rotate_left
  · rw [decide_eq_false hs] at sm
    clear hs
    unfold t3c ptc rtc at *
    simp only [List.cons_append, List.nil_append] at *
    simp (disch := first | omega | assumption | rfl | exact of_decide_eq_true rfl | exact ⟨rfl, rfl⟩ | (simp only [List.length_append, List.length_cons, List.length_nil]; omega) | fail) only [Wd, W2d, W3d, Int.toNat_natCast, List.nil_append, List.length_nil, List.length_cons, Nat.zero_add, Nat.mul_one, List.length_set, ne_eq, eq_self, not_true_eq_false, not_false_eq_true, decide_true, decide_false, Decidable.not_not, List.drop_zero, List.drop_succ_cons, List.take_zero, List.take_succ_cons, List.cons_append, List.set_cons_zero, List.set_cons_succ, List.drop_nil, List.append_nil, Nat.one_mul, Nat.reduceAdd, Nat.reduceMul, Nat.reduceSub, sm, live6_by]
  rw [decide_eq_true hs] at sm
  have ak := fun h => k_6asked (h := h) ha hb hc
  by_cases hz : firstE ([a, b, c].map askc) = 0
  · obtain ⟨ax, ay, bx, b_, cx, cy, rfl, rfl, rfl, h1, h2, h3, h4, h5, h6⟩ := small_rat ha hb hc hs hz
    rw [hz] at ak
    clear hz hs
    unfold t3c ptc rtc rt at *
    simp only [List.cons_append, List.nil_append] at *
    by_cases h0 : area ax ay bx b_ cx cy = 0
    · have s0 := rsgn_zero.2 h0
      simp (disch := first | omega | assumption | rfl | exact of_decide_eq_true rfl | exact ⟨rfl, rfl⟩ | (simp only [List.length_append, List.length_cons, List.length_nil]; omega) | (apply Rz.mono; (focus (repeat' (first | assumption | apply Rz_area | apply Rz_far | apply Rz.div | apply Rz.sub | apply Rz.add | apply Rz.mul | (apply Rz_int <;> omega) | (apply Rz_divInt' <;> omega)))); omega) | fail) only [Wd, W2d, W3d, Int.toNat_natCast, List.nil_append, List.length_nil, List.length_cons, Nat.zero_add, Nat.mul_one, List.length_set, ne_eq, eq_self, not_true_eq_false, not_false_eq_true, decide_true, decide_false, Decidable.not_not, List.drop_zero, List.drop_succ_cons, List.take_zero, List.take_succ_cons, List.cons_append, List.set_cons_zero, List.set_cons_succ, List.drop_nil, List.append_nil, Nat.one_mul, Nat.reduceAdd, Nat.reduceMul, Nat.reduceSub, sm, ak, live6_by, k_5orient]
    have s0 : ¬ rsgn (area ax ay bx b_ cx cy) = 0 := fun hh => h0 (rsgn_zero.1 hh)
    obtain ⟨n1, n2, n3⟩ := area_apart h0
    obtain ⟨f1, f2, f3⟩ := far_apart h0
    obtain ⟨g1, g2⟩ := angles (far_pos f1) (far_pos f2) (far_pos f3)
    rw [← sharp_S, ← sharp_S, ← sharp_S] at g1 g2
    have k1 := fun h => k_sharp (h := h) (h5.mono (m := 100) (by omega)) (h6.mono (m := 100) (by omega)) (h1.mono (m := 100) (by omega)) (h2.mono (m := 100) (by omega)) (h3.mono (m := 100) (by omega)) (h4.mono (m := 100) (by omega)) n3 (fun q => n1 ⟨q.1.symm, q.2.symm⟩)
    have k2 := fun h => k_sharp (h := h) (h1.mono (m := 100) (by omega)) (h2.mono (m := 100) (by omega)) (h3.mono (m := 100) (by omega)) (h4.mono (m := 100) (by omega)) (h5.mono (m := 100) (by omega)) (h6.mono (m := 100) (by omega)) n1 n2
    have k3 := fun h => k_sharp (h := h) (h3.mono (m := 100) (by omega)) (h4.mono (m := 100) (by omega)) (h5.mono (m := 100) (by omega)) (h6.mono (m := 100) (by omega)) (h1.mono (m := 100) (by omega)) (h2.mono (m := 100) (by omega)) (fun q => n2 ⟨q.1.symm, q.2.symm⟩) (fun q => n3 ⟨q.1.symm, q.2.symm⟩)
    generalize sharpQ cx cy ax ay bx b_ = u1 at *
    generalize sharpQ ax ay bx b_ cx cy = u2 at *
    generalize sharpQ bx b_ cx cy ax ay = u3 at *
    by_cases e1 : farQ ax ay bx b_ = farQ bx b_ cx cy
    · by_cases e2 : farQ bx b_ cx cy = farQ cx cy ax ay
      · cases u1 <;> cases u2 <;> cases u3 <;> first | (exfalso; exact g1 ⟨rfl, rfl, rfl⟩) | simp (disch := first | omega | assumption | rfl | exact of_decide_eq_true rfl | exact ⟨rfl, rfl⟩ | (simp only [List.length_append, List.length_cons, List.length_nil]; omega) | (apply Rz.mono; (focus (repeat' (first | assumption | apply Rz_area | apply Rz_far | apply Rz.div | apply Rz.sub | apply Rz.add | apply Rz.mul | (apply Rz_int <;> omega) | (apply Rz_divInt' <;> omega)))); omega) | fail) only [Wd, W2d, W3d, Int.toNat_natCast, List.nil_append, List.length_nil, List.length_cons, Nat.zero_add, Nat.mul_one, List.length_set, ne_eq, eq_self, not_true_eq_false, not_false_eq_true, decide_true, decide_false, Decidable.not_not, List.drop_zero, List.drop_succ_cons, List.take_zero, List.take_succ_cons, List.cons_append, List.set_cons_zero, List.set_cons_succ, List.drop_nil, List.append_nil, Nat.one_mul, Nat.reduceAdd, Nat.reduceMul, Nat.reduceSub, sm, ak, live6_by, k1, k2, k3, k_5orient, k_6far, eqa_r, gussetlaw06_ConsAngles.j0, e1, e2]
      · have e3 : ¬ (farQ ax ay bx b_ = farQ bx b_ cx cy ∧ farQ bx b_ cx cy = farQ cx cy ax ay) := fun q => e2 q.2
        have e4 : decide (farQ bx b_ cx cy = farQ cx cy ax ay) = false := decide_eq_false e2
        cases u1 <;> cases u2 <;> cases u3 <;> first | (exfalso; exact g1 ⟨rfl, rfl, rfl⟩) | (exfalso; simp only [Bool.false_eq_true, false_or] at g2; exact e3 g2) | simp (disch := first | omega | assumption | rfl | exact of_decide_eq_true rfl | exact ⟨rfl, rfl⟩ | (simp only [List.length_append, List.length_cons, List.length_nil]; omega) | (apply Rz.mono; (focus (repeat' (first | assumption | apply Rz_area | apply Rz_far | apply Rz.div | apply Rz.sub | apply Rz.add | apply Rz.mul | (apply Rz_int <;> omega) | (apply Rz_divInt' <;> omega)))); omega) | fail) only [Wd, W2d, W3d, Int.toNat_natCast, List.nil_append, List.length_nil, List.length_cons, Nat.zero_add, Nat.mul_one, List.length_set, ne_eq, eq_self, not_true_eq_false, not_false_eq_true, decide_true, decide_false, Decidable.not_not, List.drop_zero, List.drop_succ_cons, List.take_zero, List.take_succ_cons, List.cons_append, List.set_cons_zero, List.set_cons_succ, List.drop_nil, List.append_nil, Nat.one_mul, Nat.reduceAdd, Nat.reduceMul, Nat.reduceSub, sm, ak, live6_by, k1, k2, k3, k_5orient, k_6far, eqa_r, gussetlaw06_ConsAngles.j0, e4]
    · have e3 : ¬ (farQ ax ay bx b_ = farQ bx b_ cx cy ∧ farQ bx b_ cx cy = farQ cx cy ax ay) := fun q => e1 q.1
      cases u1 <;> cases u2 <;> cases u3 <;> first | (exfalso; exact g1 ⟨rfl, rfl, rfl⟩) | (exfalso; simp only [Bool.false_eq_true, false_or] at g2; exact e3 g2) | simp (disch := first | omega | assumption | rfl | exact of_decide_eq_true rfl | exact ⟨rfl, rfl⟩ | (simp only [List.length_append, List.length_cons, List.length_nil]; omega) | (apply Rz.mono; (focus (repeat' (first | assumption | apply Rz_area | apply Rz_far | apply Rz.div | apply Rz.sub | apply Rz.add | apply Rz.mul | (apply Rz_int <;> omega) | (apply Rz_divInt' <;> omega)))); omega) | fail) only [Wd, W2d, W3d, Int.toNat_natCast, List.nil_append, List.length_nil, List.length_cons, Nat.zero_add, Nat.mul_one, List.length_set, ne_eq, eq_self, not_true_eq_false, not_false_eq_true, decide_true, decide_false, Decidable.not_not, List.drop_zero, List.drop_succ_cons, List.take_zero, List.take_succ_cons, List.cons_append, List.set_cons_zero, List.set_cons_succ, List.drop_nil, List.append_nil, Nat.one_mul, Nat.reduceAdd, Nat.reduceMul, Nat.reduceSub, sm, ak, live6_by, k1, k2, k3, k_5orient, k_6far, eqa_r, gussetlaw06_ConsAngles.j0]
  · clear hs
    generalize firstE ([a, b, c].map askc) = e at *
    unfold t3c ptc rtc at *
    simp only [List.cons_append, List.nil_append] at *
    simp (disch := first | omega | assumption | rfl | exact of_decide_eq_true rfl | exact ⟨rfl, rfl⟩ | (simp only [List.length_append, List.length_cons, List.length_nil]; omega) | (apply Rz.mono; (focus (repeat' (first | assumption | apply Rz_area | apply Rz_far | apply Rz.div | apply Rz.sub | apply Rz.add | apply Rz.mul | (apply Rz_int <;> omega) | (apply Rz_divInt' <;> omega)))); omega) | fail) only [Wd, W2d, W3d, Int.toNat_natCast, List.nil_append, List.length_nil, List.length_cons, Nat.zero_add, Nat.mul_one, List.length_set, ne_eq, eq_self, not_true_eq_false, not_false_eq_true, decide_true, decide_false, Decidable.not_not, List.drop_zero, List.drop_succ_cons, List.take_zero, List.take_succ_cons, List.cons_append, List.set_cons_zero, List.set_cons_succ, List.drop_nil, List.append_nil, Nat.one_mul, Nat.reduceAdd, Nat.reduceMul, Nat.reduceSub, sm, ak, live6_by, ak]
theorem consEven_cv (t : T3) (ht : t.ok) : cv gp fid.gussetlaw06_ConsEven [.agg (t3c t)] = some (.bool true) := by
  obtain ⟨a, b, c⟩ := t
  obtain ⟨ha, hb, hc⟩ := ht
  simp only at ha hb hc
  rw [gussetlaw06_ConsEven.eq]
  unfold gussetlaw06_ConsEven.f
  have sm := fun h => c_small6 (h := h) (t := (a, b, c))
  by_cases hs : sm6 (a, b, c)
  rotate_left
  · rw [decide_eq_false hs] at sm
    clear hs
    unfold t3c ptc rtc at *
    simp only [List.cons_append, List.nil_append] at *
    simp (disch := first | omega | assumption | rfl | exact of_decide_eq_true rfl | exact ⟨rfl, rfl⟩ | (simp only [List.length_append, List.length_cons, List.length_nil]; omega) | fail) only [Wd, W2d, W3d, Int.toNat_natCast, List.nil_append, List.length_nil, List.length_cons, Nat.zero_add, Nat.mul_one, List.length_set, ne_eq, eq_self, not_true_eq_false, not_false_eq_true, decide_true, decide_false, Decidable.not_not, List.drop_zero, List.drop_succ_cons, List.take_zero, List.take_succ_cons, List.cons_append, List.set_cons_zero, List.set_cons_succ, List.drop_nil, List.append_nil, Nat.one_mul, Nat.reduceAdd, Nat.reduceMul, Nat.reduceSub, sm, live6_by]
  rw [decide_eq_true hs] at sm
  have ak := fun h => k_6asked (h := h) ha hb hc
  by_cases hz : firstE ([a, b, c].map askc) = 0
  · obtain ⟨ax, ay, bx, b_, cx, cy, rfl, rfl, rfl, h1, h2, h3, h4, h5, h6⟩ := small_rat ha hb hc hs hz
    rw [hz] at ak
    clear hz hs
    unfold t3c ptc rtc rt at *
    simp only [List.cons_append, List.nil_append] at *
    have mx : Rz ((ax + bx) * (1 / 2)) 200 := by rw [← half_eq]; (apply Rz.mono; (focus (repeat' (first | assumption | apply Rz_area | apply Rz_far | apply Rz.div | apply Rz.sub | apply Rz.add | apply Rz.mul | (apply Rz_int <;> omega) | (apply Rz_divInt' <;> omega)))); omega)
    have my : Rz ((ay + b_) * (1 / 2)) 200 := by rw [← half_eq]; (apply Rz.mono; (focus (repeat' (first | assumption | apply Rz_area | apply Rz_far | apply Rz.div | apply Rz.sub | apply Rz.add | apply Rz.mul | (apply Rz_int <;> omega) | (apply Rz_divInt' <;> omega)))); omega)
    have on := fun h => k_5on (h := h) (h1.mono (m := 2000) (by omega)) (h2.mono (m := 2000) (by omega)) (h3.mono (m := 2000) (by omega)) (h4.mono (m := 2000) (by omega)) (mx.mono (m := 2000) (by omega)) (my.mono (m := 2000) (by omega))
    rw [decide_eq_true mid_on] at on
    have mf : ¬ ¬ (farQ ((ax + bx) * (1 / 2)) ((ay + b_) * (1 / 2)) ax ay = farQ ((ax + bx) * (1 / 2)) ((ay + b_) * (1 / 2)) bx b_) := not_not_intro mid_far
    by_cases h0 : area ax ay bx b_ cx cy = 0
    · have h0' : area cx cy ax ay bx b_ = 0 := by rw [area_rot]; exact h0
      simp (disch := first | omega | assumption | rfl | exact of_decide_eq_true rfl | exact ⟨rfl, rfl⟩ | (simp only [List.length_append, List.length_cons, List.length_nil]; omega) | (apply Rz.mono; (focus (repeat' (first | assumption | apply Rz_area | apply Rz_far | apply Rz.div | apply Rz.sub | apply Rz.add | apply Rz.mul | (apply Rz_int <;> omega) | (apply Rz_divInt' <;> omega)))); omega) | fail) only [Wd, W2d, W3d, Int.toNat_natCast, List.nil_append, List.length_nil, List.length_cons, Nat.zero_add, Nat.mul_one, List.length_set, ne_eq, eq_self, not_true_eq_false, not_false_eq_true, decide_true, decide_false, Decidable.not_not, List.drop_zero, List.drop_succ_cons, List.take_zero, List.take_succ_cons, List.cons_append, List.set_cons_zero, List.set_cons_succ, List.drop_nil, List.append_nil, Nat.one_mul, Nat.reduceAdd, Nat.reduceMul, Nat.reduceSub, sm, ak, live6_by, k_middle, k_6far, neqa_r, neqa_p, on, k_centre0, eqa_z6', nz6, not_true_eq_false]
    · have h0' : area cx cy ax ay bx b_ ≠ 0 := by rw [area_rot]; exact h0
      obtain ⟨r1, r2⟩ := rad_all h0
      have r0 := rad_cen h0
      obtain ⟨t1, t2⟩ := cen_rot h0
      have cx' : Rz (cen6X ax ay bx b_ cx cy) 3000 := by unfold cen6X; (apply Rz.mono; (focus (repeat' (first | assumption | apply Rz_area | apply Rz_far | apply Rz.div | apply Rz.sub | apply Rz.add | apply Rz.mul | (apply Rz_int <;> omega) | (apply Rz_divInt' <;> omega)))); omega)
      have cy' : Rz (cen6Y ax ay bx b_ cx cy) 3000 := by unfold cen6Y; (apply Rz.mono; (focus (repeat' (first | assumption | apply Rz_area | apply Rz_far | apply Rz.div | apply Rz.sub | apply Rz.add | apply Rz.mul | (apply Rz_int <;> omega) | (apply Rz_divInt' <;> omega)))); omega)
      simp (disch := first | omega | assumption | rfl | exact of_decide_eq_true rfl | exact ⟨rfl, rfl⟩ | (simp only [List.length_append, List.length_cons, List.length_nil]; omega) | (apply Rz.mono; (focus (repeat' (first | assumption | apply Rz_area | apply Rz_far | apply Rz.div | apply Rz.sub | apply Rz.add | apply Rz.mul | (apply Rz_int <;> omega) | (apply Rz_divInt' <;> omega)))); omega) | fail) only [Wd, W2d, W3d, Int.toNat_natCast, List.nil_append, List.length_nil, List.length_cons, Nat.zero_add, Nat.mul_one, List.length_set, ne_eq, eq_self, not_true_eq_false, not_false_eq_true, decide_true, decide_false, Decidable.not_not, List.drop_zero, List.drop_succ_cons, List.take_zero, List.take_succ_cons, List.cons_append, List.set_cons_zero, List.set_cons_succ, List.drop_nil, List.append_nil, Nat.one_mul, Nat.reduceAdd, Nat.reduceMul, Nat.reduceSub, sm, ak, live6_by, k_middle, k_6far, neqa_r, neqa_p, on, k_centre, cenX_eq, cenY_eq, t1, t2, r0, r1, r2, eqa_r, and_self]
  · clear hs
    generalize firstE ([a, b, c].map askc) = e at *
    unfold t3c ptc rtc at *
    simp only [List.cons_append, List.nil_append] at *
    simp (disch := first | omega | assumption | rfl | exact of_decide_eq_true rfl | exact ⟨rfl, rfl⟩ | (simp only [List.length_append, List.length_cons, List.length_nil]; omega) | (apply Rz.mono; (focus (repeat' (first | assumption | apply Rz_area | apply Rz_far | apply Rz.div | apply Rz.sub | apply Rz.add | apply Rz.mul | (apply Rz_int <;> omega) | (apply Rz_divInt' <;> omega)))); omega) | fail) only [Wd, W2d, W3d, Int.toNat_natCast, List.nil_append, List.length_nil, List.length_cons, Nat.zero_add, Nat.mul_one, List.length_set, ne_eq, eq_self, not_true_eq_false, not_false_eq_true, decide_true, decide_false, Decidable.not_not, List.drop_zero, List.drop_succ_cons, List.take_zero, List.take_succ_cons, List.cons_append, List.set_cons_zero, List.set_cons_succ, List.drop_nil, List.append_nil, Nat.one_mul, Nat.reduceAdd, Nat.reduceMul, Nat.reduceSub, sm, ak, live6_by, ak]
theorem consPoints_cv (t : T3) (ht : t.ok) : cv gp fid.gussetlaw06_ConsPoints [.agg (t3c t)] = some (.bool true) := by
  obtain ⟨a, b, c⟩ := t
  obtain ⟨ha, hb, hc⟩ := ht
  simp only at ha hb hc
  rw [gussetlaw06_ConsPoints.eq]
  unfold gussetlaw06_ConsPoints.f
  have sm := fun h => c_small6 (h := h) (t := (a, b, c))
  by_cases hs : sm6 (a, b, c)
  rotate_left
  · rw [decide_eq_false hs] at sm
    clear hs
    unfold t3c ptc rtc at *
    simp only [List.cons_append, List.nil_append] at *
    simp (disch := first | omega | assumption | rfl | exact of_decide_eq_true rfl | exact ⟨rfl, rfl⟩ | (simp only [List.length_append, List.length_cons, List.length_nil]; omega) | fail) only [Wd, W2d, W3d, Int.toNat_natCast, List.nil_append, List.length_nil, List.length_cons, Nat.zero_add, Nat.mul_one, List.length_set, ne_eq, eq_self, not_true_eq_false, not_false_eq_true, decide_true, decide_false, Decidable.not_not, List.drop_zero, List.drop_succ_cons, List.take_zero, List.take_succ_cons, List.cons_append, List.set_cons_zero, List.set_cons_succ, List.drop_nil, List.append_nil, Nat.one_mul, Nat.reduceAdd, Nat.reduceMul, Nat.reduceSub, sm, live6_by]
  rw [decide_eq_true hs] at sm
  have ak := fun h => k_6asked (h := h) ha hb hc
  by_cases hz : firstE ([a, b, c].map askc) = 0
  · obtain ⟨ax, ay, bx, b_, cx, cy, rfl, rfl, rfl, h1, h2, h3, h4, h5, h6⟩ := small_rat ha hb hc hs hz
    have tw := fun h f => k_5asked2 (h := h) (f := f) ha hb
    have e2 : firstE ([(rt ax, rt ay), (rt bx, rt b_)].map askc) = 0 := by rw [firstE2, askc_rat (h1.mono (by omega)) (h2.mono (by omega)), askc_rat (h3.mono (by omega)) (h4.mono (by omega))]; rfl
    rw [e2] at tw
    clear e2
    rw [hz] at ak
    clear hz hs
    unfold t3c ptc rtc rt at *
    simp only [List.cons_append, List.nil_append] at *
    by_cases h0 : area ax ay bx b_ cx cy = 0
    · have s0 := rsgn_zero.2 h0
      simp (disch := first | omega | assumption | rfl | exact of_decide_eq_true rfl | exact ⟨rfl, rfl⟩ | (simp only [List.length_append, List.length_cons, List.length_nil]; omega) | (apply Rz.mono; (focus (repeat' (first | assumption | apply Rz_area | apply Rz_far | apply Rz.div | apply Rz.sub | apply Rz.add | apply Rz.mul | (apply Rz_int <;> omega) | (apply Rz_divInt' <;> omega)))); omega) | fail) only [Wd, W2d, W3d, Int.toNat_natCast, List.nil_append, List.length_nil, List.length_cons, Nat.zero_add, Nat.mul_one, List.length_set, ne_eq, eq_self, not_true_eq_false, not_false_eq_true, decide_true, decide_false, Decidable.not_not, List.drop_zero, List.drop_succ_cons, List.take_zero, List.take_succ_cons, List.cons_append, List.set_cons_zero, List.set_cons_succ, List.drop_nil, List.append_nil, Nat.one_mul, Nat.reduceAdd, Nat.reduceMul, Nat.reduceSub, sm, ak, live6_by, gussetlaw06_ConsPoints.j0, tw, k_middle, k_far, k_centre0, k_6middle, k_6far, half_eq, neqa_p, neqa_r, and_self, k_5orient, eqa_z6']
    · have s0 : ¬ rsgn (area ax ay bx b_ cx cy) = 0 := fun hh => h0 (rsgn_zero.1 hh)
      simp (disch := first | omega | assumption | rfl | exact of_decide_eq_true rfl | exact ⟨rfl, rfl⟩ | (simp only [List.length_append, List.length_cons, List.length_nil]; omega) | (apply Rz.mono; (focus (repeat' (first | assumption | apply Rz_area | apply Rz_far | apply Rz.div | apply Rz.sub | apply Rz.add | apply Rz.mul | (apply Rz_int <;> omega) | (apply Rz_divInt' <;> omega)))); omega) | fail) only [Wd, W2d, W3d, Int.toNat_natCast, List.nil_append, List.length_nil, List.length_cons, Nat.zero_add, Nat.mul_one, List.length_set, ne_eq, eq_self, not_true_eq_false, not_false_eq_true, decide_true, decide_false, Decidable.not_not, List.drop_zero, List.drop_succ_cons, List.take_zero, List.take_succ_cons, List.cons_append, List.set_cons_zero, List.set_cons_succ, List.drop_nil, List.append_nil, Nat.one_mul, Nat.reduceAdd, Nat.reduceMul, Nat.reduceSub, sm, ak, live6_by, gussetlaw06_ConsPoints.j0, tw, k_middle, k_far, k_centre, k_6middle, k_6far, half_eq, neqa_p, neqa_r, and_self, k_5orient, k_6centre, cenX_eq, cenY_eq, eqa_p]
  · have ce := fun h => k_centreE (h := h) ha hb hc hz
    have tw := fun h f => k_5asked2 (h := h) (f := f) ha hb
    by_cases h2 : firstE ([a, b].map askc) = 0
    · obtain ⟨ax, ay, bx, b_, rfl, rfl, h1, h2', h3, h4⟩ := small_rat2 ha hb hs h2
      rw [h2] at tw
      clear hs h2
      generalize firstE ([(rt ax, rt ay), (rt bx, rt b_), c].map askc) = e at *
      unfold t3c ptc rtc rt at *
      simp only [List.cons_append, List.nil_append] at *
      simp (disch := first | omega | assumption | rfl | exact of_decide_eq_true rfl | exact ⟨rfl, rfl⟩ | (simp only [List.length_append, List.length_cons, List.length_nil]; omega) | (apply Rz.mono; (focus (repeat' (first | assumption | apply Rz_area | apply Rz_far | apply Rz.div | apply Rz.sub | apply Rz.add | apply Rz.mul | (apply Rz_int <;> omega) | (apply Rz_divInt' <;> omega)))); omega) | fail) only [Wd, W2d, W3d, Int.toNat_natCast, List.nil_append, List.length_nil, List.length_cons, Nat.zero_add, Nat.mul_one, List.length_set, ne_eq, eq_self, not_true_eq_false, not_false_eq_true, decide_true, decide_false, Decidable.not_not, List.drop_zero, List.drop_succ_cons, List.take_zero, List.take_succ_cons, List.cons_append, List.set_cons_zero, List.set_cons_succ, List.drop_nil, List.append_nil, Nat.one_mul, Nat.reduceAdd, Nat.reduceMul, Nat.reduceSub, sm, ak, live6_by, gussetlaw06_ConsPoints.j0, tw, ce, k_middle, k_far, k_6middle, k_6far, half_eq, neqa_p, neqa_r, and_self, eqa_z6']
    · have me := fun h => k_middleE (h := h) ha hb h2
      have fe := fun h => k_farE (h := h) ha hb h2
      clear hs
      generalize firstE ([a, b].map askc) = e2 at *
      generalize firstE ([a, b, c].map askc) = e at *
      unfold t3c ptc rtc at *
      simp only [List.cons_append, List.nil_append] at *
      simp (disch := first | omega | assumption | rfl | exact of_decide_eq_true rfl | exact ⟨rfl, rfl⟩ | (simp only [List.length_append, List.length_cons, List.length_nil]; omega) | (apply Rz.mono; (focus (repeat' (first | assumption | apply Rz_area | apply Rz_far | apply Rz.div | apply Rz.sub | apply Rz.add | apply Rz.mul | (apply Rz_int <;> omega) | (apply Rz_divInt' <;> omega)))); omega) | fail) only [Wd, W2d, W3d, Int.toNat_natCast, List.nil_append, List.length_nil, List.length_cons, Nat.zero_add, Nat.mul_one, List.length_set, ne_eq, eq_self, not_true_eq_false, not_false_eq_true, decide_true, decide_false, Decidable.not_not, List.drop_zero, List.drop_succ_cons, List.take_zero, List.take_succ_cons, List.cons_append, List.set_cons_zero, List.set_cons_succ, List.drop_nil, List.append_nil, Nat.one_mul, Nat.reduceAdd, Nat.reduceMul, Nat.reduceSub, sm, ak, live6_by, gussetlaw06_ConsPoints.j0, tw, ce, me, fe, eqa_z6']
theorem consParts_cv (t : T3) (p : PT) (ht : t.ok) (hp : p.ok) : cv gp fid.gussetlaw06_ConsParts [.agg (t3c t), .agg (ptc p)] = some (.bool true) := by
  obtain ⟨a, b, c⟩ := t
  obtain ⟨p1, p2⟩ := p
  obtain ⟨ha, hb, hc⟩ := ht
  simp only at ha hb hc
  rw [gussetlaw06_ConsParts.eq]
  unfold gussetlaw06_ConsParts.f
  have sm := fun h => c_small6 (h := h) (t := (a, b, c))
  have sx := fun h => c_short6 (h := h) (t := p1)
  have sy := fun h => c_short6 (h := h) (t := p2)
  have ap := fun h f => k_5asked1 (h := h) (f := f) hp
  by_cases hs : sm6 (a, b, c)
  rotate_left
  · rw [decide_eq_false hs] at sm
    clear hs
    unfold t3c ptc rtc at *
    simp only [List.cons_append, List.nil_append] at *
    simp (disch := first | omega | assumption | rfl | exact of_decide_eq_true rfl | exact ⟨rfl, rfl⟩ | (simp only [List.length_append, List.length_cons, List.length_nil]; omega) | fail) only [Wd, W2d, W3d, Int.toNat_natCast, List.nil_append, List.length_nil, List.length_cons, Nat.zero_add, Nat.mul_one, List.length_set, ne_eq, eq_self, not_true_eq_false, not_false_eq_true, decide_true, decide_false, Decidable.not_not, List.drop_zero, List.drop_succ_cons, List.take_zero, List.take_succ_cons, List.cons_append, List.set_cons_zero, List.set_cons_succ, List.drop_nil, List.append_nil, Nat.one_mul, Nat.reduceAdd, Nat.reduceMul, Nat.reduceSub, sm, live6_by]
  rw [decide_eq_true hs] at sm
  by_cases hx : sm1 p1
  rotate_left
  · rw [decide_eq_false hx] at sx
    clear hs hx
    unfold t3c ptc rtc at *
    simp only [List.cons_append, List.nil_append] at *
    simp (disch := first | omega | assumption | rfl | exact of_decide_eq_true rfl | exact ⟨rfl, rfl⟩ | (simp only [List.length_append, List.length_cons, List.length_nil]; omega) | fail) only [Wd, W2d, W3d, Int.toNat_natCast, List.nil_append, List.length_nil, List.length_cons, Nat.zero_add, Nat.mul_one, List.length_set, ne_eq, eq_self, not_true_eq_false, not_false_eq_true, decide_true, decide_false, Decidable.not_not, List.drop_zero, List.drop_succ_cons, List.take_zero, List.take_succ_cons, List.cons_append, List.set_cons_zero, List.set_cons_succ, List.drop_nil, List.append_nil, Nat.one_mul, Nat.reduceAdd, Nat.reduceMul, Nat.reduceSub, sm, sx, live6_by]
  rw [decide_eq_true hx] at sx
  by_cases hy : sm1 p2
  rotate_left
  · rw [decide_eq_false hy] at sy
    clear hs hx hy
    unfold t3c ptc rtc at *
    simp only [List.cons_append, List.nil_append] at *
    simp (disch := first | omega | assumption | rfl | exact of_decide_eq_true rfl | exact ⟨rfl, rfl⟩ | (simp only [List.length_append, List.length_cons, List.length_nil]; omega) | fail) only [Wd, W2d, W3d, Int.toNat_natCast, List.nil_append, List.length_nil, List.length_cons, Nat.zero_add, Nat.mul_one, List.length_set, ne_eq, eq_self, not_true_eq_false, not_false_eq_true, decide_true, decide_false, Decidable.not_not, List.drop_zero, List.drop_succ_cons, List.take_zero, List.take_succ_cons, List.cons_append, List.set_cons_zero, List.set_cons_succ, List.drop_nil, List.append_nil, Nat.one_mul, Nat.reduceAdd, Nat.reduceMul, Nat.reduceSub, sm, sx, sy, live6_by]
  rw [decide_eq_true hy] at sy
  have ak := fun h => k_6asked (h := h) ha hb hc
  by_cases hz : firstE ([a, b, c].map askc) = 0
  · obtain ⟨ax, ay, bx, b_, cx, cy, rfl, rfl, rfl, h1, h2, h3, h4, h5, h6⟩ := small_rat ha hb hc hs hz
    rw [hz] at ak
    by_cases hw : askc (p1, p2) = 0
    · rw [hw] at ap
      have hw' : pchk (p1, p2) = 0 := by
        rw [← askc_small ⟨by have := hx.1; show p1.m.length ≤ 100; omega, by have := hx.2; show p1.d.length ≤ 100; omega⟩ ⟨by have := hy.1; show p2.m.length ≤ 100; omega, by have := hy.2; show p2.d.length ≤ 100; omega⟩]; exact hw
      obtain ⟨px, py, ep, h7, h8⟩ := PT.ratz hp hw' hx hy
      obtain ⟨rfl, rfl⟩ := Prod.mk.injEq .. ▸ ep
      clear hz hs hx hy hw hw' ep
      have pt := @parts ax ay bx b_ cx cy px py
      unfold t3c ptc rtc rt at *
      simp only [List.cons_append, List.nil_append] at *
      simp (disch := first | omega | assumption | rfl | exact of_decide_eq_true rfl | exact ⟨rfl, rfl⟩ | (simp only [List.length_append, List.length_cons, List.length_nil]; omega) | (apply Rz.mono; (focus (repeat' (first | assumption | apply Rz_area | apply Rz_far | apply Rz.div | apply Rz.sub | apply Rz.add | apply Rz.mul | (apply Rz_int <;> omega) | (apply Rz_divInt' <;> omega)))); omega) | fail) only [Wd, W2d, W3d, Int.toNat_natCast, List.nil_append, List.length_nil, List.length_cons, Nat.zero_add, Nat.mul_one, List.length_set, ne_eq, eq_self, not_true_eq_false, not_false_eq_true, decide_true, decide_false, Decidable.not_not, List.drop_zero, List.drop_succ_cons, List.take_zero, List.take_succ_cons, List.cons_append, List.set_cons_zero, List.set_cons_succ, List.drop_nil, List.append_nil, Nat.one_mul, Nat.reduceAdd, Nat.reduceMul, Nat.reduceSub, sm, sx, sy, ak, ap, live6_by, k_carea, k_3sum, ← pt, eqa_r]
    · clear hs hz hx hy
      generalize askc (p1, p2) = e at *
      unfold t3c ptc rtc at *
      simp only [List.cons_append, List.nil_append] at *
      simp (disch := first | omega | assumption | rfl | exact of_decide_eq_true rfl | exact ⟨rfl, rfl⟩ | (simp only [List.length_append, List.length_cons, List.length_nil]; omega) | (apply Rz.mono; (focus (repeat' (first | assumption | apply Rz_area | apply Rz_far | apply Rz.div | apply Rz.sub | apply Rz.add | apply Rz.mul | (apply Rz_int <;> omega) | (apply Rz_divInt' <;> omega)))); omega) | fail) only [Wd, W2d, W3d, Int.toNat_natCast, List.nil_append, List.length_nil, List.length_cons, Nat.zero_add, Nat.mul_one, List.length_set, ne_eq, eq_self, not_true_eq_false, not_false_eq_true, decide_true, decide_false, Decidable.not_not, List.drop_zero, List.drop_succ_cons, List.take_zero, List.take_succ_cons, List.cons_append, List.set_cons_zero, List.set_cons_succ, List.drop_nil, List.append_nil, Nat.one_mul, Nat.reduceAdd, Nat.reduceMul, Nat.reduceSub, sm, sx, sy, ak, ap, live6_by]
  · clear hs hx hy
    generalize firstE ([a, b, c].map askc) = e at *
    unfold t3c ptc rtc at *
    simp only [List.cons_append, List.nil_append] at *
    simp (disch := first | omega | assumption | rfl | exact of_decide_eq_true rfl | exact ⟨rfl, rfl⟩ | (simp only [List.length_append, List.length_cons, List.length_nil]; omega) | (apply Rz.mono; (focus (repeat' (first | assumption | apply Rz_area | apply Rz_far | apply Rz.div | apply Rz.sub | apply Rz.add | apply Rz.mul | (apply Rz_int <;> omega) | (apply Rz_divInt' <;> omega)))); omega) | fail) only [Wd, W2d, W3d, Int.toNat_natCast, List.nil_append, List.length_nil, List.length_cons, Nat.zero_add, Nat.mul_one, List.length_set, ne_eq, eq_self, not_true_eq_false, not_false_eq_true, decide_true, decide_false, Decidable.not_not, List.drop_zero, List.drop_succ_cons, List.take_zero, List.take_succ_cons, List.cons_append, List.set_cons_zero, List.set_cons_succ, List.drop_nil, List.append_nil, Nat.one_mul, Nat.reduceAdd, Nat.reduceMul, Nat.reduceSub, sm, sx, sy, ak, live6_by]
end Go.Proofs.YtbpikdkfeemdaaaGreat.Am