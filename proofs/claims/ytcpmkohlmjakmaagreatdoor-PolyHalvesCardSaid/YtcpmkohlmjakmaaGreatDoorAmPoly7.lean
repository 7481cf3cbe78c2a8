import Derived.Test.YtcpmkohlmjakmaaGreatDoorAmPoly6
/- Integrals over triangles: the document's, and what it asks. -/
set_option linter.unusedVariables false
set_option maxRecDepth 10000
set_option linter.unusedSimpArgs false
namespace Go.Proofs.YtcpmkohlmjakmaaGreatDoor.Am
open Go

theorem Sz_wg {g : G6} {V b a0 a1 a2 : Nat} (hg : Gz g V b) (hs : a0 + a1 + a2 ≤ 2) : Sz (wgQ g a0 a1 a2) (V * 720) (b + 9) := by
  have t0 := hg.z0.mul (Sz_pw (a := a0 + 2) (b := a1) (c := a2) (by omega))
  have t1 := hg.z1.mul (Sz_pw (a := a0 + 1) (b := a1 + 1) (c := a2) (by omega))
  have t2 := hg.z2.mul (Sz_pw (a := a0 + 1) (b := a1) (c := a2 + 1) (by omega))
  have t3 := hg.z3.mul (Sz_pw (a := a0) (b := a1 + 2) (c := a2) (by omega))
  have t4 := hg.z4.mul (Sz_pw (a := a0) (b := a1 + 1) (c := a2 + 1) (by omega))
  have t5 := hg.z5.mul (Sz_pw (a := a0) (b := a1) (c := a2 + 2) (by omega))
  have zz : Sz ((0 : Int) : Rat) (V * 720) (b + 2) := Sz_zero
  exact ((((((zz.add t0).add (t1.up (by omega))).add (t2.up (by omega))).add (t3.up (by omega))).add (t4.up (by omega))).add (t5.up (by omega))).up (by omega)
structure Gzs (f : P6) (ax ay bx b_ cx cy : Rat) (V E : Nat) : Prop where
  g : Gz (formQ f ax ay bx b_ cx cy) V 309
  a : Sz (absQ (area ax ay bx b_ cx cy)) E 203
  v0 : 0 < V
  e0 : 0 < E
  vl : V < P256 1802
  el : E < P256 1200
theorem gzs {f : P6} {ax ay bx b_ cx cy : Rat} (hf : f.Z 100) (t : Tz ax ay bx b_ cx cy 100) : ∃ V E, Gzs f ax ay bx b_ cx cy V E := by
  obtain ⟨F, f0, fl, pz⟩ := pol_F hf
  obtain ⟨W, w0, wl, tw⟩ := tri_W t
  have wl2 := w2_lt wl
  have w02 : 0 < W * 2 := by omega
  have dl := pw_mul (pw_mul fl wl2) wl2
  have el := pw_mul wl wl
  exact ⟨F * (W * 2) * (W * 2), W * W, Gz_form pz tw, Sz_abs (Sz_area tw), Nat.mul_pos (Nat.mul_pos f0 w02) w02, Nat.mul_pos w0 w0, pw_cast dl rfl, pw_cast el rfl⟩
section
variable {h : Heap} {f : P6} {ax ay bx b_ cx cy : Rat}
theorem k_rInt (hf : f.Z 100) (t : Tz ax ay bx b_ cx cy 100) : byVal (callW gp) h fid.gussetref07_Integral [sa f, ta ax ay bx b_ cx cy] = some (ra (refInt (formQ f ax ay bx b_ cx cy) (absQ (area ax ay bx b_ cx cy)))) := byVal_imm (imm_L2 imm_sa imm_ta) (by
  obtain ⟨V, E, s⟩ := gzs hf t
  have kf := fun h => k_form (h := h) hf t
  have kt := fun h => k_twice (h := h) t
  have kw : ∀ h, byVal (callW gp) h fid.gussetref07_weigh [.agg (gc (formQ f ax ay bx b_ cx cy)), .agg [.int .i64 0, .int .i64 0, .int .i64 0]] = some (ra (wgQ (formQ f ax ay bx b_ cx cy) 0 0 0)) := fun h => c_weigh (a0 := 0) (a1 := 0) (a2 := 0) s.g s.v0 s.vl (by omega) (by omega)
  have r1 := s.a.rz s.e0 s.el (n := 20000) (by omega)
  have r2 := (Sz_wg s.g (a0 := 0) (a1 := 0) (a2 := 0) (by omega)).rz (by have := s.v0; omega) (pw_mul (b := 720) (n := 2) s.vl (by decide)) (n := 20000) (by omega)
  clear s
  rw [gussetref07_Integral.eq]
  unfold gussetref07_Integral.f refInt
  unfold sa at kf ⊢
  unfold ta at kf kt ⊢
  generalize formQ f ax ay bx b_ cx cy = g at *
  generalize absQ (area ax ay bx b_ cx cy) = A at *
  generalize wgQ g 0 0 0 = q at *
  simp only [cells6, tcells] at kf kt ⊢
  simp (disch := first | exact dD | fail) only [Wd, W2d, W3d, Nat.reduceAdd, Nat.reduceMul, Nat.reduceSub, kf, kt, kw, k_3mul])
theorem k_rLoad (hf : f.Z 100) (t : Tz ax ay bx b_ cx cy 100) : byVal (callW gp) h fid.gussetref07_Loads [sa f, ta ax ay bx b_ cx cy] = some (.agg (ld3 (refLoad (formQ f ax ay bx b_ cx cy) (absQ (area ax ay bx b_ cx cy))))) := byVal_imm (imm_L2 imm_sa imm_ta) (by
  obtain ⟨V, E, s⟩ := gzs hf t
  have kf := fun h => k_form (h := h) hf t
  have kt := fun h => k_twice (h := h) t
  have kw0 : ∀ h, byVal (callW gp) h fid.gussetref07_weigh [.agg (gc (formQ f ax ay bx b_ cx cy)), .agg [.int .i64 1, .int .i64 0, .int .i64 0]] = some (ra (wgQ (formQ f ax ay bx b_ cx cy) 1 0 0)) := fun h => c_weigh (a0 := 1) (a1 := 0) (a2 := 0) s.g s.v0 s.vl (by omega) (by omega)
  have kw1 : ∀ h, byVal (callW gp) h fid.gussetref07_weigh [.agg (gc (formQ f ax ay bx b_ cx cy)), .agg [.int .i64 0, .int .i64 1, .int .i64 0]] = some (ra (wgQ (formQ f ax ay bx b_ cx cy) 0 1 0)) := fun h => c_weigh (a0 := 0) (a1 := 1) (a2 := 0) s.g s.v0 s.vl (by omega) (by omega)
  have kw2 : ∀ h, byVal (callW gp) h fid.gussetref07_weigh [.agg (gc (formQ f ax ay bx b_ cx cy)), .agg [.int .i64 0, .int .i64 0, .int .i64 1]] = some (ra (wgQ (formQ f ax ay bx b_ cx cy) 0 0 1)) := fun h => c_weigh (a0 := 0) (a1 := 0) (a2 := 1) s.g s.v0 s.vl (by omega) (by omega)
  have vp : 0 < V * 720 := by have := s.v0; omega
  have wl := pw_mul (b := 720) (n := 2) s.vl (by decide)
  have r1 := s.a.rz s.e0 s.el (n := 20000) (by omega)
  have q0 := (Sz_wg s.g (a0 := 1) (a1 := 0) (a2 := 0) (by omega)).rz vp wl (n := 20000) (by omega)
  have q1 := (Sz_wg s.g (a0 := 0) (a1 := 1) (a2 := 0) (by omega)).rz vp wl (n := 20000) (by omega)
  have q2 := (Sz_wg s.g (a0 := 0) (a1 := 0) (a2 := 1) (by omega)).rz vp wl (n := 20000) (by omega)
  clear vp wl s
  rw [gussetref07_Loads.eq]
  unfold gussetref07_Loads.f refLoad ld3 rtc rt
  unfold sa at kf ⊢
  unfold ta at kf kt ⊢
  generalize formQ f ax ay bx b_ cx cy = g at *
  generalize absQ (area ax ay bx b_ cx cy) = A at *
  generalize wgQ g 1 0 0 = u0 at *
  generalize wgQ g 0 1 0 = u1 at *
  generalize wgQ g 0 0 1 = u2 at *
  rw [gcells] at kf kw0 kw1 kw2
  simp only [cells6, tcells] at kf kt ⊢
  simp (disch := first | exact dD | fail) only [Wd, W2d, W3d, Nat.reduceAdd, Nat.reduceMul, Nat.reduceSub, kf]
  rw [gussetref07_Loads.l0_eq]
  simp (disch := first | exact dD | fail) only [Wd, W2d, W3d, Nat.reduceAdd, Nat.reduceMul, Nat.reduceSub, lc7_0, lc7_1, lc7_2, lc7_3, lc4, lc5, lc6, ax0, inc0, kt, rc27', kw0, k_3mul]
  rw [gussetref07_Loads.l0_eq]
  simp (disch := first | exact dD | fail) only [Wd, W2d, W3d, Nat.reduceAdd, Nat.reduceMul, Nat.reduceSub, lc7_0, lc7_1, lc7_2, lc7_3, lc4, lc5, lc6, ax1, inc1, kt, rc27', kw1, k_3mul]
  rw [gussetref07_Loads.l0_eq]
  simp (disch := first | exact dD | fail) only [Wd, W2d, W3d, Nat.reduceAdd, Nat.reduceMul, Nat.reduceSub, lc7_0, lc7_1, lc7_2, lc7_3, lc4, lc5, lc6, ax2, inc2, kt, rc27', kw2, k_3mul]
  rw [gussetref07_Loads.l0_eq]
  simp (disch := first | exact dD | fail) only [Wd, W2d, W3d, Nat.reduceAdd, Nat.reduceMul, Nat.reduceSub, lc7_0, lc7_1, lc7_2, lc7_3, lc4, lc5, lc6, rc9']
  rfl)
theorem k_rSq (hf : f.Z 100) (t : Tz ax ay bx b_ cx cy 100) : byVal (callW gp) h fid.gussetref07_Square [sa f, ta ax ay bx b_ cx cy] = some (ra (refSq (formQ f ax ay bx b_ cx cy) (absQ (area ax ay bx b_ cx cy)))) := byVal_imm (imm_L2 imm_sa imm_ta) (by
  obtain ⟨V, E, s⟩ := gzs hf t
  have kf := fun h => k_form (h := h) hf t
  have kt := fun h => k_twice (h := h) t
  have kw0 : ∀ h, byVal (callW gp) h fid.gussetref07_weigh [.agg (gc (formQ f ax ay bx b_ cx cy)), .agg [.int .i64 2, .int .i64 0, .int .i64 0]] = some (ra (wgQ (formQ f ax ay bx b_ cx cy) 2 0 0)) := fun h => c_weigh (a0 := 2) (a1 := 0) (a2 := 0) s.g s.v0 s.vl (by omega) (by omega)
  have kw1 : ∀ h, byVal (callW gp) h fid.gussetref07_weigh [.agg (gc (formQ f ax ay bx b_ cx cy)), .agg [.int .i64 1, .int .i64 1, .int .i64 0]] = some (ra (wgQ (formQ f ax ay bx b_ cx cy) 1 1 0)) := fun h => c_weigh (a0 := 1) (a1 := 1) (a2 := 0) s.g s.v0 s.vl (by omega) (by omega)
  have kw2 : ∀ h, byVal (callW gp) h fid.gussetref07_weigh [.agg (gc (formQ f ax ay bx b_ cx cy)), .agg [.int .i64 1, .int .i64 0, .int .i64 1]] = some (ra (wgQ (formQ f ax ay bx b_ cx cy) 1 0 1)) := fun h => c_weigh (a0 := 1) (a1 := 0) (a2 := 1) s.g s.v0 s.vl (by omega) (by omega)
  have kw3 : ∀ h, byVal (callW gp) h fid.gussetref07_weigh [.agg (gc (formQ f ax ay bx b_ cx cy)), .agg [.int .i64 0, .int .i64 2, .int .i64 0]] = some (ra (wgQ (formQ f ax ay bx b_ cx cy) 0 2 0)) := fun h => c_weigh (a0 := 0) (a1 := 2) (a2 := 0) s.g s.v0 s.vl (by omega) (by omega)
  have kw4 : ∀ h, byVal (callW gp) h fid.gussetref07_weigh [.agg (gc (formQ f ax ay bx b_ cx cy)), .agg [.int .i64 0, .int .i64 1, .int .i64 1]] = some (ra (wgQ (formQ f ax ay bx b_ cx cy) 0 1 1)) := fun h => c_weigh (a0 := 0) (a1 := 1) (a2 := 1) s.g s.v0 s.vl (by omega) (by omega)
  have kw5 : ∀ h, byVal (callW gp) h fid.gussetref07_weigh [.agg (gc (formQ f ax ay bx b_ cx cy)), .agg [.int .i64 0, .int .i64 0, .int .i64 2]] = some (ra (wgQ (formQ f ax ay bx b_ cx cy) 0 0 2)) := fun h => c_weigh (a0 := 0) (a1 := 0) (a2 := 2) s.g s.v0 s.vl (by omega) (by omega)
  have vp : 0 < V * 720 := by have := s.v0; omega
  have wl := pw_mul (b := 720) (n := 2) s.vl (by decide)
  have pl := pw_mul s.vl wl
  have p0 := Nat.mul_pos s.v0 vp
  have r1 := s.a.rz s.e0 s.el (n := 20000) (by omega)
  have zz : Sz ((0 : Int) : Rat) (V * (V * 720)) 627 := Sz_zero
  have kz := zz.rz p0 pl (n := 20000) (by omega)
  have w0 := Sz_wg s.g (a0 := 2) (a1 := 0) (a2 := 0) (by omega)
  have t0 := s.g.z0.mul w0
  have s0 := zz.add (t0.up (show 309 + (309 + 9) ≤ 627 + 0 by omega))
  have w1 := Sz_wg s.g (a0 := 1) (a1 := 1) (a2 := 0) (by omega)
  have t1 := s.g.z1.mul w1
  have s1 := s0.add (t1.up (show 309 + (309 + 9) ≤ 627 + 1 by omega))
  have w2 := Sz_wg s.g (a0 := 1) (a1 := 0) (a2 := 1) (by omega)
  have t2 := s.g.z2.mul w2
  have s2 := s1.add (t2.up (show 309 + (309 + 9) ≤ 627 + 2 by omega))
  have w3 := Sz_wg s.g (a0 := 0) (a1 := 2) (a2 := 0) (by omega)
  have t3 := s.g.z3.mul w3
  have s3 := s2.add (t3.up (show 309 + (309 + 9) ≤ 627 + 3 by omega))
  have w4 := Sz_wg s.g (a0 := 0) (a1 := 1) (a2 := 1) (by omega)
  have t4 := s.g.z4.mul w4
  have s4 := s3.add (t4.up (show 309 + (309 + 9) ≤ 627 + 4 by omega))
  have w5 := Sz_wg s.g (a0 := 0) (a1 := 0) (a2 := 2) (by omega)
  have t5 := s.g.z5.mul w5
  have s5 := s4.add (t5.up (show 309 + (309 + 9) ≤ 627 + 5 by omega))
  have x0 := s.g.z0.rz s.v0 s.vl (n := 20000) (by omega)
  have y0 := w0.rz vp wl (n := 20000) (by omega)
  have u0 := t0.rz p0 pl (n := 20000) (by omega)
  have r0' := s0.rz p0 pl (n := 20000) (by omega)
  have x1 := s.g.z1.rz s.v0 s.vl (n := 20000) (by omega)
  have y1 := w1.rz vp wl (n := 20000) (by omega)
  have u1 := t1.rz p0 pl (n := 20000) (by omega)
  have r1' := s1.rz p0 pl (n := 20000) (by omega)
  have x2 := s.g.z2.rz s.v0 s.vl (n := 20000) (by omega)
  have y2 := w2.rz vp wl (n := 20000) (by omega)
  have u2 := t2.rz p0 pl (n := 20000) (by omega)
  have r2' := s2.rz p0 pl (n := 20000) (by omega)
  have x3 := s.g.z3.rz s.v0 s.vl (n := 20000) (by omega)
  have y3 := w3.rz vp wl (n := 20000) (by omega)
  have u3 := t3.rz p0 pl (n := 20000) (by omega)
  have r3' := s3.rz p0 pl (n := 20000) (by omega)
  have x4 := s.g.z4.rz s.v0 s.vl (n := 20000) (by omega)
  have y4 := w4.rz vp wl (n := 20000) (by omega)
  have u4 := t4.rz p0 pl (n := 20000) (by omega)
  have r4' := s4.rz p0 pl (n := 20000) (by omega)
  have x5 := s.g.z5.rz s.v0 s.vl (n := 20000) (by omega)
  have y5 := w5.rz vp wl (n := 20000) (by omega)
  have u5 := t5.rz p0 pl (n := 20000) (by omega)
  have r5' := s5.rz p0 pl (n := 20000) (by omega)
  clear s5 s4 s3 s2 s1 s0 t0 w0 t1 w1 t2 w2 t3 w3 t4 w4 t5 w5 zz wl pl p0 vp s
  rw [gussetref07_Square.eq]
  unfold gussetref07_Square.f refSq
  unfold sa at kf ⊢
  unfold ta at kf kt ⊢
  generalize formQ f ax ay bx b_ cx cy = g at *
  generalize absQ (area ax ay bx b_ cx cy) = A at *
  generalize wgQ g 2 0 0 = q0 at *
  generalize wgQ g 1 1 0 = q1 at *
  generalize wgQ g 1 0 1 = q2 at *
  generalize wgQ g 0 2 0 = q3 at *
  generalize wgQ g 0 1 1 = q4 at *
  generalize wgQ g 0 0 2 = q5 at *
  rw [gcells] at kf kw0 kw1 kw2 kw3 kw4 kw5
  simp only [cells6, tcells] at kf kt ⊢
  simp (disch := first | exact dD | fail) only [Wd, W2d, W3d, Nat.reduceAdd, Nat.reduceMul, Nat.reduceSub, kf, k_3of]
  rw [gussetref07_Square.l0_eq]
  simp (disch := first | exact dD | fail) only [Wd, W2d, W3d, Nat.reduceAdd, Nat.reduceMul, Nat.reduceSub, lc7_0, lc7_1, lc7_2, lc7_3, lc4, lc5, lc6]
  rw [gussetref07_Square.l1_eq]
  simp (disch := first | exact dD | fail) only [Wd, W2d, W3d, Nat.reduceAdd, Nat.reduceMul, Nat.reduceSub, lc7_0, lc7_1, lc7_2, lc7_3, lc4, lc5, lc6, ax0, ax1, ax2, inc0, inc1, inc2, rc27', kw0, k_3mul, k_3sum]
  rw [gussetref07_Square.l1_eq]
  simp (disch := first | exact dD | fail) only [Wd, W2d, W3d, Nat.reduceAdd, Nat.reduceMul, Nat.reduceSub, lc7_0, lc7_1, lc7_2, lc7_3, lc4, lc5, lc6, ax0, ax1, ax2, inc0, inc1, inc2, rc27', kw1, k_3mul, k_3sum]
  rw [gussetref07_Square.l1_eq]
  simp (disch := first | exact dD | fail) only [Wd, W2d, W3d, Nat.reduceAdd, Nat.reduceMul, Nat.reduceSub, lc7_0, lc7_1, lc7_2, lc7_3, lc4, lc5, lc6, ax0, ax1, ax2, inc0, inc1, inc2, rc27', kw2, k_3mul, k_3sum]
  rw [gussetref07_Square.l1_eq]
  simp (disch := first | exact dD | fail) only [Wd, W2d, W3d, Nat.reduceAdd, Nat.reduceMul, Nat.reduceSub, lc7_0, lc7_1, lc7_2, lc7_3, lc4, lc5, lc6, inc0]
  rw [gussetref07_Square.l0_eq]
  simp (disch := first | exact dD | fail) only [Wd, W2d, W3d, Nat.reduceAdd, Nat.reduceMul, Nat.reduceSub, lc7_0, lc7_1, lc7_2, lc7_3, lc4, lc5, lc6]
  rw [gussetref07_Square.l1_eq]
  simp (disch := first | exact dD | fail) only [Wd, W2d, W3d, Nat.reduceAdd, Nat.reduceMul, Nat.reduceSub, lc7_0, lc7_1, lc7_2, lc7_3, lc4, lc5, lc6, ax0, ax1, ax2, inc0, inc1, inc2, rc27', kw3, k_3mul, k_3sum]
  rw [gussetref07_Square.l1_eq]
  simp (disch := first | exact dD | fail) only [Wd, W2d, W3d, Nat.reduceAdd, Nat.reduceMul, Nat.reduceSub, lc7_0, lc7_1, lc7_2, lc7_3, lc4, lc5, lc6, ax0, ax1, ax2, inc0, inc1, inc2, rc27', kw4, k_3mul, k_3sum]
  rw [gussetref07_Square.l1_eq]
  simp (disch := first | exact dD | fail) only [Wd, W2d, W3d, Nat.reduceAdd, Nat.reduceMul, Nat.reduceSub, lc7_0, lc7_1, lc7_2, lc7_3, lc4, lc5, lc6, inc1]
  rw [gussetref07_Square.l0_eq]
  simp (disch := first | exact dD | fail) only [Wd, W2d, W3d, Nat.reduceAdd, Nat.reduceMul, Nat.reduceSub, lc7_0, lc7_1, lc7_2, lc7_3, lc4, lc5, lc6]
  rw [gussetref07_Square.l1_eq]
  simp (disch := first | exact dD | fail) only [Wd, W2d, W3d, Nat.reduceAdd, Nat.reduceMul, Nat.reduceSub, lc7_0, lc7_1, lc7_2, lc7_3, lc4, lc5, lc6, ax0, ax1, ax2, inc0, inc1, inc2, rc27', kw5, k_3mul, k_3sum]
  rw [gussetref07_Square.l1_eq]
  simp (disch := first | exact dD | fail) only [Wd, W2d, W3d, Nat.reduceAdd, Nat.reduceMul, Nat.reduceSub, lc7_0, lc7_1, lc7_2, lc7_3, lc4, lc5, lc6, inc2]
  rw [gussetref07_Square.l0_eq]
  simp (disch := first | exact dD | fail) only [Wd, W2d, W3d, Nat.reduceAdd, Nat.reduceMul, Nat.reduceSub, lc7_0, lc7_1, lc7_2, lc7_3, lc4, lc5, lc6, kt, k_3mul])
/-! ### What is asked -/
variable {t : R6} {a b c : PT}
theorem t3cells (a b c : PT) : t3c (a, b, c) = [.bool a.1.s, str a.1.m, str a.1.d, .bool a.2.s, str a.2.m, str a.2.d, .bool b.1.s, str b.1.m, str b.1.d, .bool b.2.s, str b.2.m, str b.2.d, .bool c.1.s, str c.1.m, str c.1.d, .bool c.2.s, str c.2.m, str c.2.d] := rfl
theorem imm_t3' : Imm 12 (.agg (t3c (a, b, c))) := cellImm rfl
theorem k_asked73 {fl : Bool} (ha : a.ok) (hb : b.ok) (hc : c.ok) : byVal (callW gp) h fid.gussetref07_Asked [.is 3 fl [.bool a.1.s, str a.1.m, str a.1.d, .bool a.2.s, str a.2.m, str a.2.d, .bool b.1.s, str b.1.m, str b.1.d, .bool b.2.s, str b.2.m, str b.2.d, .bool c.1.s, str c.1.m, str c.1.d, .bool c.2.s, str c.2.m, str c.2.d]] = some (.int .i64 (askp [a, b, c])) := k_asked7 (xs := [a, b, c]) (ok3 ha hb hc) (by show 3 ≤ _; omega)
theorem k_three1 (ht : t.ok) (he : ask6 t ≠ 0) : byVal (callW gp) h fid.gussetref07_Three [.agg (r6c t), .agg (t3c (a, b, c))] = some (.int .i64 (ask6 t)) := byVal_imm (imm_L2 imm_r6 imm_t3') (by
  have kc := fun h => k_check7 (h := h) ht
  generalize ask6 t = e at *
  rw [gussetref07_Three.eq]
  unfold gussetref07_Three.f
  simp only [r6cells, t3cells] at kc ⊢
  simp (disch := first | exact dD | fail) only [Wd, W2d, W3d, Nat.reduceAdd, Nat.reduceMul, Nat.reduceSub, kc, cond_d, he])
theorem k_three2 (ht : t.ok) (ha : a.ok) (hb : b.ok) (hc : c.ok) (h0 : ask6 t = 0) (he : askp [a, b, c] ≠ 0) : byVal (callW gp) h fid.gussetref07_Three [.agg (r6c t), .agg (t3c (a, b, c))] = some (.int .i64 (askp [a, b, c])) := byVal_imm (imm_L2 imm_r6 imm_t3') (by
  have kc := fun h => k_check7 (h := h) ht
  rw [h0] at kc
  have ka := fun h fl => k_asked73 (h := h) (fl := fl) ha hb hc
  generalize askp [a, b, c] = e at *
  rw [gussetref07_Three.eq]
  unfold gussetref07_Three.f
  simp only [r6cells, t3cells] at kc ⊢
  simp (disch := first | exact dD | fail) only [Wd, W2d, W3d, Nat.reduceAdd, Nat.reduceMul, Nat.reduceSub, ax0, ax1, ax2, kc, ka, cond_d, he])
theorem pt_ok' (x y : Rat) : PT.ok (rt x, rt y) := ⟨⟨nb_lt _, nb_lt _⟩, ⟨nb_lt _, nb_lt _⟩⟩
theorem askp_0 (t : Tz ax ay bx b_ cx cy 100) : askp [(rt ax, rt ay), (rt bx, rt b_), (rt cx, rt cy)] = 0 := by
  show firstE [askr (rt ax), askr (rt ay), askr (rt bx), askr (rt b_), askr (rt cx), askr (rt cy)] = 0
  rw [askr_rat t.h1, askr_rat t.h2, askr_rat t.h3, askr_rat t.h4, askr_rat t.h5, askr_rat t.h6]
  rfl
theorem k_three3 (hf : f.Z 100) (t : Tz ax ay bx b_ cx cy 100) : byVal (callW gp) h fid.gussetref07_Three [sa f, ta ax ay bx b_ cx cy] = some (.int .i64 (if area ax ay bx b_ cx cy = 0 then 6 else 0)) := byVal_imm (imm_L2 imm_sa imm_ta) (by
  have kc := fun h => k_check7 (h := h) (rt6_ok f)
  rw [ask6_0 hf] at kc
  have ka := fun h fl => k_asked73 (h := h) (fl := fl) (pt_ok' ax ay) (pt_ok' bx b_) (pt_ok' cx cy)
  rw [askp_0 t] at ka
  unfold rt at ka
  have ko := fun h => k_5orient (h := h) (t.h1.mono (m := 2000) (by omega)) (t.h2.mono (m := 2000) (by omega)) (t.h3.mono (m := 2000) (by omega)) (t.h4.mono (m := 2000) (by omega)) (t.h5.mono (m := 2000) (by omega)) (t.h6.mono (m := 2000) (by omega))
  have hz := @rsgn_zero (area ax ay bx b_ cx cy)
  rw [gussetref07_Three.eq]
  unfold gussetref07_Three.f
  unfold sa ta
  simp only [cells6, tcells] at kc ⊢
  by_cases h0 : area ax ay bx b_ cx cy = 0
  · rw [if_pos h0]
    have hr : rsgn (area ax ay bx b_ cx cy) = 0 := hz.2 h0
    rw [hr] at ko
    simp (disch := first | exact dD | fail) only [Wd, W2d, W3d, Nat.reduceAdd, Nat.reduceMul, Nat.reduceSub, ax0, ax1, ax2, kc, ka, ko]
  · rw [if_neg h0]
    have hr : ¬ rsgn (area ax ay bx b_ cx cy) = 0 := fun hh => h0 (hz.1 hh)
    generalize rsgn (area ax ay bx b_ cx cy) = r at *
    simp (disch := first | exact dD | fail) only [Wd, W2d, W3d, Nat.reduceAdd, Nat.reduceMul, Nat.reduceSub, ax0, ax1, ax2, kc, ka, ko, cond_d, hr])
/-! ### Sums, and zero -/
variable {g : P6} {k : Rat}
theorem k_add7 (hf : f.Z 100) (hg : g.Z 100) (hk : Rz k 100) : byVal (callW gp) h fid.gussetref07_Add [sa f, sa g, ra k] = some (sa (addP f g k)) := byVal_imm (imm_L3 imm_sa imm_sa imm_r3) (by
  have rk := hk.mono (m := 20000) (by omega)
  have f0 := hf.z0.mono (m := 20000) (by omega)
  have g0 := hg.z0.mono (m := 20000) (by omega)
  have m0 := (hg.z0.mul hk).mono (m := 20000) (by omega)
  have f1 := hf.z1.mono (m := 20000) (by omega)
  have g1 := hg.z1.mono (m := 20000) (by omega)
  have m1 := (hg.z1.mul hk).mono (m := 20000) (by omega)
  have f2 := hf.z2.mono (m := 20000) (by omega)
  have g2 := hg.z2.mono (m := 20000) (by omega)
  have m2 := (hg.z2.mul hk).mono (m := 20000) (by omega)
  have f3 := hf.z3.mono (m := 20000) (by omega)
  have g3 := hg.z3.mono (m := 20000) (by omega)
  have m3 := (hg.z3.mul hk).mono (m := 20000) (by omega)
  have f4 := hf.z4.mono (m := 20000) (by omega)
  have g4 := hg.z4.mono (m := 20000) (by omega)
  have m4 := (hg.z4.mul hk).mono (m := 20000) (by omega)
  have f5 := hf.z5.mono (m := 20000) (by omega)
  have g5 := hg.z5.mono (m := 20000) (by omega)
  have m5 := (hg.z5.mul hk).mono (m := 20000) (by omega)
  rw [gussetref07_Add.eq]
  unfold gussetref07_Add.f
  unfold sa
  simp only [cells6]
  unfold addP
  simp (disch := first | exact dD | fail) only [Wd, W2d, W3d, Nat.reduceAdd, Nat.reduceMul, Nat.reduceSub]
  rw [gussetref07_Add.l0_eq]
  simp (disch := first | exact dD | fail) only [Wd, W2d, W3d, Nat.reduceAdd, Nat.reduceMul, Nat.reduceSub, lc7_0, lc7_1, lc7_2, lc7_3, lc4, lc5, lc6, ax0, inc0, k_3mul, k_3sum]
  rw [gussetref07_Add.l0_eq]
  simp (disch := first | exact dD | fail) only [Wd, W2d, W3d, Nat.reduceAdd, Nat.reduceMul, Nat.reduceSub, lc7_0, lc7_1, lc7_2, lc7_3, lc4, lc5, lc6, ax1, inc1, k_3mul, k_3sum]
  rw [gussetref07_Add.l0_eq]
  simp (disch := first | exact dD | fail) only [Wd, W2d, W3d, Nat.reduceAdd, Nat.reduceMul, Nat.reduceSub, lc7_0, lc7_1, lc7_2, lc7_3, lc4, lc5, lc6, ax2, inc2, k_3mul, k_3sum]
  rw [gussetref07_Add.l0_eq]
  simp (disch := first | exact dD | fail) only [Wd, W2d, W3d, Nat.reduceAdd, Nat.reduceMul, Nat.reduceSub, lc7_0, lc7_1, lc7_2, lc7_3, lc4, lc5, lc6, ax3, inc3, k_3mul, k_3sum]
  rw [gussetref07_Add.l0_eq]
  simp (disch := first | exact dD | fail) only [Wd, W2d, W3d, Nat.reduceAdd, Nat.reduceMul, Nat.reduceSub, lc7_0, lc7_1, lc7_2, lc7_3, lc4, lc5, lc6, ax4, inc4, k_3mul, k_3sum]
  rw [gussetref07_Add.l0_eq]
  simp (disch := first | exact dD | fail) only [Wd, W2d, W3d, Nat.reduceAdd, Nat.reduceMul, Nat.reduceSub, lc7_0, lc7_1, lc7_2, lc7_3, lc4, lc5, lc6, ax5, inc5, k_3mul, k_3sum]
  rw [gussetref07_Add.l0_eq]
  simp (disch := first | exact dD | fail) only [Wd, W2d, W3d, Nat.reduceAdd, Nat.reduceMul, Nat.reduceSub, lc7_0, lc7_1, lc7_2, lc7_3, lc4, lc5, lc6]
  rfl)
theorem sgn3 {q : Rat} : byVal (callW gp) h fid.gussetref03_Sign [ra q] = some (.int .i64 (rsgn q)) := k_3sign
instance : DecidableEq P6 := fun f g => decidable_of_iff (f.p0 = g.p0 ∧ f.p1 = g.p1 ∧ f.p2 = g.p2 ∧ f.p3 = g.p3 ∧ f.p4 = g.p4 ∧ f.p5 = g.p5) (by cases f; cases g; simp)
theorem k_zero7 : byVal (callW gp) h fid.gussetref07_Zero [sa f] = some (.bool (decide (f = ⟨0, 0, 0, 0, 0, 0⟩))) := byVal_imm (imm_L1 imm_sa) (by
  rw [gussetref07_Zero.eq]
  unfold gussetref07_Zero.f
  unfold sa
  simp only [cells6]
  obtain ⟨q0, q1, q2, q3, q4, q5⟩ := f
  simp (disch := first | exact dD | fail) only [Wd, W2d, W3d, Nat.reduceAdd, Nat.reduceMul, Nat.reduceSub]
  rw [gussetref07_Zero.l0_eq]
  by_cases h0 : q0 = 0
  rotate_left
  · rw [decide_eq_false (fun hh => h0 (congrArg P6.p0 hh))]
    have hr : ¬ rsgn q0 = 0 := fun hh => h0 (rsgn_zero.1 hh)
    simp (disch := first | exact dD | fail) only [Wd, W2d, W3d, Nat.reduceAdd, Nat.reduceMul, Nat.reduceSub, lc7_0, lc7_1, lc7_2, lc7_3, lc4, lc5, lc6, ax0, inc0, sgn3, cond_d, hr]
  have hr : rsgn q0 = 0 := rsgn_zero.2 h0
  simp (disch := first | exact dD | fail) only [Wd, W2d, W3d, Nat.reduceAdd, Nat.reduceMul, Nat.reduceSub, lc7_0, lc7_1, lc7_2, lc7_3, lc4, lc5, lc6, ax0, inc0, sgn3, hr]
  rw [gussetref07_Zero.l0_eq]
  by_cases h1 : q1 = 0
  rotate_left
  · rw [decide_eq_false (fun hh => h1 (congrArg P6.p1 hh))]
    have hr : ¬ rsgn q1 = 0 := fun hh => h1 (rsgn_zero.1 hh)
    simp (disch := first | exact dD | fail) only [Wd, W2d, W3d, Nat.reduceAdd, Nat.reduceMul, Nat.reduceSub, lc7_0, lc7_1, lc7_2, lc7_3, lc4, lc5, lc6, ax1, inc1, sgn3, cond_d, hr]
  have hr : rsgn q1 = 0 := rsgn_zero.2 h1
  simp (disch := first | exact dD | fail) only [Wd, W2d, W3d, Nat.reduceAdd, Nat.reduceMul, Nat.reduceSub, lc7_0, lc7_1, lc7_2, lc7_3, lc4, lc5, lc6, ax1, inc1, sgn3, hr]
  rw [gussetref07_Zero.l0_eq]
  by_cases h2 : q2 = 0
  rotate_left
  · rw [decide_eq_false (fun hh => h2 (congrArg P6.p2 hh))]
    have hr : ¬ rsgn q2 = 0 := fun hh => h2 (rsgn_zero.1 hh)
    simp (disch := first | exact dD | fail) only [Wd, W2d, W3d, Nat.reduceAdd, Nat.reduceMul, Nat.reduceSub, lc7_0, lc7_1, lc7_2, lc7_3, lc4, lc5, lc6, ax2, inc2, sgn3, cond_d, hr]
  have hr : rsgn q2 = 0 := rsgn_zero.2 h2
  simp (disch := first | exact dD | fail) only [Wd, W2d, W3d, Nat.reduceAdd, Nat.reduceMul, Nat.reduceSub, lc7_0, lc7_1, lc7_2, lc7_3, lc4, lc5, lc6, ax2, inc2, sgn3, hr]
  rw [gussetref07_Zero.l0_eq]
  by_cases h3 : q3 = 0
  rotate_left
  · rw [decide_eq_false (fun hh => h3 (congrArg P6.p3 hh))]
    have hr : ¬ rsgn q3 = 0 := fun hh => h3 (rsgn_zero.1 hh)
    simp (disch := first | exact dD | fail) only [Wd, W2d, W3d, Nat.reduceAdd, Nat.reduceMul, Nat.reduceSub, lc7_0, lc7_1, lc7_2, lc7_3, lc4, lc5, lc6, ax3, inc3, sgn3, cond_d, hr]
  have hr : rsgn q3 = 0 := rsgn_zero.2 h3
  simp (disch := first | exact dD | fail) only [Wd, W2d, W3d, Nat.reduceAdd, Nat.reduceMul, Nat.reduceSub, lc7_0, lc7_1, lc7_2, lc7_3, lc4, lc5, lc6, ax3, inc3, sgn3, hr]
  rw [gussetref07_Zero.l0_eq]
  by_cases h4 : q4 = 0
  rotate_left
  · rw [decide_eq_false (fun hh => h4 (congrArg P6.p4 hh))]
    have hr : ¬ rsgn q4 = 0 := fun hh => h4 (rsgn_zero.1 hh)
    simp (disch := first | exact dD | fail) only [Wd, W2d, W3d, Nat.reduceAdd, Nat.reduceMul, Nat.reduceSub, lc7_0, lc7_1, lc7_2, lc7_3, lc4, lc5, lc6, ax4, inc4, sgn3, cond_d, hr]
  have hr : rsgn q4 = 0 := rsgn_zero.2 h4
  simp (disch := first | exact dD | fail) only [Wd, W2d, W3d, Nat.reduceAdd, Nat.reduceMul, Nat.reduceSub, lc7_0, lc7_1, lc7_2, lc7_3, lc4, lc5, lc6, ax4, inc4, sgn3, hr]
  rw [gussetref07_Zero.l0_eq]
  by_cases h5 : q5 = 0
  rotate_left
  · rw [decide_eq_false (fun hh => h5 (congrArg P6.p5 hh))]
    have hr : ¬ rsgn q5 = 0 := fun hh => h5 (rsgn_zero.1 hh)
    simp (disch := first | exact dD | fail) only [Wd, W2d, W3d, Nat.reduceAdd, Nat.reduceMul, Nat.reduceSub, lc7_0, lc7_1, lc7_2, lc7_3, lc4, lc5, lc6, ax5, inc5, sgn3, cond_d, hr]
  have hr : rsgn q5 = 0 := rsgn_zero.2 h5
  simp (disch := first | exact dD | fail) only [Wd, W2d, W3d, Nat.reduceAdd, Nat.reduceMul, Nat.reduceSub, lc7_0, lc7_1, lc7_2, lc7_3, lc4, lc5, lc6, ax5, inc5, sgn3, hr]
  rw [gussetref07_Zero.l0_eq]
  have hz : (⟨q0, q1, q2, q3, q4, q5⟩ : P6) = ⟨0, 0, 0, 0, 0, 0⟩ := by rw [h0, h1, h2, h3, h4, h5]
  rw [decide_eq_true hz]
  simp (disch := first | exact dD | fail) only [Wd, W2d, W3d, Nat.reduceAdd, Nat.reduceMul, Nat.reduceSub, lc7_0, lc7_1, lc7_2, lc7_3, lc4, lc5, lc6])
end
end Go.Proofs.YtcpmkohlmjakmaaGreatDoor.Am