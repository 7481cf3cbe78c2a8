import Derived.Test.YtcpmkohlmjakmaaGreatDoorAmPoly3
import Derived.Test.YtcpmkohlmjakmaaGreatDoorTPlane
/- A triangle's six values: the program's. -/
set_option linter.unusedVariables false
set_option maxRecDepth 10000
set_option linter.unusedSimpArgs false
namespace Go.Proofs.YtcpmkohlmjakmaaGreatDoor.Am
open Go

/-- A polynomial of few bytes. -/
structure P6.Z (f : P6) (n : Nat) : Prop where
  z0 : Rz f.p0 n
  z1 : Rz f.p1 n
  z2 : Rz f.p2 n
  z3 : Rz f.p3 n
  z4 : Rz f.p4 n
  z5 : Rz f.p5 n
theorem pw_cast {a m n : Nat} (h : a < P256 m) (e : m = n) : a < P256 n := by subst e; exact h
theorem pol_F {f : P6} (hf : f.Z 100) : ∃ F, 0 < F ∧ F < P256 600 ∧ Pz f F 100 := by
  have p0 := Nat.pos_of_ne_zero f.p0.den_nz
  have p1 := Nat.pos_of_ne_zero f.p1.den_nz
  have p2 := Nat.pos_of_ne_zero f.p2.den_nz
  have p3 := Nat.pos_of_ne_zero f.p3.den_nz
  have p4 := Nat.pos_of_ne_zero f.p4.den_nz
  have p5 := Nat.pos_of_ne_zero f.p5.den_nz
  have l := pw_mul (pw_mul (pw_mul (pw_mul (pw_mul (den_lt hf.z0) (den_lt hf.z1)) (den_lt hf.z2)) (den_lt hf.z3)) (den_lt hf.z4)) (den_lt hf.z5)
  have d0 : f.p0.den ∣ f.p0.den * f.p1.den * f.p2.den * f.p3.den * f.p4.den * f.p5.den := ⟨f.p1.den * f.p2.den * f.p3.den * f.p4.den * f.p5.den, by ac_rfl⟩
  have d1 : f.p1.den ∣ f.p0.den * f.p1.den * f.p2.den * f.p3.den * f.p4.den * f.p5.den := ⟨f.p0.den * f.p2.den * f.p3.den * f.p4.den * f.p5.den, by ac_rfl⟩
  have d2 : f.p2.den ∣ f.p0.den * f.p1.den * f.p2.den * f.p3.den * f.p4.den * f.p5.den := ⟨f.p0.den * f.p1.den * f.p3.den * f.p4.den * f.p5.den, by ac_rfl⟩
  have d3 : f.p3.den ∣ f.p0.den * f.p1.den * f.p2.den * f.p3.den * f.p4.den * f.p5.den := ⟨f.p0.den * f.p1.den * f.p2.den * f.p4.den * f.p5.den, by ac_rfl⟩
  have d4 : f.p4.den ∣ f.p0.den * f.p1.den * f.p2.den * f.p3.den * f.p4.den * f.p5.den := ⟨f.p0.den * f.p1.den * f.p2.den * f.p3.den * f.p5.den, by ac_rfl⟩
  have d5 : f.p5.den ∣ f.p0.den * f.p1.den * f.p2.den * f.p3.den * f.p4.den * f.p5.den := ⟨f.p0.den * f.p1.den * f.p2.den * f.p3.den * f.p4.den, by ac_rfl⟩
  refine ⟨_, ?_, pw_cast l rfl, ⟨Sz_of hf.z0 d0, Sz_of hf.z1 d1, Sz_of hf.z2 d2, Sz_of hf.z3 d3, Sz_of hf.z4 d4, Sz_of hf.z5 d5⟩⟩
  exact Nat.mul_pos (Nat.mul_pos (Nat.mul_pos (Nat.mul_pos (Nat.mul_pos p0 p1) p2) p3) p4) p5
/-- Six coordinates of few bytes. -/
structure Tz (ax ay bx b_ cx cy : Rat) (n : Nat) : Prop where
  h1 : Rz ax n
  h2 : Rz ay n
  h3 : Rz bx n
  h4 : Rz b_ n
  h5 : Rz cx n
  h6 : Rz cy n
/-- Six coordinates have a common denominator. -/
structure Tw (ax ay bx b_ cx cy : Rat) (W c : Nat) : Prop where
  h1 : Sz ax W c
  h2 : Sz ay W c
  h3 : Sz bx W c
  h4 : Sz b_ W c
  h5 : Sz cx W c
  h6 : Sz cy W c
theorem Sz_half : Sz (1 / 2 : Rat) 2 0 := ⟨⟨1, by decide +kernel⟩, by decide +kernel, by decide +kernel⟩
theorem Sz_mid {p q : Rat} {W c : Nat} (hp : Sz p W c) (hq : Sz q W c) : Sz ((p + q) * (1 / 2)) (W * 2) (c + 1) := ((hp.add hq).mul Sz_half).up (by omega)
theorem tri_W {ax ay bx b_ cx cy : Rat} (h : Tz ax ay bx b_ cx cy 100) : ∃ W, 0 < W ∧ W < P256 600 ∧ Tw ax ay bx b_ cx cy W 100 := by
  obtain ⟨F, g0, g1, g2⟩ := pol_F (f := ⟨ax, ay, bx, b_, cx, cy⟩) ⟨h.h1, h.h2, h.h3, h.h4, h.h5, h.h6⟩
  exact ⟨F, g0, g1, g2.z0, g2.z1, g2.z2, g2.z3, g2.z4, g2.z5⟩
theorem Tw.mono {ax ay bx b_ cx cy : Rat} {W V c d : Nat} (h : Tw ax ay bx b_ cx cy W c) (hd : W ∣ V) (hc : c ≤ d) : Tw ax ay bx b_ cx cy V d := ⟨h.h1.mono hd hc, h.h2.mono hd hc, h.h3.mono hd hc, h.h4.mono hd hc, h.h5.mono hd hc, h.h6.mono hd hc⟩
theorem w2_lt {W : Nat} (h : W < P256 600) : W * 2 < P256 601 := pw_cast (pw_mul (n := 1) h (by decide)) rfl
/-- The six values have a common denominator. -/
theorem Pz_six {f : P6} {F b : Nat} {ax ay bx b_ cx cy : Rat} {W c : Nat} (hf : Pz f F b) (h : Tw ax ay bx b_ cx cy W c) : Pz (sixQ f ax ay bx b_ cx cy) (F * (W * 2) * (W * 2)) (b + 2 * (c + 1) + 4) := by
  have g := h.mono (Nat.dvd_mul_right W 2) (show c ≤ c + 1 by omega)
  exact ⟨Sz_ev hf g.h1 g.h2, Sz_ev hf g.h3 g.h4, Sz_ev hf g.h5 g.h6, Sz_ev hf (Sz_mid h.h3 h.h5) (Sz_mid h.h4 h.h6), Sz_ev hf (Sz_mid h.h5 h.h1) (Sz_mid h.h6 h.h2), Sz_ev hf (Sz_mid h.h1 h.h3) (Sz_mid h.h2 h.h4)⟩
theorem Sz_area {ax ay bx b_ cx cy : Rat} {W c : Nat} (h : Tw ax ay bx b_ cx cy W c) : Sz (area ax ay bx b_ cx cy) (W * W) (2 * c + 3) :=
  (((h.h3.sub h.h1).mul (h.h6.sub h.h2)).sub ((h.h4.sub h.h2).mul (h.h5.sub h.h1))).up (by omega)
theorem Sz_abs {q : Rat} {D b : Nat} (h : Sz q D b) : Sz (absQ q) D b := by
  unfold absQ; split
  · exact h.neg
  · exact h
theorem Sz_ar {ax ay bx b_ cx cy : Rat} {W c : Nat} (h : Tw ax ay bx b_ cx cy W c) : Sz (arQ ax ay bx b_ cx cy) (W * W * 2) (2 * c + 3) := Sz_divn (Sz_abs (Sz_area h)) (by omega)
theorem abs_num (q : Rat) : (absQ q).num = q.num.natAbs ∧ (absQ q).den = q.den := by
  unfold absQ
  have e := @Rat.num_nonneg q
  split
  · rename_i h
    have : ¬ (0 : Rat) ≤ q := by grind
    have h2 : ¬ 0 ≤ q.num := fun hh => this (e.1 hh)
    refine ⟨?_, rfl⟩
    show -q.num = _
    omega
  · rename_i h
    have : (0 : Rat) ≤ q := by grind
    have h2 := e.2 this
    exact ⟨by omega, rfl⟩
theorem ra_abs (q : Rat) : ra (absQ q) = .agg [.bool false, str (nb q.num.natAbs), str (nb q.den)] := by
  obtain ⟨h1, h2⟩ := abs_num q
  unfold ra
  rw [h1, h2, decide_eq_false (by omega), Int.natAbs_natCast]
theorem rc12' {a0 a1 a2 a3 a4 a5 a6 a7 a8 a9 b0 b1 : AV} {l : List AV} : readCells (a0 :: a1 :: a2 :: a3 :: a4 :: a5 :: a6 :: a7 :: a8 :: a9 :: b0 :: b1 :: l) (some 12) = some (.agg [a0, a1, a2, a3, a4, a5, a6, a7, a8, a9, b0, b1]) := Eq.trans rfl rfl
theorem a30 : opBin .add (.int .i64 3) (.int .i64 0) = some (.int .i64 3) := Eq.trans rfl rfl
theorem a31 : opBin .add (.int .i64 3) (.int .i64 1) = some (.int .i64 4) := Eq.trans rfl rfl
theorem a32 : opBin .add (.int .i64 3) (.int .i64 2) = some (.int .i64 5) := Eq.trans rfl rfl
theorem same7 {R : Type} {x : R} : sameAll [some x, some x, some x] := ⟨x, fun y hy => by simpa using hy⟩
theorem ifP7 {R Q : Type} {x : R} {A : Option Q} : ifP (sameAll [some x, some x, some x]) A = A := ifP_yes same7
theorem rt6_ok (f : P6) : (rt6 f).ok := fun x hx => by
  unfold rt6 R6.l at hx
  simp only [List.mem_cons, List.not_mem_nil, or_false] at hx
  rcases hx with rfl | rfl | rfl | rfl | rfl | rfl <;> exact ⟨nb_lt _, nb_lt _⟩
theorem ask6_0 {f : P6} (hf : f.Z 100) : ask6 (rt6 f) = 0 := by
  show firstE [askr (rt f.p0), askr (rt f.p1), askr (rt f.p2), askr (rt f.p3), askr (rt f.p4), askr (rt f.p5)] = 0
  rw [askr_rat hf.z0, askr_rat hf.z1, askr_rat hf.z2, askr_rat hf.z3, askr_rat hf.z4, askr_rat hf.z5]
  rfl
theorem zero_num {q : Rat} : (q.num.natAbs = 0) = (q = 0) := by
  rw [← Rat.num_eq_zero]; exact propext ⟨fun h => by omega, fun h => by omega⟩

section
variable {h : Heap} {f : P6} {ax ay bx b_ cx cy : Rat}
theorem k_pasked6 {fl : Bool} (t : Tz ax ay bx b_ cx cy 100) : byVal (callW gp) h fid.poly_asked [.is 6 fl [.bool (decide (ax.num < 0)), str (nb ax.num.natAbs), str (nb ax.den), .bool (decide (ay.num < 0)), str (nb ay.num.natAbs), str (nb ay.den), .bool (decide (bx.num < 0)), str (nb bx.num.natAbs), str (nb bx.den), .bool (decide (b_.num < 0)), str (nb b_.num.natAbs), str (nb b_.den), .bool (decide (cx.num < 0)), str (nb cx.num.natAbs), str (nb cx.den), .bool (decide (cy.num < 0)), str (nb cy.num.natAbs), str (nb cy.den)]] = some (.int .i64 0) := by
  have := k_pasked (h := h) (f := fl) (xs := (rt6 ⟨ax, ay, bx, b_, cx, cy⟩).l) (rt6_ok _) (by show 6 ≤ _; omega)
  have e := ask6_0 (f := ⟨ax, ay, bx, b_, cx, cy⟩) ⟨t.h1, t.h2, t.h3, t.h4, t.h5, t.h6⟩
  unfold ask6 at e
  rw [e] at this
  exact this
theorem k_plane (hf : f.Z 100) (t : Tz ax ay bx b_ cx cy 100) (h0 : area ax ay bx b_ cx cy ≠ 0) : byVal (callW gp) h fid.poly_plane [sa f, pa ax ay, pa bx b_, pa cx cy] = some (.tup [ra (arQ ax ay bx b_ cx cy), sa (sixQ f ax ay bx b_ cx cy), .int .i64 0]) := byVal_imm (imm_q4 imm_sa imm_pa imm_pa imm_pa) (by
  obtain ⟨F, f0, fl, pz⟩ := pol_F hf
  obtain ⟨W, w0, wl, tw⟩ := tri_W t
  have wl2 := w2_lt wl
  have w02 : 0 < W * 2 := by omega
  have g := tw.mono (Nat.dvd_mul_right W 2) (show 100 ≤ 100 + 1 by omega)
  have E := fun {x y : Rat} (hx : Sz x (W * 2) (100 + 1)) (hy : Sz y (W * 2) (100 + 1)) h => c_peval (h := h) pz hx hy f0 w02 fl wl2 (by omega)
  have e0 := E g.h1 g.h2
  have e1 := E g.h3 g.h4
  have e2 := E g.h5 g.h6
  have e3 := E (Sz_mid tw.h3 tw.h5) (Sz_mid tw.h4 tw.h6)
  have e4 := E (Sz_mid tw.h5 tw.h1) (Sz_mid tw.h6 tw.h2)
  have e5 := E (Sz_mid tw.h1 tw.h3) (Sz_mid tw.h2 tw.h4)
  have kc := fun h => k_pcheck (h := h) (rt6_ok f)
  rw [ask6_0 hf] at kc
  have ka := fun h fl => k_pasked6 (h := h) (fl := fl) t
  have kA := fun h => k_carea (h := h) t.h1 t.h2 t.h3 t.h4 t.h5 t.h6
  have m1 := fun h => k_middle (h := h) t.h3 t.h4 t.h5 t.h6
  have m2 := fun h => k_middle (h := h) t.h5 t.h6 t.h1 t.h2
  have m3 := fun h => k_middle (h := h) t.h1 t.h2 t.h3 t.h4
  have sA := Sz_abs (Sz_area tw)
  have rA : Rz (absQ (area ax ay bx b_ cx cy)) 8000 := sA.rz (Nat.mul_pos w0 w0) (pw_mul wl wl) (by omega)
  have r2 : Rz ((2 : Int) : Rat) 8000 := (Rz_int (by omega) (by omega)).mono (by omega)
  have kd := fun h => k_rdiv (h := h) rA r2 (by decide)
  have eq : arQ ax ay bx b_ cx cy = absQ (area ax ay bx b_ cx cy) / ((2 : Int) : Rat) := rfl
  rw [← eq] at kd
  have hA : ¬ ((area ax ay bx b_ cx cy).num.natAbs = 0) := fun hh => h0 (Eq.mp zero_num hh)
  clear E g sA tw pz fl wl wl2
  rw [poly_plane.eq]
  unfold poly_plane.f
  unfold sa at e0 e1 e2 e3 e4 e5 ⊢
  simp only [cells6] at kc e0 e1 e2 e3 e4 e5 ⊢
  simp only [ra_abs] at kd
  unfold sixQ
  generalize arQ ax ay bx b_ cx cy = A2 at *
  simp (disch := first | exact dD | fail) only [Wd, W2d, W3d, Nat.reduceAdd, Nat.reduceMul, Nat.reduceSub, bslc_a6, kc, ka, kA, nstr_eq0, hA, k_rof, kd]
  rw [poly_plane.l0_eq]
  simp (disch := first | exact dD | fail) only [Wd, W2d, W3d, Nat.reduceAdd, Nat.reduceMul, Nat.reduceSub, lc7_0, lc7_1, lc7_2, lc7_3, ix0, ax0, inc0, e0]
  rw [poly_plane.l0_eq]
  simp (disch := first | exact dD | fail) only [Wd, W2d, W3d, Nat.reduceAdd, Nat.reduceMul, Nat.reduceSub, lc7_0, lc7_1, lc7_2, lc7_3, ix1, ax1, inc1, e1]
  rw [poly_plane.l0_eq]
  simp (disch := first | exact dD | fail) only [Wd, W2d, W3d, Nat.reduceAdd, Nat.reduceMul, Nat.reduceSub, lc7_0, lc7_1, lc7_2, lc7_3, ix2, ax2, inc2, e2]
  rw [poly_plane.l0_eq]
  simp (disch := first | exact dD | fail) only [Wd, W2d, W3d, Nat.reduceAdd, Nat.reduceMul, Nat.reduceSub, fill_agg]
  rw [poly_plane.l1_eq]
  simp (disch := first | exact dD | fail) only [Wd, W2d, W3d, Nat.reduceAdd, Nat.reduceMul, Nat.reduceSub, lc7_0, lc7_1, lc7_2, lc7_3, ix0, ax0, ax1, ax3, inc0, a30, rc12', m1, e3]
  rw [poly_plane.l1_eq]
  simp (disch := first | exact dD | fail) only [Wd, W2d, W3d, Nat.reduceAdd, Nat.reduceMul, Nat.reduceSub, lc7_0, lc7_1, lc7_2, lc7_3, ix1, ax0, ax1, ax4, inc1, a31, rc12', m2, e4]
  rw [poly_plane.l1_eq]
  simp (disch := first | exact dD | fail) only [Wd, W2d, W3d, Nat.reduceAdd, Nat.reduceMul, Nat.reduceSub, lc7_0, lc7_1, lc7_2, lc7_3, ix2, ax0, ax1, ax5, inc2, a32, rc12', m3, e5]
  rw [poly_plane.l1_eq]
  simp (disch := first | exact dD | fail) only [Wd, W2d, W3d, Nat.reduceAdd, Nat.reduceMul, Nat.reduceSub, ifP7]
  rfl)
end
end Go.Proofs.YtcpmkohlmjakmaaGreatDoor.Am