import Derived.Test.YtcpmkohlmjakmaaGreatDoorAmPoly
/- Polynomials at a point, and sums with weights; both texts. -/
set_option linter.unusedVariables false
set_option maxRecDepth 10000
set_option linter.unusedSimpArgs false
namespace Go.Proofs.YtcpmkohlmjakmaaGreatDoor.Am
open Go

theorem pw_mul {a b m n : Nat} (ha : a < P256 m) (hb : b < P256 n) : a * b < P256 (m + n) := by
  unfold P256 at *
  rw [Nat.pow_add]; exact Nat.mul_lt_mul'' ha hb
/-- A polynomial's numbers have a common denominator. -/
structure Pz (f : P6) (F b : Nat) : Prop where
  z0 : Sz f.p0 F b
  z1 : Sz f.p1 F b
  z2 : Sz f.p2 F b
  z3 : Sz f.p3 F b
  z4 : Sz f.p4 F b
  z5 : Sz f.p5 F b
def rt6 (v : P6) : R6 := (rt v.p0, rt v.p1, rt v.p2, rt v.p3, rt v.p4, rt v.p5)
/-- Six numbers in a row. -/
abbrev sa (v : P6) : AV := .agg (r6c (rt6 v))
theorem cells6 (v : P6) : r6c (rt6 v) = [.bool (decide (v.p0.num < 0)), str (nb v.p0.num.natAbs), str (nb v.p0.den), .bool (decide (v.p1.num < 0)), str (nb v.p1.num.natAbs), str (nb v.p1.den), .bool (decide (v.p2.num < 0)), str (nb v.p2.num.natAbs), str (nb v.p2.den), .bool (decide (v.p3.num < 0)), str (nb v.p3.num.natAbs), str (nb v.p3.den), .bool (decide (v.p4.num < 0)), str (nb v.p4.num.natAbs), str (nb v.p4.den), .bool (decide (v.p5.num < 0)), str (nb v.p5.num.natAbs), str (nb v.p5.den)] := rfl
theorem imm_sa {v : P6} : Imm 12 (sa v) := imm_r6
theorem lc4 : ((4 : Nat) : Int) = 4 := rfl
theorem lc5 : ((5 : Nat) : Int) = 5 := rfl
theorem lc6 : ((6 : Nat) : Int) = 6 := rfl
theorem lc7_0 : ((0 : Nat) : Int) = 0 := rfl
theorem lc7_1 : ((1 : Nat) : Int) = 1 := rfl
theorem lc7_2 : ((2 : Nat) : Int) = 2 := rfl
theorem lc7_3 : ((3 : Nat) : Int) = 3 := rfl
theorem inc0 : opBin .add (.int .i64 0) (.int .i64 1) = some (.int .i64 1) := Eq.trans rfl rfl
theorem inc1 : opBin .add (.int .i64 1) (.int .i64 1) = some (.int .i64 2) := Eq.trans rfl rfl
theorem inc2 : opBin .add (.int .i64 2) (.int .i64 1) = some (.int .i64 3) := Eq.trans rfl rfl
theorem inc3 : opBin .add (.int .i64 3) (.int .i64 1) = some (.int .i64 4) := Eq.trans rfl rfl
theorem inc4 : opBin .add (.int .i64 4) (.int .i64 1) = some (.int .i64 5) := Eq.trans rfl rfl
theorem inc5 : opBin .add (.int .i64 5) (.int .i64 1) = some (.int .i64 6) := Eq.trans rfl rfl
section
variable {sz len id o : Nat} {k : IntKind} {ag : Option Nat} {cs : List AV}
theorem ax0 (h : 0 < len) : opAidx sz len (.rp id o) (.int k 0) = some (.rp id o) := (aidx_n (i := 0) h).trans (by simp)
theorem ax1 (h : 1 < len) : opAidx sz len (.rp id o) (.int k 1) = some (.rp id (o + sz)) := (aidx_n (i := 1) h).trans (by simp)
theorem ax2 (h : 2 < len) : opAidx sz len (.rp id o) (.int k 2) = some (.rp id (o + 2 * sz)) := aidx_n (i := 2) h
theorem ax3 (h : 3 < len) : opAidx sz len (.rp id o) (.int k 3) = some (.rp id (o + 3 * sz)) := aidx_n (i := 3) h
theorem ax4 (h : 4 < len) : opAidx sz len (.rp id o) (.int k 4) = some (.rp id (o + 4 * sz)) := aidx_n (i := 4) h
theorem ax5 (h : 5 < len) : opAidx sz len (.rp id o) (.int k 5) = some (.rp id (o + 5 * sz)) := aidx_n (i := 5) h
theorem ix0 (h : 0 < len) : opIdx sz len ag (.agg cs) (.int k 0) = readCells cs ag := (idx_n (i := 0) h).trans (by simp)
theorem ix1 (h : 1 < len) : opIdx sz len ag (.agg cs) (.int k 1) = readCells (cs.drop sz) ag := (idx_n (i := 1) h).trans (by simp)
theorem ix2 (h : 2 < len) : opIdx sz len ag (.agg cs) (.int k 2) = readCells (cs.drop (2 * sz)) ag := idx_n (i := 2) h
theorem ix3 (h : 3 < len) : opIdx sz len ag (.agg cs) (.int k 3) = readCells (cs.drop (3 * sz)) ag := idx_n (i := 3) h
theorem ix4 (h : 4 < len) : opIdx sz len ag (.agg cs) (.int k 4) = readCells (cs.drop (4 * sz)) ag := idx_n (i := 4) h
theorem ix5 (h : 5 < len) : opIdx sz len ag (.agg cs) (.int k 5) = readCells (cs.drop (5 * sz)) ag := idx_n (i := 5) h
theorem bslc_a6 {sz : Nat} {z a b c d e f : List AV} (hz : z.length = sz) (ha : a.length = sz) (hb : b.length = sz) (hc : c.length = sz) (hd : d.length = sz) (he : e.length = sz) (hf : f.length = sz) : opBslc sz 6 z [(0, .agg a), (1, .agg b), (2, .agg c), (3, .agg d), (4, .agg e), (5, .agg f)] = some (.is 6 true (a ++ b ++ c ++ d ++ e ++ f)) := by
  exact (bslc_from (n := 6) [a, b, c, d, e, f] hz (by simp [ha, hb, hc, hd, he, hf]) rfl rfl).trans (by simp)
theorem bslc_a1' {sz : Nat} {z a : List AV} (hz : z.length = sz) (ha : a.length = sz) : opBslc sz 1 z [(0, .agg a)] = some (.is 1 true a) := by
  exact (bslc_from (n := 1) [a] hz (by simp [ha]) rfl rfl).trans (by simp)
end

section
variable {h : Heap} {x y : Rat} {f : P6} {F W b c m n : Nat}
theorem c_pprod (hx : Rz x 8000) (hy : Rz y 8000) : byVal (callW gp) h fid.poly_product [ra x, ra y] = some (ra (x * y)) := byVal_imm (imm_L2 imm_r3 imm_r3) (by
  rw [poly_product.eq]
  unfold poly_product.f
  simp (disch := first | exact dD | fail) only [Wd, W2d, W3d, Nat.reduceAdd, Nat.reduceMul, Nat.reduceSub, k_rmul])
theorem c_psum (hx : Rz x 8000) (hy : Rz y 8000) : byVal (callW gp) h fid.poly_sum [ra x, ra y] = some (ra (x + y)) := byVal_imm (imm_L2 imm_r3 imm_r3) (by
  rw [poly_sum.eq]
  unfold poly_sum.f
  simp (disch := first | exact dD | fail) only [Wd, W2d, W3d, Nat.reduceAdd, Nat.reduceMul, Nat.reduceSub, k_radd])
theorem Sz_ev (hf : Pz f F b) (hx : Sz x W c) (hy : Sz y W c) : Sz (evQ f x y) (F * W * W) (b + 2 * c + 4) := by
  have s3 := hf.z3.mul hx
  have s4 := hf.z4.mul hy
  have s1 : Sz f.p1 (F * W) (b + c + 1) := hf.z1.mono (Nat.dvd_mul_right ..) (by omega)
  have sX := (s1.add (s3.add s4)).mul hx
  have s2 : Sz f.p2 (F * W) (b + c) := hf.z2.mono (Nat.dvd_mul_right ..) (by omega)
  have sY := (s2.add (hf.z5.mul hy)).mul hy
  have s0 : Sz f.p0 (F * W * W) (b + c + 1 + 1 + c + 1) := hf.z0.mono (Nat.dvd_trans (Nat.dvd_mul_right F W) (Nat.dvd_mul_right ..)) (by omega)
  exact (s0.add (sX.add (sY.up (by omega)))).up (by omega)
theorem c_peval (hf : Pz f F b) (hx : Sz x W c) (hy : Sz y W c) (f0 : 0 < F) (w0 : 0 < W) (hF : F < P256 m) (hW : W < P256 n) (hs : m + 2 * n + b + 2 * c + 10 ≤ 8000) : byVal (callW gp) h fid.poly_eval [sa f, pa x y] = some (ra (evQ f x y)) := byVal_imm (imm_L2 imm_sa imm_pa) (by
  rw [poly_eval.eq]
  unfold poly_eval.f sa evQ
  have d1 : 0 < F * W := Nat.mul_pos f0 w0
  have d2 : 0 < F * W * W := Nat.mul_pos d1 w0
  have e1 := pw_mul hF hW
  have e2 := pw_mul e1 hW
  have s3 := hf.z3.mul hx
  have s4 := hf.z4.mul hy
  have s1 : Sz f.p1 (F * W) (b + c + 1) := hf.z1.mono (Nat.dvd_mul_right ..) (by omega)
  have sA := s1.add (s3.add s4)
  have s2 : Sz f.p2 (F * W) (b + c) := hf.z2.mono (Nat.dvd_mul_right ..) (by omega)
  have s5 := hf.z5.mul hy
  have sB := s2.add s5
  have sX := sA.mul hx
  have sY := (sB.mul hy).up (show _ ≤ b + c + 1 + 1 + c by omega)
  have r0 : Rz f.p0 8000 := hf.z0.rz f0 hF (by omega)
  have r1 : Rz f.p1 8000 := hf.z1.rz f0 hF (by omega)
  have r2 : Rz f.p2 8000 := hf.z2.rz f0 hF (by omega)
  have r3 : Rz f.p3 8000 := hf.z3.rz f0 hF (by omega)
  have r4 : Rz f.p4 8000 := hf.z4.rz f0 hF (by omega)
  have r5 : Rz f.p5 8000 := hf.z5.rz f0 hF (by omega)
  have rx : Rz x 8000 := hx.rz w0 hW (by omega)
  have ry : Rz y 8000 := hy.rz w0 hW (by omega)
  have q3 : Rz (f.p3 * x) 8000 := s3.rz d1 e1 (by omega)
  have q4 : Rz (f.p4 * y) 8000 := s4.rz d1 e1 (by omega)
  have q34 : Rz (f.p3 * x + f.p4 * y) 8000 := (s3.add s4).rz d1 e1 (by omega)
  have qA : Rz (f.p1 + (f.p3 * x + f.p4 * y)) 8000 := sA.rz d1 e1 (by omega)
  have q5 : Rz (f.p5 * y) 8000 := s5.rz d1 e1 (by omega)
  have qB : Rz (f.p2 + f.p5 * y) 8000 := sB.rz d1 e1 (by omega)
  have qX : Rz ((f.p1 + (f.p3 * x + f.p4 * y)) * x) 8000 := sX.rz d2 e2 (by omega)
  have qY : Rz ((f.p2 + f.p5 * y) * y) 8000 := sY.rz d2 e2 (by omega)
  have qS : Rz ((f.p1 + (f.p3 * x + f.p4 * y)) * x + (f.p2 + f.p5 * y) * y) 8000 := (sX.add sY).rz d2 e2 (by omega)
  clear hs e1 e2 hF hW
  rw [cells6]
  simp (disch := first | exact dD | fail) only [Wd, W2d, W3d, Nat.reduceAdd, Nat.reduceMul, Nat.reduceSub, ax0, ax1, ax2, ax3, ax4, ax5, c_pprod, c_psum])
/-! ### The document's answer -/
theorem c_eval7 (hf : Pz f F b) (hx : Sz x W c) (hy : Sz y W c) (f0 : 0 < F) (w0 : 0 < W) (hF : F < P256 m) (hW : W < P256 n) (hs : m + 2 * n + b + 2 * c + 10 ≤ 20000) : byVal (callW gp) h fid.gussetref07_Eval [sa f, pa x y] = some (ra (ev7 f x y)) := byVal_imm (imm_L2 imm_sa imm_pa) (by
  rw [gussetref07_Eval.eq]
  unfold gussetref07_Eval.f sa ev7
  have d1 : 0 < F * W := Nat.mul_pos f0 w0
  have d2 : 0 < F * W * W := Nat.mul_pos d1 w0
  have e1 := pw_mul hF hW
  have e2 := pw_mul e1 hW
  have e3 := pw_mul hW hW
  have d3 : 0 < W * W := Nat.mul_pos w0 w0
  have v0 : Sz ((1 : Int) : Rat) 1 0 := Sz_int (by decide)
  have z0 : Sz ((0 : Int) : Rat) 1 0 := Sz_int (by decide)
  have g : ∀ {q D k}, Sz q D k → D ∣ F * W * W → k ≤ b + 2 * c → Sz q (F * W * W) (b + 2 * c) := fun h hd hk => h.mono hd hk
  have t0 : Sz (f.p0 * ((1 : Int) : Rat)) (F * W * W) (b + 2 * c) := g (hf.z0.mul v0) (by rw [Nat.mul_one, Nat.mul_assoc]; exact Nat.dvd_mul_right ..) (by omega)
  have t1 : Sz (f.p1 * x) (F * W * W) (b + 2 * c) := g (hf.z1.mul hx) (Nat.dvd_mul_right ..) (by omega)
  have t2 : Sz (f.p2 * y) (F * W * W) (b + 2 * c) := g (hf.z2.mul hy) (Nat.dvd_mul_right ..) (by omega)
  have t3 : Sz (f.p3 * (x * x)) (F * W * W) (b + 2 * c) := g (hf.z3.mul (hx.mul hx)) (by rw [Nat.mul_assoc]; exact Nat.dvd_refl _) (by omega)
  have t4 : Sz (f.p4 * (x * y)) (F * W * W) (b + 2 * c) := g (hf.z4.mul (hx.mul hy)) (by rw [Nat.mul_assoc]; exact Nat.dvd_refl _) (by omega)
  have t5 : Sz (f.p5 * (y * y)) (F * W * W) (b + 2 * c) := g (hf.z5.mul (hy.mul hy)) (by rw [Nat.mul_assoc]; exact Nat.dvd_refl _) (by omega)
  have z1 : Sz ((0 : Int) : Rat) (F * W * W) (b + 2 * c) := g z0 (Nat.one_dvd _) (by omega)
  have u0 := z1.add t0
  have u1 := u0.add (t1.up (by omega))
  have u2 := u1.add (t2.up (by omega))
  have u3 := u2.add (t3.up (by omega))
  have u4 := u3.add (t4.up (by omega))
  have r0 : Rz f.p0 20000 := hf.z0.rz f0 hF (by omega)
  have r1 : Rz f.p1 20000 := hf.z1.rz f0 hF (by omega)
  have r2 : Rz f.p2 20000 := hf.z2.rz f0 hF (by omega)
  have r3 : Rz f.p3 20000 := hf.z3.rz f0 hF (by omega)
  have r4 : Rz f.p4 20000 := hf.z4.rz f0 hF (by omega)
  have r5 : Rz f.p5 20000 := hf.z5.rz f0 hF (by omega)
  have rx : Rz x 20000 := hx.rz w0 hW (by omega)
  have ry : Rz y 20000 := hy.rz w0 hW (by omega)
  have rxx : Rz (x * x) 20000 := (hx.mul hx).rz d3 e3 (by omega)
  have rxy : Rz (x * y) 20000 := (hx.mul hy).rz d3 e3 (by omega)
  have ryy : Rz (y * y) 20000 := (hy.mul hy).rz d3 e3 (by omega)
  have k0 : Rz (f.p0 * ((1 : Int) : Rat)) 20000 := t0.rz d2 e2 (by omega)
  have k1 : Rz (f.p1 * x) 20000 := t1.rz d2 e2 (by omega)
  have k2 : Rz (f.p2 * y) 20000 := t2.rz d2 e2 (by omega)
  have k3 : Rz (f.p3 * (x * x)) 20000 := t3.rz d2 e2 (by omega)
  have k4 : Rz (f.p4 * (x * y)) 20000 := t4.rz d2 e2 (by omega)
  have k5 : Rz (f.p5 * (y * y)) 20000 := t5.rz d2 e2 (by omega)
  have kz : Rz ((0 : Int) : Rat) 20000 := z1.rz d2 e2 (by omega)
  have k1' : Rz ((1 : Int) : Rat) 20000 := v0.rz (D := 1) (d := 1) (by omega) (by decide) (by omega)
  have l0 := u0.rz d2 e2 (n := 20000) (by omega)
  have l1 := u1.rz d2 e2 (n := 20000) (by omega)
  have l2 := u2.rz d2 e2 (n := 20000) (by omega)
  have l3 := u3.rz d2 e2 (n := 20000) (by omega)
  have l4 := u4.rz d2 e2 (n := 20000) (by omega)
  clear hs e1 e2 e3 hF hW
  rw [cells6]
  simp (disch := first | exact dD | fail) only [Wd, W2d, W3d, Nat.reduceAdd, Nat.reduceMul, Nat.reduceSub, k_3of, k_3sq, k_3mul, bslc_a6]
  rw [gussetref07_Eval.l0_eq]
  simp (disch := first | exact dD | fail) only [Wd, W2d, W3d, Nat.reduceAdd, Nat.reduceMul, Nat.reduceSub, lc7_0, lc7_1, ax0, sidx_is0, inc0, k_3mul, k_3sum]
  rw [gussetref07_Eval.l0_eq]
  simp (disch := first | exact dD | fail) only [Wd, W2d, W3d, Nat.reduceAdd, Nat.reduceMul, Nat.reduceSub, lc7_0, lc7_1, lc7_2, ax1, sidx_is1, inc1, k_3mul, k_3sum]
  rw [gussetref07_Eval.l0_eq, ← lc7_2]
  simp (disch := first | exact dD | fail) only [Wd, W2d, W3d, Nat.reduceAdd, Nat.reduceMul, Nat.reduceSub, ax2, aidx_n, k_3mul, k_3sum]
  rw [gussetref07_Eval.l0_eq]
  simp (disch := first | exact dD | fail) only [Wd, W2d, W3d, Nat.reduceAdd, Nat.reduceMul, Nat.reduceSub, ax3, aidx_n, k_3mul, k_3sum]
  rw [gussetref07_Eval.l0_eq]
  simp (disch := first | exact dD | fail) only [Wd, W2d, W3d, Nat.reduceAdd, Nat.reduceMul, Nat.reduceSub, ax4, aidx_n, k_3mul, k_3sum]
  rw [gussetref07_Eval.l0_eq]
  simp (disch := first | exact dD | fail) only [Wd, W2d, W3d, Nat.reduceAdd, Nat.reduceMul, Nat.reduceSub, ax5, aidx_n, k_3mul, k_3sum]
  rw [gussetref07_Eval.l0_eq]
  simp (disch := first | exact dD | fail) only [Wd, W2d, W3d, Nat.reduceAdd, Nat.reduceMul, Nat.reduceSub])
end
end Go.Proofs.YtcpmkohlmjakmaaGreatDoor.Am