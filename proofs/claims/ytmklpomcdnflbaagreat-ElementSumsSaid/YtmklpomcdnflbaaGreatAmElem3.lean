import Derived.Test.YtmklpomcdnflbaaGreatAmElem2
/- Slopes, products, jumps: the rest. -/
set_option linter.unusedVariables false
set_option maxRecDepth 10000
set_option linter.unusedSimpArgs false
namespace Go.Proofs.YtmklpomcdnflbaaGreat.Am
open Go
section
variable {h : Heap} {ax ay bx b_ cx cy dx dy u0 u1 u2 : Rat}

theorem k_slopeN (h1 : Rz ax 100) (h2 : Rz ay 100) (h3 : Rz bx 100) (h4 : Rz b_ 100) (h5 : Rz cx 100) (h6 : Rz cy 100) {t : U3} (ht : t.ok) (l1 : t.1.m.length ≤ 3000 ∧ t.1.d.length ≤ 3000) (l2 : t.2.1.m.length ≤ 3000 ∧ t.2.1.d.length ≤ 3000) (l3 : t.2.2.m.length ≤ 3000 ∧ t.2.2.d.length ≤ 3000) (hne : nume t ≠ 0) : byVal (callW gp) h fid.element_Slope [pa ax ay, pa bx b_, pa cx cy, .agg (u3c t)] = some (.tup [.agg [.bool false, str [], str [], .bool false, str [], str []], .int .i64 (nume t)]) := byVal_imm (imm_L4' imm_pa imm_pa imm_pa imm_u3) (by
  obtain ⟨p, q, r⟩ := t
  obtain ⟨hp, hq, hr⟩ := ht
  simp only at hp hq hr l1 l2 l3
  rw [nume_eq] at hne
  rw [element_Slope.eq, nume_eq]
  have c1 := fun h => c_rcheck (h := h) (s := p.s) hp.1 hp.2
  have c2 := fun h => c_rcheck (h := h) (s := q.s) hq.1 hq.2
  have c3 := fun h => c_rcheck (h := h) (s := r.s) hr.1 hr.2
  have ek : ∀ t : RT, rchk t.s t.m t.d = t.chk := fun _ => rfl
  simp only [ek] at c1 c2 c3
  unfold element_Slope.f u3c rtc
  simp only [List.cons_append, List.nil_append]
  simp (disch := first | exact dD | fail) only [Wd, W2d, W3d, Nat.reduceAdd, Nat.reduceMul, Nat.reduceSub, lc0, lc1, lc2, lc3, ad0, ad1, ad2, k_orient, rc9]
  rw [element_Slope.l1_eq]
  unfold element_Slope.j0
  by_cases z1 : p.chk = 0
  rotate_left
  · simp only [if_neg z1]
    generalize p.chk = e at *
    simp (disch := first | exact dD | fail) only [Wd, W2d, W3d, Nat.reduceAdd, Nat.reduceMul, Nat.reduceSub, lc0, lc1, lc2, lc3, ad0, ad1, ad2, idx_0, idx_1, idx_2, c1, str_nil]
  simp only [if_pos z1] at hne ⊢
  rw [z1] at c1
  simp (disch := first | exact dD | fail) only [Wd, W2d, W3d, Nat.reduceAdd, Nat.reduceMul, Nat.reduceSub, lc0, lc1, lc2, lc3, ad0, ad1, ad2, idx_0, idx_1, idx_2, c1]
  rw [element_Slope.l1_eq]
  unfold element_Slope.j0
  by_cases z2 : q.chk = 0
  rotate_left
  · simp only [if_neg z2]
    generalize q.chk = e at *
    simp (disch := first | exact dD | fail) only [Wd, W2d, W3d, Nat.reduceAdd, Nat.reduceMul, Nat.reduceSub, lc0, lc1, lc2, lc3, ad0, ad1, ad2, idx_0, idx_1, idx_2, c2, str_nil]
  simp only [if_pos z2] at hne ⊢
  rw [z2] at c2
  simp (disch := first | exact dD | fail) only [Wd, W2d, W3d, Nat.reduceAdd, Nat.reduceMul, Nat.reduceSub, lc0, lc1, lc2, lc3, ad0, ad1, ad2, idx_0, idx_1, idx_2, c2]
  rw [element_Slope.l1_eq]
  unfold element_Slope.j0
  generalize r.chk = e at *
  simp (disch := first | exact dD | fail) only [Wd, W2d, W3d, Nat.reduceAdd, Nat.reduceMul, Nat.reduceSub, lc0, lc1, lc2, lc3, ad0, ad1, ad2, idx_0, idx_1, idx_2, c3, str_nil])
theorem k_slope0 (h1 : Rz ax 100) (h2 : Rz ay 100) (h3 : Rz bx 100) (h4 : Rz b_ 100) (h5 : Rz cx 100) (h6 : Rz cy 100) (w0 : Rz u0 200) (w1 : Rz u1 200) (w2 : Rz u2 200) (h0 : area ax ay bx b_ cx cy = 0) : byVal (callW gp) h fid.element_Slope [pa ax ay, pa bx b_, pa cx cy, .agg (u3c (rt u0, rt u1, rt u2))] = some (.tup [.agg [.bool false, str [], str [], .bool false, str [], str []], .int .i64 6]) := byVal_imm (imm_L4' imm_pa imm_pa imm_pa imm_u3) (by
  rw [element_Slope.eq]
  unfold element_Slope.f
  have c0 := w0.mono (m := 8000) (by omega)
  have c1 := w1.mono (m := 8000) (by omega)
  have c2 := w2.mono (m := 8000) (by omega)
  have l0 : (nb u0.num.natAbs).length ≤ 200 := w0.num
  have l1 : (nb u0.den).length ≤ 200 := w0.den
  have l2 : (nb u1.num.natAbs).length ≤ 200 := w1.num
  have l3 : (nb u1.den).length ≤ 200 := w1.den
  have l4 : (nb u2.num.natAbs).length ≤ 200 := w2.num
  have l5 : (nb u2.den).length ≤ 200 := w2.den
  have q0 : rsgn (area ax ay bx b_ cx cy) = 0 := rsgn_zero.2 h0
  unfold u3c rtc rt at *
  simp only [List.cons_append, List.nil_append] at *
  simp (disch := first | exact dD | fail) only [Wd, W2d, W3d, Nat.reduceAdd, Nat.reduceMul, Nat.reduceSub, lc0, lc1, lc2, lc3, ad0, ad1, ad2, k_orient, rc9]
  rw [element_Slope.l1_eq]
  unfold element_Slope.j0
  simp (disch := first | exact dD | fail) only [Wd, W2d, W3d, Nat.reduceAdd, Nat.reduceMul, Nat.reduceSub, lc0, lc1, lc2, lc3, ad0, ad1, ad2, idx_0, idx_1, idx_2, k_rcheck]
  rw [element_Slope.l1_eq]
  unfold element_Slope.j0
  simp (disch := first | exact dD | fail) only [Wd, W2d, W3d, Nat.reduceAdd, Nat.reduceMul, Nat.reduceSub, lc0, lc1, lc2, lc3, ad0, ad1, ad2, idx_0, idx_1, idx_2, k_rcheck]
  rw [element_Slope.l1_eq]
  unfold element_Slope.j0
  simp (disch := first | exact dD | fail) only [Wd, W2d, W3d, Nat.reduceAdd, Nat.reduceMul, Nat.reduceSub, lc0, lc1, lc2, lc3, ad0, ad1, ad2, idx_0, idx_1, idx_2, k_rcheck]
  rw [element_Slope.l1_eq]
  simp (disch := first | exact dD | fail) only [Wd, W2d, W3d, Nat.reduceAdd, Nat.reduceMul, Nat.reduceSub, lc0, lc1, lc2, lc3, ad0, ad1, ad2, q0, str_nil])

theorem k_hat0 : byVal (callW gp) h fid.gussetref17_Hat [.int .i64 0] = some (.agg (u3c (rt ((1 : Int) : Rat), rt ((0 : Int) : Rat), rt ((0 : Int) : Rat)))) := byVal_imm (imm_L1 (imm_int.mono (by omega))) (by
  rw [gussetref17_Hat.eq]
  unfold gussetref17_Hat.f u3c
  simp (disch := first | exact dD | fail) only [Wd, W2d, W3d, Nat.reduceAdd, Nat.reduceMul, Nat.reduceSub, lc0, lc1, lc2, lc3, ad0, ad1, ad2, aidx_0, aidx_1, aidx_2, k_3of, rc9]
  rfl)

theorem k_hat1 : byVal (callW gp) h fid.gussetref17_Hat [.int .i64 1] = some (.agg (u3c (rt ((0 : Int) : Rat), rt ((1 : Int) : Rat), rt ((0 : Int) : Rat)))) := byVal_imm (imm_L1 (imm_int.mono (by omega))) (by
  rw [gussetref17_Hat.eq]
  unfold gussetref17_Hat.f u3c
  simp (disch := first | exact dD | fail) only [Wd, W2d, W3d, Nat.reduceAdd, Nat.reduceMul, Nat.reduceSub, lc0, lc1, lc2, lc3, ad0, ad1, ad2, aidx_0, aidx_1, aidx_2, k_3of, rc9]
  rfl)

theorem k_hat2 : byVal (callW gp) h fid.gussetref17_Hat [.int .i64 2] = some (.agg (u3c (rt ((0 : Int) : Rat), rt ((0 : Int) : Rat), rt ((1 : Int) : Rat)))) := byVal_imm (imm_L1 (imm_int.mono (by omega))) (by
  rw [gussetref17_Hat.eq]
  unfold gussetref17_Hat.f u3c
  simp (disch := first | exact dD | fail) only [Wd, W2d, W3d, Nat.reduceAdd, Nat.reduceMul, Nat.reduceSub, lc0, lc1, lc2, lc3, ad0, ad1, ad2, aidx_0, aidx_1, aidx_2, k_3of, rc9]
  rfl)

theorem st_plain {A d : Rat} (h0 : A ≠ 0) : absQ A * Rat.divInt 1 2 * (d / (A * A)) = stQ A d := by
  have e : Rat.divInt 1 2 = 1 / 2 := by decide +kernel
  unfold absQ stQ
  rw [e]
  have b := rsgn_b A
  have z : rsgn A ≠ 0 := fun h' => h0 (rsgn_zero.1 h')
  by_cases h : A < 0
  · have s : rsgn A = -1 := by have := rsgn_lt.2 h; omega
    have c : ((2 * (-1) : Int) : Rat) = -2 := by decide +kernel
    rw [if_pos h, s, c]
    grind
  · have s : rsgn A = 1 := by
      have : ¬ rsgn A < 0 := fun h' => h (rsgn_lt.1 h')
      omega
    have c : ((2 * 1 : Int) : Rat) = 2 := by decide +kernel
    rw [if_neg h, s, c]
    grind

theorem st_00 (h0 : area ax ay bx b_ cx cy ≠ 0) : absQ (area ax ay bx b_ cx cy) * Rat.divInt 1 2 * (slX ax ay bx b_ cx cy ((1 : Int) : Rat) ((0 : Int) : Rat) ((0 : Int) : Rat) * slX ax ay bx b_ cx cy ((1 : Int) : Rat) ((0 : Int) : Rat) ((0 : Int) : Rat) + slY ax ay bx b_ cx cy ((1 : Int) : Rat) ((0 : Int) : Rat) ((0 : Int) : Rat) * slY ax ay bx b_ cx cy ((1 : Int) : Rat) ((0 : Int) : Rat) ((0 : Int) : Rat)) = stQ (area ax ay bx b_ cx cy) ((cx - bx) * (cx - bx) + (cy - b_) * (cy - b_)) := by
  rw [← st_plain h0]
  simp only [slX_eq h0, slY_eq h0]
  generalize hA : area ax ay bx b_ cx cy = A at *
  have z : ((0 : Int) : Rat) = 0 := rfl
  have z1 : ((1 : Int) : Rat) = 1 := rfl
  rw [z, z1]
  congr 1
  grind

theorem st_01 (h0 : area ax ay bx b_ cx cy ≠ 0) : absQ (area ax ay bx b_ cx cy) * Rat.divInt 1 2 * (slX ax ay bx b_ cx cy ((1 : Int) : Rat) ((0 : Int) : Rat) ((0 : Int) : Rat) * slX ax ay bx b_ cx cy ((0 : Int) : Rat) ((1 : Int) : Rat) ((0 : Int) : Rat) + slY ax ay bx b_ cx cy ((1 : Int) : Rat) ((0 : Int) : Rat) ((0 : Int) : Rat) * slY ax ay bx b_ cx cy ((0 : Int) : Rat) ((1 : Int) : Rat) ((0 : Int) : Rat)) = stQ (area ax ay bx b_ cx cy) ((cx - bx) * (ax - cx) + (cy - b_) * (ay - cy)) := by
  rw [← st_plain h0]
  simp only [slX_eq h0, slY_eq h0]
  generalize hA : area ax ay bx b_ cx cy = A at *
  have z : ((0 : Int) : Rat) = 0 := rfl
  have z1 : ((1 : Int) : Rat) = 1 := rfl
  rw [z, z1]
  congr 1
  grind

theorem st_02 (h0 : area ax ay bx b_ cx cy ≠ 0) : absQ (area ax ay bx b_ cx cy) * Rat.divInt 1 2 * (slX ax ay bx b_ cx cy ((1 : Int) : Rat) ((0 : Int) : Rat) ((0 : Int) : Rat) * slX ax ay bx b_ cx cy ((0 : Int) : Rat) ((0 : Int) : Rat) ((1 : Int) : Rat) + slY ax ay bx b_ cx cy ((1 : Int) : Rat) ((0 : Int) : Rat) ((0 : Int) : Rat) * slY ax ay bx b_ cx cy ((0 : Int) : Rat) ((0 : Int) : Rat) ((1 : Int) : Rat)) = stQ (area ax ay bx b_ cx cy) ((cx - bx) * (bx - ax) + (cy - b_) * (b_ - ay)) := by
  rw [← st_plain h0]
  simp only [slX_eq h0, slY_eq h0]
  generalize hA : area ax ay bx b_ cx cy = A at *
  have z : ((0 : Int) : Rat) = 0 := rfl
  have z1 : ((1 : Int) : Rat) = 1 := rfl
  rw [z, z1]
  congr 1
  grind

theorem st_10 (h0 : area ax ay bx b_ cx cy ≠ 0) : absQ (area ax ay bx b_ cx cy) * Rat.divInt 1 2 * (slX ax ay bx b_ cx cy ((0 : Int) : Rat) ((1 : Int) : Rat) ((0 : Int) : Rat) * slX ax ay bx b_ cx cy ((1 : Int) : Rat) ((0 : Int) : Rat) ((0 : Int) : Rat) + slY ax ay bx b_ cx cy ((0 : Int) : Rat) ((1 : Int) : Rat) ((0 : Int) : Rat) * slY ax ay bx b_ cx cy ((1 : Int) : Rat) ((0 : Int) : Rat) ((0 : Int) : Rat)) = stQ (area ax ay bx b_ cx cy) ((ax - cx) * (cx - bx) + (ay - cy) * (cy - b_)) := by
  rw [← st_plain h0]
  simp only [slX_eq h0, slY_eq h0]
  generalize hA : area ax ay bx b_ cx cy = A at *
  have z : ((0 : Int) : Rat) = 0 := rfl
  have z1 : ((1 : Int) : Rat) = 1 := rfl
  rw [z, z1]
  congr 1
  grind

theorem st_11 (h0 : area ax ay bx b_ cx cy ≠ 0) : absQ (area ax ay bx b_ cx cy) * Rat.divInt 1 2 * (slX ax ay bx b_ cx cy ((0 : Int) : Rat) ((1 : Int) : Rat) ((0 : Int) : Rat) * slX ax ay bx b_ cx cy ((0 : Int) : Rat) ((1 : Int) : Rat) ((0 : Int) : Rat) + slY ax ay bx b_ cx cy ((0 : Int) : Rat) ((1 : Int) : Rat) ((0 : Int) : Rat) * slY ax ay bx b_ cx cy ((0 : Int) : Rat) ((1 : Int) : Rat) ((0 : Int) : Rat)) = stQ (area ax ay bx b_ cx cy) ((ax - cx) * (ax - cx) + (ay - cy) * (ay - cy)) := by
  rw [← st_plain h0]
  simp only [slX_eq h0, slY_eq h0]
  generalize hA : area ax ay bx b_ cx cy = A at *
  have z : ((0 : Int) : Rat) = 0 := rfl
  have z1 : ((1 : Int) : Rat) = 1 := rfl
  rw [z, z1]
  congr 1
  grind

theorem st_12 (h0 : area ax ay bx b_ cx cy ≠ 0) : absQ (area ax ay bx b_ cx cy) * Rat.divInt 1 2 * (slX ax ay bx b_ cx cy ((0 : Int) : Rat) ((1 : Int) : Rat) ((0 : Int) : Rat) * slX ax ay bx b_ cx cy ((0 : Int) : Rat) ((0 : Int) : Rat) ((1 : Int) : Rat) + slY ax ay bx b_ cx cy ((0 : Int) : Rat) ((1 : Int) : Rat) ((0 : Int) : Rat) * slY ax ay bx b_ cx cy ((0 : Int) : Rat) ((0 : Int) : Rat) ((1 : Int) : Rat)) = stQ (area ax ay bx b_ cx cy) ((ax - cx) * (bx - ax) + (ay - cy) * (b_ - ay)) := by
  rw [← st_plain h0]
  simp only [slX_eq h0, slY_eq h0]
  generalize hA : area ax ay bx b_ cx cy = A at *
  have z : ((0 : Int) : Rat) = 0 := rfl
  have z1 : ((1 : Int) : Rat) = 1 := rfl
  rw [z, z1]
  congr 1
  grind

theorem st_20 (h0 : area ax ay bx b_ cx cy ≠ 0) : absQ (area ax ay bx b_ cx cy) * Rat.divInt 1 2 * (slX ax ay bx b_ cx cy ((0 : Int) : Rat) ((0 : Int) : Rat) ((1 : Int) : Rat) * slX ax ay bx b_ cx cy ((1 : Int) : Rat) ((0 : Int) : Rat) ((0 : Int) : Rat) + slY ax ay bx b_ cx cy ((0 : Int) : Rat) ((0 : Int) : Rat) ((1 : Int) : Rat) * slY ax ay bx b_ cx cy ((1 : Int) : Rat) ((0 : Int) : Rat) ((0 : Int) : Rat)) = stQ (area ax ay bx b_ cx cy) ((bx - ax) * (cx - bx) + (b_ - ay) * (cy - b_)) := by
  rw [← st_plain h0]
  simp only [slX_eq h0, slY_eq h0]
  generalize hA : area ax ay bx b_ cx cy = A at *
  have z : ((0 : Int) : Rat) = 0 := rfl
  have z1 : ((1 : Int) : Rat) = 1 := rfl
  rw [z, z1]
  congr 1
  grind

theorem st_21 (h0 : area ax ay bx b_ cx cy ≠ 0) : absQ (area ax ay bx b_ cx cy) * Rat.divInt 1 2 * (slX ax ay bx b_ cx cy ((0 : Int) : Rat) ((0 : Int) : Rat) ((1 : Int) : Rat) * slX ax ay bx b_ cx cy ((0 : Int) : Rat) ((1 : Int) : Rat) ((0 : Int) : Rat) + slY ax ay bx b_ cx cy ((0 : Int) : Rat) ((0 : Int) : Rat) ((1 : Int) : Rat) * slY ax ay bx b_ cx cy ((0 : Int) : Rat) ((1 : Int) : Rat) ((0 : Int) : Rat)) = stQ (area ax ay bx b_ cx cy) ((bx - ax) * (ax - cx) + (b_ - ay) * (ay - cy)) := by
  rw [← st_plain h0]
  simp only [slX_eq h0, slY_eq h0]
  generalize hA : area ax ay bx b_ cx cy = A at *
  have z : ((0 : Int) : Rat) = 0 := rfl
  have z1 : ((1 : Int) : Rat) = 1 := rfl
  rw [z, z1]
  congr 1
  grind

theorem st_22 (h0 : area ax ay bx b_ cx cy ≠ 0) : absQ (area ax ay bx b_ cx cy) * Rat.divInt 1 2 * (slX ax ay bx b_ cx cy ((0 : Int) : Rat) ((0 : Int) : Rat) ((1 : Int) : Rat) * slX ax ay bx b_ cx cy ((0 : Int) : Rat) ((0 : Int) : Rat) ((1 : Int) : Rat) + slY ax ay bx b_ cx cy ((0 : Int) : Rat) ((0 : Int) : Rat) ((1 : Int) : Rat) * slY ax ay bx b_ cx cy ((0 : Int) : Rat) ((0 : Int) : Rat) ((1 : Int) : Rat)) = stQ (area ax ay bx b_ cx cy) ((bx - ax) * (bx - ax) + (b_ - ay) * (b_ - ay)) := by
  rw [← st_plain h0]
  simp only [slX_eq h0, slY_eq h0]
  generalize hA : area ax ay bx b_ cx cy = A at *
  have z : ((0 : Int) : Rat) = 0 := rfl
  have z1 : ((1 : Int) : Rat) = 1 := rfl
  rw [z, z1]
  congr 1
  grind

theorem k_17stiff (h1 : Rz ax 100) (h2 : Rz ay 100) (h3 : Rz bx 100) (h4 : Rz b_ 100) (h5 : Rz cx 100) (h6 : Rz cy 100) (h0 : area ax ay bx b_ cx cy ≠ 0) : byVal (callW gp) h fid.gussetref17_Stiff [corn ax ay bx b_ cx cy] = some (.agg (stiffC ax ay bx b_ cx cy)) := byVal_imm (imm_L1 imm_corn) (by
  rw [gussetref17_Stiff.eq]
  unfold gussetref17_Stiff.f stiffC
  have o0 : Rz ((0 : Int) : Rat) 20 := (Rz_int (by omega) (by omega)).mono (by omega)
  have o1 : Rz ((1 : Int) : Rat) 20 := (Rz_int (by omega) (by omega)).mono (by omega)
  have p0 := o0.mono (m := 200) (by omega)
  have p1 := o1.mono (m := 200) (by omega)
  have x0 : Rz (slX ax ay bx b_ cx cy ((1 : Int) : Rat) ((0 : Int) : Rat) ((0 : Int) : Rat)) 2100 := by rw [slX_eq h0]; exact (((((o0.sub o1).mul (h6.sub h2)).sub ((o0.sub o1).mul (h4.sub h2))).div (Rz.area h1 h2 h3 h4 h5 h6))).mono (by omega)
  have y0 : Rz (slY ax ay bx b_ cx cy ((1 : Int) : Rat) ((0 : Int) : Rat) ((0 : Int) : Rat)) 2100 := by rw [slY_eq h0]; exact (((((h3.sub h1).mul (o0.sub o1)).sub ((h5.sub h1).mul (o0.sub o1))).div (Rz.area h1 h2 h3 h4 h5 h6))).mono (by omega)
  have x1 : Rz (slX ax ay bx b_ cx cy ((0 : Int) : Rat) ((1 : Int) : Rat) ((0 : Int) : Rat)) 2100 := by rw [slX_eq h0]; exact (((((o1.sub o0).mul (h6.sub h2)).sub ((o0.sub o0).mul (h4.sub h2))).div (Rz.area h1 h2 h3 h4 h5 h6))).mono (by omega)
  have y1 : Rz (slY ax ay bx b_ cx cy ((0 : Int) : Rat) ((1 : Int) : Rat) ((0 : Int) : Rat)) 2100 := by rw [slY_eq h0]; exact (((((h3.sub h1).mul (o0.sub o0)).sub ((h5.sub h1).mul (o1.sub o0))).div (Rz.area h1 h2 h3 h4 h5 h6))).mono (by omega)
  have x2 : Rz (slX ax ay bx b_ cx cy ((0 : Int) : Rat) ((0 : Int) : Rat) ((1 : Int) : Rat)) 2100 := by rw [slX_eq h0]; exact (((((o0.sub o0).mul (h6.sub h2)).sub ((o1.sub o0).mul (h4.sub h2))).div (Rz.area h1 h2 h3 h4 h5 h6))).mono (by omega)
  have y2 : Rz (slY ax ay bx b_ cx cy ((0 : Int) : Rat) ((0 : Int) : Rat) ((1 : Int) : Rat)) 2100 := by rw [slY_eq h0]; exact (((((h3.sub h1).mul (o1.sub o0)).sub ((h5.sub h1).mul (o0.sub o0))).div (Rz.area h1 h2 h3 h4 h5 h6))).mono (by omega)
  have x0' := x0.mono (m := 9000) (by omega)
  have y0' := y0.mono (m := 9000) (by omega)
  have x1' := x1.mono (m := 9000) (by omega)
  have y1' := y1.mono (m := 9000) (by omega)
  have x2' := x2.mono (m := 9000) (by omega)
  have y2' := y2.mono (m := 9000) (by omega)
  have d00 := ((x0.mul x0).add (y0.mul y0)).mono (m := 20000) (by omega)
  have d01 := ((x0.mul x1).add (y0.mul y1)).mono (m := 20000) (by omega)
  have d02 := ((x0.mul x2).add (y0.mul y2)).mono (m := 20000) (by omega)
  have d10 := ((x1.mul x0).add (y1.mul y0)).mono (m := 20000) (by omega)
  have d11 := ((x1.mul x1).add (y1.mul y1)).mono (m := 20000) (by omega)
  have d12 := ((x1.mul x2).add (y1.mul y2)).mono (m := 20000) (by omega)
  have d20 := ((x2.mul x0).add (y2.mul y0)).mono (m := 20000) (by omega)
  have d21 := ((x2.mul x1).add (y2.mul y1)).mono (m := 20000) (by omega)
  have d22 := ((x2.mul x2).add (y2.mul y2)).mono (m := 20000) (by omega)
  have ar : Rz (absQ (area ax ay bx b_ cx cy) * Rat.divInt 1 2) 20000 := ((Rz_abs (Rz.area h1 h2 h3 h4 h5 h6)).mul (m := 20) ⟨by show (nb (Rat.divInt 1 2).num.natAbs).length ≤ 20; decide +kernel, by show (nb (Rat.divInt 1 2).den).length ≤ 20; decide +kernel⟩).mono (by omega)
  have ka := fun h => k_17area (h := h) h1 h2 h3 h4 h5 h6
  have s0 := fun h => k_17slope (h := h) h1 h2 h3 h4 h5 h6 p1 p0 p0 h0
  have s1 := fun h => k_17slope (h := h) h1 h2 h3 h4 h5 h6 p0 p1 p0 h0
  have s2 := fun h => k_17slope (h := h) h1 h2 h3 h4 h5 h6 p0 p0 p1 h0
  have ht0 := fun h => k_hat0 (h := h)
  have ht1 := fun h => k_hat1 (h := h)
  have ht2 := fun h => k_hat2 (h := h)
  have e00 := st_00 h0
  have e01 := st_01 h0
  have e02 := st_02 h0
  have e10 := st_10 h0
  have e11 := st_11 h0
  have e12 := st_12 h0
  have e20 := st_20 h0
  have e21 := st_21 h0
  have e22 := st_22 h0
  generalize slX ax ay bx b_ cx cy ((1 : Int) : Rat) ((0 : Int) : Rat) ((0 : Int) : Rat) = X0 at *
  generalize slY ax ay bx b_ cx cy ((1 : Int) : Rat) ((0 : Int) : Rat) ((0 : Int) : Rat) = Y0 at *
  generalize slX ax ay bx b_ cx cy ((0 : Int) : Rat) ((1 : Int) : Rat) ((0 : Int) : Rat) = X1 at *
  generalize slY ax ay bx b_ cx cy ((0 : Int) : Rat) ((1 : Int) : Rat) ((0 : Int) : Rat) = Y1 at *
  generalize slX ax ay bx b_ cx cy ((0 : Int) : Rat) ((0 : Int) : Rat) ((1 : Int) : Rat) = X2 at *
  generalize slY ax ay bx b_ cx cy ((0 : Int) : Rat) ((0 : Int) : Rat) ((1 : Int) : Rat) = Y2 at *
  unfold corn at *
  unfold u3c ptc rtc rt at *
  simp only [List.cons_append, List.nil_append] at *
  simp (disch := first | exact dD | fail) only [Wd, W2d, W3d, Nat.reduceAdd, Nat.reduceMul, Nat.reduceSub, lc0, lc1, lc2, lc3, ad0, ad1, ad2]
  rw [gussetref17_Stiff.l0_eq]
  simp (disch := first | exact dD | fail) only [Wd, W2d, W3d, Nat.reduceAdd, Nat.reduceMul, Nat.reduceSub, lc0, lc1, lc2, lc3, ad0, ad1, ad2]
  rw [gussetref17_Stiff.l1_eq]
  simp (disch := first | exact dD | fail) only [Wd, W2d, W3d, Nat.reduceAdd, Nat.reduceMul, Nat.reduceSub, lc0, lc1, lc2, lc3, ad0, ad1, ad2, aidx_0, aidx_1, aidx_2, rc18, ht0, ht1, ht2, s0, s1, s2, ka, k_4dot, k_3mul]
  rw [gussetref17_Stiff.l1_eq]
  simp (disch := first | exact dD | fail) only [Wd, W2d, W3d, Nat.reduceAdd, Nat.reduceMul, Nat.reduceSub, lc0, lc1, lc2, lc3, ad0, ad1, ad2, aidx_0, aidx_1, aidx_2, rc18, ht0, ht1, ht2, s0, s1, s2, ka, k_4dot, k_3mul]
  rw [gussetref17_Stiff.l1_eq]
  simp (disch := first | exact dD | fail) only [Wd, W2d, W3d, Nat.reduceAdd, Nat.reduceMul, Nat.reduceSub, lc0, lc1, lc2, lc3, ad0, ad1, ad2, aidx_0, aidx_1, aidx_2, rc18, ht0, ht1, ht2, s0, s1, s2, ka, k_4dot, k_3mul]
  rw [gussetref17_Stiff.l1_eq]
  simp (disch := first | exact dD | fail) only [Wd, W2d, W3d, Nat.reduceAdd, Nat.reduceMul, Nat.reduceSub, lc0, lc1, lc2, lc3, ad0, ad1, ad2, aidx_0, aidx_1, aidx_2, rc18, ht0, ht1, ht2, s0, s1, s2, ka, k_4dot, k_3mul]
  rw [gussetref17_Stiff.l0_eq]
  simp (disch := first | exact dD | fail) only [Wd, W2d, W3d, Nat.reduceAdd, Nat.reduceMul, Nat.reduceSub, lc0, lc1, lc2, lc3, ad0, ad1, ad2]
  rw [gussetref17_Stiff.l1_eq]
  simp (disch := first | exact dD | fail) only [Wd, W2d, W3d, Nat.reduceAdd, Nat.reduceMul, Nat.reduceSub, lc0, lc1, lc2, lc3, ad0, ad1, ad2, aidx_0, aidx_1, aidx_2, rc18, ht0, ht1, ht2, s0, s1, s2, ka, k_4dot, k_3mul]
  rw [gussetref17_Stiff.l1_eq]
  simp (disch := first | exact dD | fail) only [Wd, W2d, W3d, Nat.reduceAdd, Nat.reduceMul, Nat.reduceSub, lc0, lc1, lc2, lc3, ad0, ad1, ad2, aidx_0, aidx_1, aidx_2, rc18, ht0, ht1, ht2, s0, s1, s2, ka, k_4dot, k_3mul]
  rw [gussetref17_Stiff.l1_eq]
  simp (disch := first | exact dD | fail) only [Wd, W2d, W3d, Nat.reduceAdd, Nat.reduceMul, Nat.reduceSub, lc0, lc1, lc2, lc3, ad0, ad1, ad2, aidx_0, aidx_1, aidx_2, rc18, ht0, ht1, ht2, s0, s1, s2, ka, k_4dot, k_3mul]
  rw [gussetref17_Stiff.l1_eq]
  simp (disch := first | exact dD | fail) only [Wd, W2d, W3d, Nat.reduceAdd, Nat.reduceMul, Nat.reduceSub, lc0, lc1, lc2, lc3, ad0, ad1, ad2, aidx_0, aidx_1, aidx_2, rc18, ht0, ht1, ht2, s0, s1, s2, ka, k_4dot, k_3mul]
  rw [gussetref17_Stiff.l0_eq]
  simp (disch := first | exact dD | fail) only [Wd, W2d, W3d, Nat.reduceAdd, Nat.reduceMul, Nat.reduceSub, lc0, lc1, lc2, lc3, ad0, ad1, ad2]
  rw [gussetref17_Stiff.l1_eq]
  simp (disch := first | exact dD | fail) only [Wd, W2d, W3d, Nat.reduceAdd, Nat.reduceMul, Nat.reduceSub, lc0, lc1, lc2, lc3, ad0, ad1, ad2, aidx_0, aidx_1, aidx_2, rc18, ht0, ht1, ht2, s0, s1, s2, ka, k_4dot, k_3mul]
  rw [gussetref17_Stiff.l1_eq]
  simp (disch := first | exact dD | fail) only [Wd, W2d, W3d, Nat.reduceAdd, Nat.reduceMul, Nat.reduceSub, lc0, lc1, lc2, lc3, ad0, ad1, ad2, aidx_0, aidx_1, aidx_2, rc18, ht0, ht1, ht2, s0, s1, s2, ka, k_4dot, k_3mul]
  rw [gussetref17_Stiff.l1_eq]
  simp (disch := first | exact dD | fail) only [Wd, W2d, W3d, Nat.reduceAdd, Nat.reduceMul, Nat.reduceSub, lc0, lc1, lc2, lc3, ad0, ad1, ad2, aidx_0, aidx_1, aidx_2, rc18, ht0, ht1, ht2, s0, s1, s2, ka, k_4dot, k_3mul]
  rw [gussetref17_Stiff.l1_eq]
  simp (disch := first | exact dD | fail) only [Wd, W2d, W3d, Nat.reduceAdd, Nat.reduceMul, Nat.reduceSub, lc0, lc1, lc2, lc3, ad0, ad1, ad2, aidx_0, aidx_1, aidx_2, rc18, ht0, ht1, ht2, s0, s1, s2, ka, k_4dot, k_3mul]
  rw [gussetref17_Stiff.l0_eq]
  simp (disch := first | exact dD | fail) only [Wd, W2d, W3d, Nat.reduceAdd, Nat.reduceMul, Nat.reduceSub, lc0, lc1, lc2, lc3, ad0, ad1, ad2, rc27, e00, e01, e02, e10, e11, e12, e20, e21, e22]
  rfl)

end
end Go.Proofs.YtmklpomcdnflbaaGreat.Am