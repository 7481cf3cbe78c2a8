import Derived.Test.YtmklpomcdnflbaaGreatAmElem
/- Slopes and products of a triangle; both texts. -/
set_option linter.unusedVariables false
set_option maxRecDepth 10000
set_option linter.unusedSimpArgs false
namespace Go.Proofs.YtmklpomcdnflbaaGreat.Am
open Go

def stQ (A d : Rat) : Rat := d / (((2 * rsgn A : Int) : Rat) * A)
/-- The nine products of a triangle. -/
def stiffC (ax ay bx b_ cx cy : Rat) : List AV :=
  rtc (rt (stQ (area ax ay bx b_ cx cy) ((cx - bx) * (cx - bx) + (cy - b_) * (cy - b_)))) ++ rtc (rt (stQ (area ax ay bx b_ cx cy) ((cx - bx) * (ax - cx) + (cy - b_) * (ay - cy)))) ++ rtc (rt (stQ (area ax ay bx b_ cx cy) ((cx - bx) * (bx - ax) + (cy - b_) * (b_ - ay)))) ++ rtc (rt (stQ (area ax ay bx b_ cx cy) ((ax - cx) * (cx - bx) + (ay - cy) * (cy - b_)))) ++ rtc (rt (stQ (area ax ay bx b_ cx cy) ((ax - cx) * (ax - cx) + (ay - cy) * (ay - cy)))) ++ rtc (rt (stQ (area ax ay bx b_ cx cy) ((ax - cx) * (bx - ax) + (ay - cy) * (b_ - ay)))) ++ rtc (rt (stQ (area ax ay bx b_ cx cy) ((bx - ax) * (cx - bx) + (b_ - ay) * (cy - b_)))) ++ rtc (rt (stQ (area ax ay bx b_ cx cy) ((bx - ax) * (ax - cx) + (b_ - ay) * (ay - cy)))) ++ rtc (rt (stQ (area ax ay bx b_ cx cy) ((bx - ax) * (bx - ax) + (b_ - ay) * (b_ - ay))))
def slX (ax ay bx b_ cx cy u0 u1 u2 : Rat) : Rat := ((((0 : Int) : Rat) + (0 - (cy - b_)) * (u0 / area ax ay bx b_ cx cy)) + (0 - (ay - cy)) * (u1 / area ax ay bx b_ cx cy)) + (0 - (b_ - ay)) * (u2 / area ax ay bx b_ cx cy)
def slY (ax ay bx b_ cx cy u0 u1 u2 : Rat) : Rat := ((((0 : Int) : Rat) + (cx - bx) * (u0 / area ax ay bx b_ cx cy)) + (ax - cx) * (u1 / area ax ay bx b_ cx cy)) + (bx - ax) * (u2 / area ax ay bx b_ cx cy)
theorem two_ne {A : Rat} (h : A ≠ 0) : ((2 * rsgn A : Int) : Rat) * A ≠ 0 := by
  have s : rsgn A = -1 ∨ rsgn A = 1 := by
    have b := rsgn_b A
    have z : rsgn A ≠ 0 := fun h' => h (rsgn_zero.1 h')
    omega
  intro h0
  rcases Rat.mul_eq_zero.1 h0 with h0 | h0
  · rcases s with s | s <;> rw [s] at h0 <;> exact absurd h0 (by decide +kernel)
  · exact h h0
theorem Rz_two {A : Rat} : Rz ((2 * rsgn A : Int) : Rat) 20 := by
  have b := rsgn_b A
  exact (Rz_int (by omega) (by omega)).mono (by omega)
theorem imm_L4' {a b c d : AV} (ha : Imm 12 a) (hb : Imm 12 b) (hc : Imm 12 c) (hd : Imm 12 d) : ∀ x ∈ [a, b, c, d], Imm 12 x := fun x hx => by
  rcases List.mem_cons.1 hx with rfl | hx
  · exact ha
  · exact imm_three hb hc hd x hx
section
variable {h : Heap} {ax ay bx b_ cx cy : Rat}

theorem k_stiff (h1 : Rz ax 100) (h2 : Rz ay 100) (h3 : Rz bx 100) (h4 : Rz b_ 100) (h5 : Rz cx 100) (h6 : Rz cy 100) (h0 : area ax ay bx b_ cx cy ≠ 0) : byVal (callW gp) h fid.element_Stiff [pa ax ay, pa bx b_, pa cx cy] = some (.tup [.agg (stiffC ax ay bx b_ cx cy), .int .i64 0]) := byVal_imm (imm_L3 imm_pa imm_pa imm_pa) (by
  rw [element_Stiff.eq]
  unfold element_Stiff.f stiffC
  have u0 : Rz (cx - bx) 201 := h5.sub h3
  have v0 : Rz (cy - b_) 201 := h6.sub h4
  have u1 : Rz (ax - cx) 201 := h1.sub h5
  have v1 : Rz (ay - cy) 201 := h2.sub h6
  have u2 : Rz (bx - ax) 201 := h3.sub h1
  have v2 : Rz (b_ - ay) 201 := h4.sub h2
  have u0' := u0.mono (m := 3900) (by omega)
  have v0' := v0.mono (m := 3900) (by omega)
  have u1' := u1.mono (m := 3900) (by omega)
  have v1' := v1.mono (m := 3900) (by omega)
  have u2' := u2.mono (m := 3900) (by omega)
  have v2' := v2.mono (m := 3900) (by omega)
  have d00 : Rz ((cx - bx) * (cx - bx) + (cy - b_) * (cy - b_)) 8000 := ((u0.mul u0).add (v0.mul v0)).mono (by omega)
  have t00 : ((cx - bx) * (cx - bx) + (cy - b_) * (cy - b_)) / (((2 * rsgn (area ax ay bx b_ cx cy) : Int) : Rat) * area ax ay bx b_ cx cy) = stQ (area ax ay bx b_ cx cy) ((cx - bx) * (cx - bx) + (cy - b_) * (cy - b_)) := rfl
  have d01 : Rz ((cx - bx) * (ax - cx) + (cy - b_) * (ay - cy)) 8000 := ((u0.mul u1).add (v0.mul v1)).mono (by omega)
  have t01 : ((cx - bx) * (ax - cx) + (cy - b_) * (ay - cy)) / (((2 * rsgn (area ax ay bx b_ cx cy) : Int) : Rat) * area ax ay bx b_ cx cy) = stQ (area ax ay bx b_ cx cy) ((cx - bx) * (ax - cx) + (cy - b_) * (ay - cy)) := rfl
  have d02 : Rz ((cx - bx) * (bx - ax) + (cy - b_) * (b_ - ay)) 8000 := ((u0.mul u2).add (v0.mul v2)).mono (by omega)
  have t02 : ((cx - bx) * (bx - ax) + (cy - b_) * (b_ - ay)) / (((2 * rsgn (area ax ay bx b_ cx cy) : Int) : Rat) * area ax ay bx b_ cx cy) = stQ (area ax ay bx b_ cx cy) ((cx - bx) * (bx - ax) + (cy - b_) * (b_ - ay)) := rfl
  have d10 : Rz ((ax - cx) * (cx - bx) + (ay - cy) * (cy - b_)) 8000 := ((u1.mul u0).add (v1.mul v0)).mono (by omega)
  have t10 : ((ax - cx) * (cx - bx) + (ay - cy) * (cy - b_)) / (((2 * rsgn (area ax ay bx b_ cx cy) : Int) : Rat) * area ax ay bx b_ cx cy) = stQ (area ax ay bx b_ cx cy) ((ax - cx) * (cx - bx) + (ay - cy) * (cy - b_)) := rfl
  have d11 : Rz ((ax - cx) * (ax - cx) + (ay - cy) * (ay - cy)) 8000 := ((u1.mul u1).add (v1.mul v1)).mono (by omega)
  have t11 : ((ax - cx) * (ax - cx) + (ay - cy) * (ay - cy)) / (((2 * rsgn (area ax ay bx b_ cx cy) : Int) : Rat) * area ax ay bx b_ cx cy) = stQ (area ax ay bx b_ cx cy) ((ax - cx) * (ax - cx) + (ay - cy) * (ay - cy)) := rfl
  have d12 : Rz ((ax - cx) * (bx - ax) + (ay - cy) * (b_ - ay)) 8000 := ((u1.mul u2).add (v1.mul v2)).mono (by omega)
  have t12 : ((ax - cx) * (bx - ax) + (ay - cy) * (b_ - ay)) / (((2 * rsgn (area ax ay bx b_ cx cy) : Int) : Rat) * area ax ay bx b_ cx cy) = stQ (area ax ay bx b_ cx cy) ((ax - cx) * (bx - ax) + (ay - cy) * (b_ - ay)) := rfl
  have d20 : Rz ((bx - ax) * (cx - bx) + (b_ - ay) * (cy - b_)) 8000 := ((u2.mul u0).add (v2.mul v0)).mono (by omega)
  have t20 : ((bx - ax) * (cx - bx) + (b_ - ay) * (cy - b_)) / (((2 * rsgn (area ax ay bx b_ cx cy) : Int) : Rat) * area ax ay bx b_ cx cy) = stQ (area ax ay bx b_ cx cy) ((bx - ax) * (cx - bx) + (b_ - ay) * (cy - b_)) := rfl
  have d21 : Rz ((bx - ax) * (ax - cx) + (b_ - ay) * (ay - cy)) 8000 := ((u2.mul u1).add (v2.mul v1)).mono (by omega)
  have t21 : ((bx - ax) * (ax - cx) + (b_ - ay) * (ay - cy)) / (((2 * rsgn (area ax ay bx b_ cx cy) : Int) : Rat) * area ax ay bx b_ cx cy) = stQ (area ax ay bx b_ cx cy) ((bx - ax) * (ax - cx) + (b_ - ay) * (ay - cy)) := rfl
  have d22 : Rz ((bx - ax) * (bx - ax) + (b_ - ay) * (b_ - ay)) 8000 := ((u2.mul u2).add (v2.mul v2)).mono (by omega)
  have t22 : ((bx - ax) * (bx - ax) + (b_ - ay) * (b_ - ay)) / (((2 * rsgn (area ax ay bx b_ cx cy) : Int) : Rat) * area ax ay bx b_ cx cy) = stQ (area ax ay bx b_ cx cy) ((bx - ax) * (bx - ax) + (b_ - ay) * (b_ - ay)) := rfl
  have q0 : ¬ rsgn (area ax ay bx b_ cx cy) = 0 := fun h => h0 (rsgn_zero.1 h)
  have a8 : Rz (area ax ay bx b_ cx cy) 8000 := (Rz.area h1 h2 h3 h4 h5 h6).mono (by omega)
  have w8 : Rz ((2 * rsgn (area ax ay bx b_ cx cy) : Int) : Rat) 8000 := Rz_two.mono (by omega)
  have b8 : Rz (((2 * rsgn (area ax ay bx b_ cx cy) : Int) : Rat) * area ax ay bx b_ cx cy) 8000 := (Rz_two.mul (Rz.area h1 h2 h3 h4 h5 h6)).mono (by omega)
  have bn := two_ne h0
  have al0 := fun h => c_along0 (h := h) h1 h2 h3 h4 h5 h6
  have al1 := fun h => c_along1 (h := h) h1 h2 h3 h4 h5 h6
  have al2 := fun h => c_along2 (h := h) h1 h2 h3 h4 h5 h6
  have ea := fun h => c_earea (h := h) h1 h2 h3 h4 h5 h6
  have ro := fun h => k_rof (h := h) (z := 2 * rsgn (area ax ay bx b_ cx cy)) (by have := rsgn_b (area ax ay bx b_ cx cy); omega) (by have := rsgn_b (area ax ay bx b_ cx cy); omega)
  unfold corn at al0 al1 al2 ea
  unfold ptc rtc rt at *
  simp only [List.cons_append, List.nil_append] at *
  simp (disch := first | exact dD | fail) only [Wd, W2d, W3d, Nat.reduceAdd, Nat.reduceMul, Nat.reduceSub, lc0, lc1, lc2, lc3, ad0, ad1, ad2, k_orient, two_sgn, ro, ea, k_rmul, q0]
  rw [element_Stiff.l0_eq]
  simp (disch := first | exact dD | fail) only [Wd, W2d, W3d, Nat.reduceAdd, Nat.reduceMul, Nat.reduceSub, lc0, lc1, lc2, lc3]
  rw [element_Stiff.l1_eq]
  simp (disch := first | exact dD | fail) only [Wd, W2d, W3d, Nat.reduceAdd, Nat.reduceMul, Nat.reduceSub, lc0, lc1, lc2, lc3, ad0, ad1, ad2, aidx_0, aidx_1, aidx_2, al0, al1, al2, k_dot, k_rdiv]
  rw [element_Stiff.l1_eq]
  simp (disch := first | exact dD | fail) only [Wd, W2d, W3d, Nat.reduceAdd, Nat.reduceMul, Nat.reduceSub, lc0, lc1, lc2, lc3, ad0, ad1, ad2, aidx_0, aidx_1, aidx_2, al0, al1, al2, k_dot, k_rdiv]
  rw [element_Stiff.l1_eq]
  simp (disch := first | exact dD | fail) only [Wd, W2d, W3d, Nat.reduceAdd, Nat.reduceMul, Nat.reduceSub, lc0, lc1, lc2, lc3, ad0, ad1, ad2, aidx_0, aidx_1, aidx_2, al0, al1, al2, k_dot, k_rdiv]
  rw [element_Stiff.l1_eq]
  simp (disch := first | exact dD | fail) only [Wd, W2d, W3d, Nat.reduceAdd, Nat.reduceMul, Nat.reduceSub, lc0, lc1, lc2, lc3, ad0, ad1, ad2, aidx_0, aidx_1, aidx_2, al0, al1, al2, k_dot, k_rdiv]
  rw [element_Stiff.l0_eq]
  simp (disch := first | exact dD | fail) only [Wd, W2d, W3d, Nat.reduceAdd, Nat.reduceMul, Nat.reduceSub, lc0, lc1, lc2, lc3]
  rw [element_Stiff.l1_eq]
  simp (disch := first | exact dD | fail) only [Wd, W2d, W3d, Nat.reduceAdd, Nat.reduceMul, Nat.reduceSub, lc0, lc1, lc2, lc3, ad0, ad1, ad2, aidx_0, aidx_1, aidx_2, al0, al1, al2, k_dot, k_rdiv]
  rw [element_Stiff.l1_eq]
  simp (disch := first | exact dD | fail) only [Wd, W2d, W3d, Nat.reduceAdd, Nat.reduceMul, Nat.reduceSub, lc0, lc1, lc2, lc3, ad0, ad1, ad2, aidx_0, aidx_1, aidx_2, al0, al1, al2, k_dot, k_rdiv]
  rw [element_Stiff.l1_eq]
  simp (disch := first | exact dD | fail) only [Wd, W2d, W3d, Nat.reduceAdd, Nat.reduceMul, Nat.reduceSub, lc0, lc1, lc2, lc3, ad0, ad1, ad2, aidx_0, aidx_1, aidx_2, al0, al1, al2, k_dot, k_rdiv]
  rw [element_Stiff.l1_eq]
  simp (disch := first | exact dD | fail) only [Wd, W2d, W3d, Nat.reduceAdd, Nat.reduceMul, Nat.reduceSub, lc0, lc1, lc2, lc3, ad0, ad1, ad2, aidx_0, aidx_1, aidx_2, al0, al1, al2, k_dot, k_rdiv]
  rw [element_Stiff.l0_eq]
  simp (disch := first | exact dD | fail) only [Wd, W2d, W3d, Nat.reduceAdd, Nat.reduceMul, Nat.reduceSub, lc0, lc1, lc2, lc3]
  rw [element_Stiff.l1_eq]
  simp (disch := first | exact dD | fail) only [Wd, W2d, W3d, Nat.reduceAdd, Nat.reduceMul, Nat.reduceSub, lc0, lc1, lc2, lc3, ad0, ad1, ad2, aidx_0, aidx_1, aidx_2, al0, al1, al2, k_dot, k_rdiv]
  rw [element_Stiff.l1_eq]
  simp (disch := first | exact dD | fail) only [Wd, W2d, W3d, Nat.reduceAdd, Nat.reduceMul, Nat.reduceSub, lc0, lc1, lc2, lc3, ad0, ad1, ad2, aidx_0, aidx_1, aidx_2, al0, al1, al2, k_dot, k_rdiv]
  rw [element_Stiff.l1_eq]
  simp (disch := first | exact dD | fail) only [Wd, W2d, W3d, Nat.reduceAdd, Nat.reduceMul, Nat.reduceSub, lc0, lc1, lc2, lc3, ad0, ad1, ad2, aidx_0, aidx_1, aidx_2, al0, al1, al2, k_dot, k_rdiv]
  rw [element_Stiff.l1_eq]
  simp (disch := first | exact dD | fail) only [Wd, W2d, W3d, Nat.reduceAdd, Nat.reduceMul, Nat.reduceSub, lc0, lc1, lc2, lc3, ad0, ad1, ad2, aidx_0, aidx_1, aidx_2, al0, al1, al2, k_dot, k_rdiv]
  rw [element_Stiff.l0_eq]
  simp (disch := first | exact dD | fail) only [Wd, W2d, W3d, Nat.reduceAdd, Nat.reduceMul, Nat.reduceSub, lc0, lc1, lc2, lc3, rc27]
  rfl)

end
theorem Rz_zero' : Rz (0 : Rat) 1 := ⟨by show (nb 0).length ≤ 1; rw [nb_zero]; simp, by show (nb 1).length ≤ 1; rw [nb_one]; simp⟩
theorem dfr_fn {f : Nat} {l : List AV} : opDfr (.fn f l) = some .undef := Eq.trans rfl rfl
/-- Three numbers in a row. -/
abbrev U3 := RT × RT × RT
def u3c (t : U3) : List AV := rtc t.1 ++ rtc t.2.1 ++ rtc t.2.2
def U3.ok (t : U3) : Prop := t.1.ok ∧ t.2.1.ok ∧ t.2.2.ok
def nume (t : U3) : Int := firstE ([t.1, t.2.1, t.2.2].map RT.chk)
theorem nume_eq (t : U3) : nume t = if t.1.chk = 0 then (if t.2.1.chk = 0 then t.2.2.chk else t.2.1.chk) else t.1.chk := by
  show (if t.1.chk = 0 then (if t.2.1.chk = 0 then (if t.2.2.chk = 0 then 0 else t.2.2.chk) else t.2.1.chk) else t.1.chk) = _
  by_cases h : t.2.2.chk = 0 <;> simp [h]
theorem imm_u3 {t : U3} : Imm 12 (.agg (u3c t)) := (imm_agg (d := 1) (fun c hc => by
  rcases List.mem_append.1 hc with h | h
  · rcases List.mem_append.1 h with h | h
    · exact imm_rtc _ c h
    · exact imm_rtc _ c h
  · exact imm_rtc _ c h)).mono (by omega)
section
variable {h : Heap} {ax ay bx b_ cx cy u0 u1 u2 : Rat}
theorem k_slope (h1 : Rz ax 100) (h2 : Rz ay 100) (h3 : Rz bx 100) (h4 : Rz b_ 100) (h5 : Rz cx 100) (h6 : Rz cy 100) (w0 : Rz u0 200) (w1 : Rz u1 200) (w2 : Rz u2 200) (h0 : area ax ay bx b_ cx cy ≠ 0) : byVal (callW gp) h fid.element_Slope [pa ax ay, pa bx b_, pa cx cy, .agg (u3c (rt u0, rt u1, rt u2))] = some (.tup [pa (slX ax ay bx b_ cx cy u0 u1 u2) (slY ax ay bx b_ cx cy u0 u1 u2), .int .i64 0]) := byVal_imm (imm_L4' imm_pa imm_pa imm_pa imm_u3) (by
  rw [element_Slope.eq]
  unfold element_Slope.f slX slY
  have m0 : Rz ((0 - (cy - b_)) * (u0 / area ax ay bx b_ cx cy)) 1300 := ((Rz_zero'.sub (h6.sub h4)).mul (w0.div (Rz.area h1 h2 h3 h4 h5 h6))).mono (by omega)
  have m1 : Rz ((0 - (ay - cy)) * (u1 / area ax ay bx b_ cx cy)) 1300 := ((Rz_zero'.sub (h2.sub h6)).mul (w1.div (Rz.area h1 h2 h3 h4 h5 h6))).mono (by omega)
  have m2 : Rz ((0 - (b_ - ay)) * (u2 / area ax ay bx b_ cx cy)) 1300 := ((Rz_zero'.sub (h4.sub h2)).mul (w2.div (Rz.area h1 h2 h3 h4 h5 h6))).mono (by omega)
  have n0 : Rz ((cx - bx) * (u0 / area ax ay bx b_ cx cy)) 1300 := ((h5.sub h3).mul (w0.div (Rz.area h1 h2 h3 h4 h5 h6))).mono (by omega)
  have n1 : Rz ((ax - cx) * (u1 / area ax ay bx b_ cx cy)) 1300 := ((h1.sub h5).mul (w1.div (Rz.area h1 h2 h3 h4 h5 h6))).mono (by omega)
  have n2 : Rz ((bx - ax) * (u2 / area ax ay bx b_ cx cy)) 1300 := ((h3.sub h1).mul (w2.div (Rz.area h1 h2 h3 h4 h5 h6))).mono (by omega)
  have z0 : Rz ((0 : Int) : Rat) 20 := (Rz_int (by omega) (by omega)).mono (by omega)
  have z8 := z0.mono (m := 8000) (by omega)
  have a1 := (z0.add m0).mono (m := 8000) (by omega)
  have a2 := ((z0.add m0).add m1).mono (m := 8000) (by omega)
  have a3 := (z0.add n0).mono (m := 8000) (by omega)
  have a4 := ((z0.add n0).add n1).mono (m := 8000) (by omega)
  have m0 := m0.mono (m := 8000) (by omega)
  have m1 := m1.mono (m := 8000) (by omega)
  have m2 := m2.mono (m := 8000) (by omega)
  have n0 := n0.mono (m := 8000) (by omega)
  have n1 := n1.mono (m := 8000) (by omega)
  have n2 := n2.mono (m := 8000) (by omega)
  have A8 := (Rz.area h1 h2 h3 h4 h5 h6).mono (m := 8000) (by omega)
  have s0 := (w0.div (Rz.area h1 h2 h3 h4 h5 h6)).mono (m := 8000) (by omega)
  have s1 := (w1.div (Rz.area h1 h2 h3 h4 h5 h6)).mono (m := 8000) (by omega)
  have s2 := (w2.div (Rz.area h1 h2 h3 h4 h5 h6)).mono (m := 8000) (by omega)
  have e0 := (h5.sub h3).mono (m := 8000) (by omega)
  have e1 := (h6.sub h4).mono (m := 8000) (by omega)
  have e2 := (h1.sub h5).mono (m := 8000) (by omega)
  have e3 := (h2.sub h6).mono (m := 8000) (by omega)
  have e4 := (h3.sub h1).mono (m := 8000) (by omega)
  have e5 := (h4.sub h2).mono (m := 8000) (by omega)
  have f1 := (Rz_zero'.sub (h6.sub h4)).mono (m := 8000) (by omega)
  have f2 := (Rz_zero'.sub (h2.sub h6)).mono (m := 8000) (by omega)
  have f3 := (Rz_zero'.sub (h4.sub h2)).mono (m := 8000) (by omega)
  have c0 := w0.mono (m := 8000) (by omega)
  have c1 := w1.mono (m := 8000) (by omega)
  have c2 := w2.mono (m := 8000) (by omega)
  have l0 : (nb u0.num.natAbs).length ≤ 200 := w0.num
  have l1 : (nb u0.den).length ≤ 200 := w0.den
  have l2 : (nb u1.num.natAbs).length ≤ 200 := w1.num
  have l3 : (nb u1.den).length ≤ 200 := w1.den
  have l4 : (nb u2.num.natAbs).length ≤ 200 := w2.num
  have l5 : (nb u2.den).length ≤ 200 := w2.den
  have q0 : ¬ rsgn (area ax ay bx b_ cx cy) = 0 := fun h => h0 (rsgn_zero.1 h)
  have al0 := fun h => c_along0 (h := h) h1 h2 h3 h4 h5 h6
  have al1 := fun h => c_along1 (h := h) h1 h2 h3 h4 h5 h6
  have al2 := fun h => c_along2 (h := h) h1 h2 h3 h4 h5 h6
  have ea := fun h => c_earea (h := h) h1 h2 h3 h4 h5 h6
  unfold corn at al0 al1 al2 ea
  unfold u3c ptc rtc rt at *
  simp only [List.cons_append, List.nil_append] at *
  simp (disch := first | exact dD | fail) only [Wd, W2d, W3d, Nat.reduceAdd, Nat.reduceMul, Nat.reduceSub, lc0, lc1, lc2, lc3, ad0, ad1, ad2, k_orient, rc9]
  rw [element_Slope.l1_eq]
  unfold element_Slope.j0
  simp (disch := first | exact dD | fail) only [Wd, W2d, W3d, Nat.reduceAdd, Nat.reduceMul, Nat.reduceSub, lc0, lc1, lc2, lc3, ad0, ad1, ad2, idx_0, idx_1, idx_2, k_rcheck]
  rw [element_Slope.l1_eq]
  unfold element_Slope.j0
  simp (disch := first | exact dD | fail) only [Wd, W2d, W3d, Nat.reduceAdd, Nat.reduceMul, Nat.reduceSub, lc0, lc1, lc2, lc3, ad0, ad1, ad2, idx_0, idx_1, idx_2, k_rcheck]
  rw [element_Slope.l1_eq]
  unfold element_Slope.j0
  simp (disch := first | exact dD | fail) only [Wd, W2d, W3d, Nat.reduceAdd, Nat.reduceMul, Nat.reduceSub, lc0, lc1, lc2, lc3, ad0, ad1, ad2, idx_0, idx_1, idx_2, k_rcheck]
  rw [element_Slope.l1_eq]
  simp (disch := first | exact dD | fail) only [Wd, W2d, W3d, Nat.reduceAdd, Nat.reduceMul, Nat.reduceSub, lc0, lc1, lc2, lc3, ad0, ad1, ad2, q0, dfr_fn, k_rof]
  rw [element_Slope.l2_eq]
  simp (disch := first | exact dD | fail) only [Wd, W2d, W3d, Nat.reduceAdd, Nat.reduceMul, Nat.reduceSub, lc0, lc1, lc2, lc3, ad0, ad1, ad2, aidx_0, aidx_1, aidx_2, al0, al1, al2, ea, k_ndiv, c_eleft, k_nmul, k_nadd]
  rw [element_Slope.l2_eq]
  simp (disch := first | exact dD | fail) only [Wd, W2d, W3d, Nat.reduceAdd, Nat.reduceMul, Nat.reduceSub, lc0, lc1, lc2, lc3, ad0, ad1, ad2, aidx_0, aidx_1, aidx_2, al0, al1, al2, ea, k_ndiv, c_eleft, k_nmul, k_nadd]
  rw [element_Slope.l2_eq]
  simp (disch := first | exact dD | fail) only [Wd, W2d, W3d, Nat.reduceAdd, Nat.reduceMul, Nat.reduceSub, lc0, lc1, lc2, lc3, ad0, ad1, ad2, aidx_0, aidx_1, aidx_2, al0, al1, al2, ea, k_ndiv, c_eleft, k_nmul, k_nadd]
  rw [element_Slope.l2_eq]
  simp (disch := first | exact dD | fail) only [Wd, W2d, W3d, Nat.reduceAdd, Nat.reduceMul, Nat.reduceSub, lc0, lc1, lc2, lc3, ad0, ad1, ad2])

theorem k_slopeE {a b c : PT} {t : U3} (ha : a.ok) (hb : b.ok) (hc : c.ok) (hne : firstE ([a, b, c].map askc) ≠ 0) : byVal (callW gp) h fid.element_Slope [.agg (ptc a), .agg (ptc b), .agg (ptc c), .agg (u3c t)] = some (.tup [.agg [.bool false, str [], str [], .bool false, str [], str []], .int .i64 (firstE ([a, b, c].map askc))]) := byVal_imm (imm_L4' imm_pt imm_pt imm_pt imm_u3) (by
  have hk := fun h => k_orientE (h := h) ha hb hc hne
  rw [element_Slope.eq]
  unfold element_Slope.f
  generalize firstE ([a, b, c].map askc) = e at *
  unfold u3c ptc rtc at *
  simp only [List.cons_append, List.nil_append] at hk ⊢
  simp (disch := first | exact dD | fail) only [Wd, W2d, W3d, Nat.reduceAdd, Nat.reduceMul, Nat.reduceSub, lc0, lc1, lc2, lc3, ad0, ad1, ad2, hk, ifP3, str_nil])
theorem k_stiffE {a b c : PT} (ha : a.ok) (hb : b.ok) (hc : c.ok) (hne : firstE ([a, b, c].map askc) ≠ 0) : byVal (callW gp) h fid.element_Stiff [.agg (ptc a), .agg (ptc b), .agg (ptc c)] = some (.tup [.agg ([AV.bool false, .str ⟨#[]⟩, .str ⟨#[]⟩] ++ [AV.bool false, .str ⟨#[]⟩, .str ⟨#[]⟩] ++ [AV.bool false, .str ⟨#[]⟩, .str ⟨#[]⟩] ++ [AV.bool false, .str ⟨#[]⟩, .str ⟨#[]⟩] ++ [AV.bool false, .str ⟨#[]⟩, .str ⟨#[]⟩] ++ [AV.bool false, .str ⟨#[]⟩, .str ⟨#[]⟩] ++ [AV.bool false, .str ⟨#[]⟩, .str ⟨#[]⟩] ++ [AV.bool false, .str ⟨#[]⟩, .str ⟨#[]⟩] ++ [AV.bool false, .str ⟨#[]⟩, .str ⟨#[]⟩]), .int .i64 (firstE ([a, b, c].map askc))]) := byVal_imm (imm_L3 imm_pt imm_pt imm_pt) (by
  have hk := fun h => k_orientE (h := h) ha hb hc hne
  rw [element_Stiff.eq]
  unfold element_Stiff.f
  generalize firstE ([a, b, c].map askc) = e at *
  unfold ptc rtc at *
  simp only [List.cons_append, List.nil_append] at hk ⊢
  simp (disch := first | exact dD | fail) only [Wd, W2d, W3d, Nat.reduceAdd, Nat.reduceMul, Nat.reduceSub, lc0, lc1, lc2, lc3, ad0, ad1, ad2, hk, rc27]
  rfl)
theorem k_stiff0 (h1 : Rz ax 100) (h2 : Rz ay 100) (h3 : Rz bx 100) (h4 : Rz b_ 100) (h5 : Rz cx 100) (h6 : Rz cy 100) (h0 : area ax ay bx b_ cx cy = 0) : byVal (callW gp) h fid.element_Stiff [pa ax ay, pa bx b_, pa cx cy] = some (.tup [.agg ([AV.bool false, .str ⟨#[]⟩, .str ⟨#[]⟩] ++ [AV.bool false, .str ⟨#[]⟩, .str ⟨#[]⟩] ++ [AV.bool false, .str ⟨#[]⟩, .str ⟨#[]⟩] ++ [AV.bool false, .str ⟨#[]⟩, .str ⟨#[]⟩] ++ [AV.bool false, .str ⟨#[]⟩, .str ⟨#[]⟩] ++ [AV.bool false, .str ⟨#[]⟩, .str ⟨#[]⟩] ++ [AV.bool false, .str ⟨#[]⟩, .str ⟨#[]⟩] ++ [AV.bool false, .str ⟨#[]⟩, .str ⟨#[]⟩] ++ [AV.bool false, .str ⟨#[]⟩, .str ⟨#[]⟩]), .int .i64 6]) := byVal_imm (imm_L3 imm_pa imm_pa imm_pa) (by
  rw [element_Stiff.eq]
  unfold element_Stiff.f
  have q0 := rsgn_zero.2 h0
  simp (disch := first | exact dD | fail) only [Wd, W2d, W3d, Nat.reduceAdd, Nat.reduceMul, Nat.reduceSub, lc0, lc1, lc2, lc3, ad0, ad1, ad2, k_orient, q0, rc27]
  rfl)
theorem k_17num {t : U3} (ht : t.ok) (l1 : t.1.m.length ≤ 3000 ∧ t.1.d.length ≤ 3000) (l2 : t.2.1.m.length ≤ 3000 ∧ t.2.1.d.length ≤ 3000) (l3 : t.2.2.m.length ≤ 3000 ∧ t.2.2.d.length ≤ 3000) : byVal (callW gp) h fid.gussetref17_Numbers [.agg (u3c t)] = some (.int .i64 (nume t)) := byVal_imm (imm_L1 imm_u3) (by
  obtain ⟨p, q, r⟩ := t
  obtain ⟨hp, hq, hr⟩ := ht
  simp only at hp hq hr l1 l2 l3
  rw [gussetref17_Numbers.eq, nume_eq]
  have c1 := fun h => c_3check (h := h) (s := p.s) hp.1 hp.2
  have c2 := fun h => c_3check (h := h) (s := q.s) hq.1 hq.2
  have c3 := fun h => c_3check (h := h) (s := r.s) hr.1 hr.2
  have ek : ∀ t : RT, rchk t.s t.m t.d = t.chk := fun _ => rfl
  simp only [ek] at c1 c2 c3
  unfold gussetref17_Numbers.f u3c rtc
  simp only [List.cons_append, List.nil_append]
  simp (disch := first | exact dD | fail) only [Wd, W2d, W3d, Nat.reduceAdd, Nat.reduceMul, Nat.reduceSub, lc0, lc1, lc2, lc3, ad0, ad1, ad2]
  rw [gussetref17_Numbers.l0_eq]
  by_cases z1 : p.chk = 0
  rotate_left
  · rw [if_neg z1]
    generalize p.chk = e at *
    simp (disch := first | exact dD | fail) only [Wd, W2d, W3d, Nat.reduceAdd, Nat.reduceMul, Nat.reduceSub, lc0, lc1, lc2, lc3, ad0, ad1, ad2, aidx_0, aidx_1, aidx_2, c1]
  rw [if_pos z1]
  rw [z1] at c1
  simp (disch := first | exact dD | fail) only [Wd, W2d, W3d, Nat.reduceAdd, Nat.reduceMul, Nat.reduceSub, lc0, lc1, lc2, lc3, ad0, ad1, ad2, aidx_0, aidx_1, aidx_2, c1]
  rw [gussetref17_Numbers.l0_eq]
  by_cases z2 : q.chk = 0
  rotate_left
  · rw [if_neg z2]
    generalize q.chk = e at *
    simp (disch := first | exact dD | fail) only [Wd, W2d, W3d, Nat.reduceAdd, Nat.reduceMul, Nat.reduceSub, lc0, lc1, lc2, lc3, ad0, ad1, ad2, aidx_0, aidx_1, aidx_2, c2]
  rw [if_pos z2]
  rw [z2] at c2
  simp (disch := first | exact dD | fail) only [Wd, W2d, W3d, Nat.reduceAdd, Nat.reduceMul, Nat.reduceSub, lc0, lc1, lc2, lc3, ad0, ad1, ad2, aidx_0, aidx_1, aidx_2, c2]
  rw [gussetref17_Numbers.l0_eq]
  by_cases z3 : r.chk = 0
  rotate_left
  · generalize r.chk = e at *
    simp (disch := first | exact dD | fail) only [Wd, W2d, W3d, Nat.reduceAdd, Nat.reduceMul, Nat.reduceSub, lc0, lc1, lc2, lc3, ad0, ad1, ad2, aidx_0, aidx_1, aidx_2, c3]
  rw [z3] at c3 ⊢
  simp (disch := first | exact dD | fail) only [Wd, W2d, W3d, Nat.reduceAdd, Nat.reduceMul, Nat.reduceSub, lc0, lc1, lc2, lc3, ad0, ad1, ad2, aidx_0, aidx_1, aidx_2, c3]
  rw [gussetref17_Numbers.l0_eq]
  simp (disch := first | exact dD | fail) only [Wd, W2d, W3d, Nat.reduceAdd, Nat.reduceMul, Nat.reduceSub, lc0, lc1, lc2, lc3, ad0, ad1, ad2])
def absQ (A : Rat) : Rat := if A < 0 then -A else A
theorem num_lt {A : Rat} : A.num < 0 ↔ A < 0 := by
  rw [← rsgn_lt]
  unfold rsgn
  split
  · omega
  · split <;> omega
theorem ra_abs (A : Rat) : ra (absQ A) = .agg [.bool false, str (nb A.num.natAbs), str (nb A.den)] := by
  unfold absQ
  by_cases h : A < 0
  · rw [if_pos h]
    have hn : ¬ (-A).num < 0 := by
      have := num_lt.2 h
      rw [Rat.neg_num]; omega
    unfold ra
    rw [decide_eq_false hn, Rat.neg_num, Rat.neg_den, Int.natAbs_neg]
  · rw [if_neg h]
    have hn : ¬ A.num < 0 := fun h' => h (num_lt.1 h')
    unfold ra
    rw [decide_eq_false hn]
theorem Rz_abs {A : Rat} {n : Nat} (h : Rz A n) : Rz (absQ A) n := by
  unfold absQ; split
  · exact h.neg
  · exact h
theorem k_6areaE (h1 : Rz ax 100) (h2 : Rz ay 100) (h3 : Rz bx 100) (h4 : Rz b_ 100) (h5 : Rz cx 100) (h6 : Rz cy 100) : byVal (callW gp) h fid.gussetref06_Area2 [pa ax ay, pa bx b_, pa cx cy] = some (ra (area ax ay bx b_ cx cy)) := byVal_imm (imm_L3 imm_pa imm_pa imm_pa) (by
  rw [gussetref06_Area2.eq]
  unfold gussetref06_Area2.f
  have g1 := h1.mono (m := 20000) (by omega)
  have g2 := h2.mono (m := 20000) (by omega)
  have g3 := h3.mono (m := 20000) (by omega)
  have g4 := h4.mono (m := 20000) (by omega)
  have g5 := h5.mono (m := 20000) (by omega)
  have g6 := h6.mono (m := 20000) (by omega)
  have d0 := (h3.sub h1).mono (m := 9000) (by omega)
  have d1 := (h4.sub h2).mono (m := 9000) (by omega)
  have d2 := (h5.sub h1).mono (m := 9000) (by omega)
  have d3 := (h6.sub h2).mono (m := 9000) (by omega)
  have e : (bx - ax) * (cy - ay) - (b_ - ay) * (cx - ax) = area ax ay bx b_ cx cy := rfl
  simp (disch := first | exact dD | fail) only [Wd, W2d, W3d, Nat.reduceAdd, Nat.reduceMul, Nat.reduceSub, lc0, lc1, lc2, lc3, ad0, ad1, ad2, k_4minus, k_4cross, e])
theorem k_17area (h1 : Rz ax 100) (h2 : Rz ay 100) (h3 : Rz bx 100) (h4 : Rz b_ 100) (h5 : Rz cx 100) (h6 : Rz cy 100) : byVal (callW gp) h fid.gussetref17_Area [corn ax ay bx b_ cx cy] = some (ra (absQ (area ax ay bx b_ cx cy) * Rat.divInt 1 2)) := byVal_imm (imm_L1 imm_corn) (by
  rw [gussetref17_Area.eq]
  unfold gussetref17_Area.f corn
  have hm := fun h => k_3mul (h := h) (p := absQ (area ax ay bx b_ cx cy)) (q := Rat.divInt 1 2) ((Rz_abs (Rz.area h1 h2 h3 h4 h5 h6)).mono (by omega)) ⟨by show (nb (Rat.divInt 1 2).num.natAbs).length ≤ 20000; decide +kernel, by show (nb (Rat.divInt 1 2).den).length ≤ 20000; decide +kernel⟩
  rw [ra_abs] at hm
  unfold ptc rtc rt at *
  simp only [List.cons_append, List.nil_append]
  simp (disch := first | exact dD | fail) only [Wd, W2d, W3d, Nat.reduceAdd, Nat.reduceMul, Nat.reduceSub, lc0, lc1, lc2, lc3, ad0, ad1, ad2, aidx_0, aidx_1, aidx_2, k_6areaE, k_3frac, hm])
theorem slX_eq (h0 : area ax ay bx b_ cx cy ≠ 0) : slX ax ay bx b_ cx cy u0 u1 u2 = ((u1 - u0) * (cy - ay) - (u2 - u0) * (b_ - ay)) / area ax ay bx b_ cx cy := by
  unfold slX
  generalize hA : area ax ay bx b_ cx cy = A at *
  have z : ((0 : Int) : Rat) = 0 := rfl
  rw [z]
  grind
theorem slY_eq (h0 : area ax ay bx b_ cx cy ≠ 0) : slY ax ay bx b_ cx cy u0 u1 u2 = ((bx - ax) * (u2 - u0) - (cx - ax) * (u1 - u0)) / area ax ay bx b_ cx cy := by
  unfold slY
  generalize hA : area ax ay bx b_ cx cy = A at *
  have z : ((0 : Int) : Rat) = 0 := rfl
  rw [z]
  grind
theorem k_17slope (h1 : Rz ax 100) (h2 : Rz ay 100) (h3 : Rz bx 100) (h4 : Rz b_ 100) (h5 : Rz cx 100) (h6 : Rz cy 100) (w0 : Rz u0 200) (w1 : Rz u1 200) (w2 : Rz u2 200) (h0 : area ax ay bx b_ cx cy ≠ 0) : byVal (callW gp) h fid.gussetref17_Slope [corn ax ay bx b_ cx cy, .agg (u3c (rt u0, rt u1, rt u2))] = some (pa (slX ax ay bx b_ cx cy u0 u1 u2) (slY ax ay bx b_ cx cy u0 u1 u2)) := byVal_imm (imm_L2 imm_corn imm_u3) (by
  rw [gussetref17_Slope.eq, slX_eq h0, slY_eq h0]
  unfold gussetref17_Slope.f corn u3c
  have g1 := h1.mono (m := 20000) (by omega)
  have g2 := h2.mono (m := 20000) (by omega)
  have g3 := h3.mono (m := 20000) (by omega)
  have g4 := h4.mono (m := 20000) (by omega)
  have g5 := h5.mono (m := 20000) (by omega)
  have g6 := h6.mono (m := 20000) (by omega)
  have w0' := w0.mono (m := 20000) (by omega)
  have w1' := w1.mono (m := 20000) (by omega)
  have w2' := w2.mono (m := 20000) (by omega)
  have d0 := (h3.sub h1).mono (m := 9000) (by omega)
  have dd0 := (h3.sub h1).mono (m := 20000) (by omega)
  have d1 := (h4.sub h2).mono (m := 9000) (by omega)
  have dd1 := (h4.sub h2).mono (m := 20000) (by omega)
  have d2 := (h5.sub h1).mono (m := 9000) (by omega)
  have dd2 := (h5.sub h1).mono (m := 20000) (by omega)
  have d3 := (h6.sub h2).mono (m := 9000) (by omega)
  have dd3 := (h6.sub h2).mono (m := 20000) (by omega)
  have f1 := w1.sub w0
  have f2 := w2.sub w0
  have x1 := f1.mul (h6.sub h2)
  have x2 := f2.mul (h4.sub h2)
  have y1 := (h3.sub h1).mul f2
  have y2 := (h5.sub h1).mul f1
  have xx := (x1.sub x2).mono (m := 20000) (by omega)
  have yy := (y1.sub y2).mono (m := 20000) (by omega)
  have x1 := x1.mono (m := 20000) (by omega)
  have x2 := x2.mono (m := 20000) (by omega)
  have y1 := y1.mono (m := 20000) (by omega)
  have y2 := y2.mono (m := 20000) (by omega)
  have f1 := f1.mono (m := 20000) (by omega)
  have f2 := f2.mono (m := 20000) (by omega)
  have A8 := (Rz.area h1 h2 h3 h4 h5 h6).mono (m := 20000) (by omega)
  have e : (bx - ax) * (cy - ay) - (b_ - ay) * (cx - ax) = area ax ay bx b_ cx cy := rfl
  unfold ptc rtc rt
  simp only [List.cons_append, List.nil_append]
  simp (disch := first | exact dD | fail) only [Wd, W2d, W3d, Nat.reduceAdd, Nat.reduceMul, Nat.reduceSub, lc0, lc1, lc2, lc3, ad0, ad1, ad2, aidx_0, aidx_1, aidx_2, k_4minus, k_4cross, e, k_3less, k_3mul, k_3div])

end
end Go.Proofs.YtmklpomcdnflbaaGreat.Am