import Derived.Test.YtcpmkohlmjakmaaGreatDoorAmPoly5
import Derived.Test.YtcpmkohlmjakmaaGreatDoorTForm
/- Integrals over triangles: the document's. -/
set_option linter.unusedVariables false
set_option maxRecDepth 10000
set_option linter.unusedSimpArgs false
namespace Go.Proofs.YtcpmkohlmjakmaaGreatDoor.Am
open Go

theorem fac_le : ∀ m, m ≤ 6 → 1 ≤ fac m ∧ fac m ≤ 720 := by
  intro m hm
  rcases (by omega : m = 0 ∨ m = 1 ∨ m = 2 ∨ m = 3 ∨ m = 4 ∨ m = 5 ∨ m = 6) with rfl | rfl | rfl | rfl | rfl | rfl | rfl <;> decide
theorem fac_le4 : ∀ m, m ≤ 4 → 1 ≤ fac m ∧ fac m ≤ 24 := by
  intro m hm
  rcases (by omega : m = 0 ∨ m = 1 ∨ m = 2 ∨ m = 3 ∨ m = 4) with rfl | rfl | rfl | rfl | rfl <;> decide
theorem fac_dvd : ∀ m, m ≤ 6 → (fac m).natAbs ∣ 720 := by
  intro m hm
  rcases (by omega : m = 0 ∨ m = 1 ∨ m = 2 ∨ m = 3 ∨ m = 4 ∨ m = 5 ∨ m = 6) with rfl | rfl | rfl | rfl | rfl | rfl | rfl <;> decide
theorem fac2 {a b : Nat} (ha : a ≤ 4) (hb : b ≤ 4) : 1 ≤ fac a * fac b ∧ fac a * fac b ≤ 576 := by
  have h1 := fac_le4 a ha
  have h2 := fac_le4 b hb
  have k1 := Int.mul_le_mul h1.1 h2.1 (by omega) (by omega)
  have k2 := Int.mul_le_mul h1.2 h2.2 (by omega) (by omega)
  exact ⟨by omega, by omega⟩
theorem fac3 {a b c : Nat} (ha : a ≤ 4) (hb : b ≤ 4) (hc : c ≤ 4) : 1 ≤ fac a * fac b * fac c ∧ fac a * fac b * fac c ≤ 13824 := by
  have h1 := fac2 ha hb
  have h2 := fac_le4 c hc
  have k1 := Int.mul_le_mul h1.1 h2.1 (by omega) (by omega)
  have k2 := Int.mul_le_mul h1.2 h2.2 (by omega) (by omega)
  exact ⟨by omega, by omega⟩
theorem Sz_pw {a b c : Nat} (h : a + b + c ≤ 4) : Sz (pwQ a b c) 720 2 := by
  unfold pwQ
  have h1 := fac3 (a := a) (b := b) (c := c) (by omega) (by omega) (by omega)
  have h2 := fac_le (a + b + c + 2) (by omega)
  rw [Rat.divInt_eq_div]
  have s1 : Sz ((fac a * fac b * fac c : Int) : Rat) 1 2 := Sz_int (by omega)
  have := Sz_divn s1 h2.1
  rw [Nat.one_mul] at this
  exact this.mono (fac_dvd _ (by omega)) (by omega)
/-- The form's numbers have a common denominator. -/
structure Gz (g : G6) (V b : Nat) : Prop where
  z0 : Sz g.g00 V b
  z1 : Sz g.g01 V b
  z2 : Sz g.g02 V b
  z3 : Sz g.g11 V b
  z4 : Sz g.g12 V b
  z5 : Sz g.g22 V b
/-- The form's cells. -/
def gc (g : G6) : List AV := rtc (rt g.g00) ++ rtc (rt g.g01) ++ rtc (rt g.g02) ++ z3 ++ rtc (rt g.g11) ++ rtc (rt g.g12) ++ z3 ++ z3 ++ rtc (rt g.g22)
theorem gcells (g : G6) : gc g = [.bool (decide (g.g00.num < 0)), str (nb g.g00.num.natAbs), str (nb g.g00.den), .bool (decide (g.g01.num < 0)), str (nb g.g01.num.natAbs), str (nb g.g01.den), .bool (decide (g.g02.num < 0)), str (nb g.g02.num.natAbs), str (nb g.g02.den), .bool false, .str ⟨#[]⟩, .str ⟨#[]⟩, .bool (decide (g.g11.num < 0)), str (nb g.g11.num.natAbs), str (nb g.g11.den), .bool (decide (g.g12.num < 0)), str (nb g.g12.num.natAbs), str (nb g.g12.den), .bool false, .str ⟨#[]⟩, .str ⟨#[]⟩, .bool false, .str ⟨#[]⟩, .str ⟨#[]⟩, .bool (decide (g.g22.num < 0)), str (nb g.g22.num.natAbs), str (nb g.g22.den)] := rfl
theorem cellImm : ∀ {l : List AV}, l.all (fun c => match c with | .bool _ => true | .str _ => true | _ => false) = true → Imm 12 (.agg l) := fun {l} h => (imm_agg (d := 1) (fun c hc => by
  have := List.all_eq_true.1 h c hc
  cases c <;> first | exact imm_bool | exact imm_str | cases this)).mono (by omega)
theorem imm_gc {g : G6} : Imm 12 (.agg (gc g)) := cellImm rfl
theorem imm_i3 {a b c : Int} : Imm 12 (.agg [.int .i64 a, .int .i64 b, .int .i64 c]) := (imm_agg (d := 1) (imm_three imm_int imm_int imm_int)).mono (by omega)
/-- Three points in a row. -/
abbrev ta (ax ay bx b_ cx cy : Rat) : AV := .agg (t3c ((rt ax, rt ay), (rt bx, rt b_), (rt cx, rt cy)))
theorem tcells (ax ay bx b_ cx cy : Rat) : t3c ((rt ax, rt ay), (rt bx, rt b_), (rt cx, rt cy)) = [.bool (decide (ax.num < 0)), str (nb ax.num.natAbs), str (nb ax.den), .bool (decide (ay.num < 0)), str (nb ay.num.natAbs), str (nb ay.den), .bool (decide (bx.num < 0)), str (nb bx.num.natAbs), str (nb bx.den), .bool (decide (b_.num < 0)), str (nb b_.num.natAbs), str (nb b_.den), .bool (decide (cx.num < 0)), str (nb cx.num.natAbs), str (nb cx.den), .bool (decide (cy.num < 0)), str (nb cy.num.natAbs), str (nb cy.den)] := rfl
theorem imm_ta {ax ay bx b_ cx cy : Rat} : Imm 12 (ta ax ay bx b_ cx cy) := cellImm rfl
theorem rc27' {a0 a1 a2 a3 a4 a5 a6 a7 a8 a9 b0 b1 b2 b3 b4 b5 b6 b7 b8 b9 c0 c1 c2 c3 c4 c5 c6 : AV} {l : List AV} : readCells (a0 :: a1 :: a2 :: a3 :: a4 :: a5 :: a6 :: a7 :: a8 :: a9 :: b0 :: b1 :: b2 :: b3 :: b4 :: b5 :: b6 :: b7 :: b8 :: b9 :: c0 :: c1 :: c2 :: c3 :: c4 :: c5 :: c6 :: l) (some 27) = some (.agg [a0, a1, a2, a3, a4, a5, a6, a7, a8, a9, b0, b1, b2, b3, b4, b5, b6, b7, b8, b9, c0, c1, c2, c3, c4, c5, c6]) := Eq.trans rfl rfl
section
variable {h : Heap} {ax ay bx b_ cx cy : Rat}
theorem k_area7 (t : Tz ax ay bx b_ cx cy 100) : byVal (callW gp) h fid.gussetref06_Area2 [pa ax ay, pa bx b_, pa cx cy] = some (ra (area ax ay bx b_ cx cy)) := byVal_imm (imm_L3 imm_pa imm_pa imm_pa) (by
  rw [gussetref06_Area2.eq]
  unfold gussetref06_Area2.f
  obtain ⟨h1, h2, h3, h4, h5, h6⟩ := t
  have g1 := h1.mono (m := 20000) (by omega)
  have g2 := h2.mono (m := 20000) (by omega)
  have g3 := h3.mono (m := 20000) (by omega)
  have g4 := h4.mono (m := 20000) (by omega)
  have g5 := h5.mono (m := 20000) (by omega)
  have g6 := h6.mono (m := 20000) (by omega)
  have d0 := (h3.sub h1).mono (m := 9000) (by omega)
  have d1 := (h4.sub h2).mono (m := 9000) (by omega)
  have d2 := (h5.sub h1).mono (m := 9000) (by omega)
  have d3 := (h6.sub h2).mono (m := 9000) (by omega)
  have e : (bx - ax) * (cy - ay) - (b_ - ay) * (cx - ax) = area ax ay bx b_ cx cy := rfl
  simp (disch := first | exact dD | fail) only [Wd, W2d, W3d, Nat.reduceAdd, Nat.reduceMul, Nat.reduceSub, k_4minus, k_4cross, e])
theorem k_mid7 (h1 : Rz ax 2000) (h2 : Rz ay 2000) (h3 : Rz bx 2000) (h4 : Rz b_ 2000) : byVal (callW gp) h fid.gussetref06_Middle [pa ax ay, pa bx b_] = some (pa ((ax + bx) * Rat.divInt 1 2) ((ay + b_) * Rat.divInt 1 2)) := byVal_imm (imm_L2 imm_pa imm_pa) (by
  rw [gussetref06_Middle.eq]
  unfold gussetref06_Middle.f
  simp (disch := first | exact dE | fail) only [Wd, W2d, W3d, Nat.reduceAdd, Nat.reduceMul, Nat.reduceSub, k_4plus, k_3frac, k_4scale])
theorem k_twice (t : Tz ax ay bx b_ cx cy 100) : byVal (callW gp) h fid.gussetref07_twice [ta ax ay bx b_ cx cy] = some (ra (absQ (area ax ay bx b_ cx cy))) := byVal_imm (imm_L1 imm_ta) (by
  have kA := fun h => k_area7 (h := h) t
  rw [gussetref07_twice.eq, ra_abs]
  unfold gussetref07_twice.f ta
  rw [tcells]
  simp (disch := first | exact dD | fail) only [Wd, W2d, W3d, Nat.reduceAdd, Nat.reduceMul, Nat.reduceSub, ax0, ax1, ax2, kA])
/-! ### Factorials -/
theorem fact_l0 : ∀ (k i n : Nat), i + k = n + 1 → 2 ≤ i → n ≤ 6 → gussetref07_factorial.l0 (.int .i64 (n : Int)) (.int .i64 (fac (i - 1))) (.int .i64 (i : Int)) = some (.int .i64 (fac n)) := by
  intro k
  induction k with
  | zero =>
    intro i n hik hi hn
    obtain rfl : i = n + 1 := by omega
    rw [gussetref07_factorial.l0_eq]
    simp (disch := first | exact dD | fail) only [Wd, W2d, W3d, Nat.reduceAdd, Nat.reduceMul, Nat.reduceSub]
    rfl
  | succ k ih =>
    intro i n hik hi hn
    rw [gussetref07_factorial.l0_eq]
    have hm : opBin .mul (.int .i64 (fac (i - 1))) (.int .i64 (i : Int)) = some (.int .i64 (fac i)) := by
      rcases (by omega : i = 2 ∨ i = 3 ∨ i = 4 ∨ i = 5 ∨ i = 6) with rfl | rfl | rfl | rfl | rfl <;> rfl
    have := ih (i + 1) n (by omega) (by omega) hn
    rw [Nat.add_sub_cancel] at this
    simp (disch := first | exact dD | fail) only [Wd, W2d, W3d, Nat.reduceAdd, Nat.reduceMul, Nat.reduceSub, hm]
    exact this
theorem c_fact {n : Nat} (hn : n ≤ 6) : byVal (callW gp) h fid.gussetref07_factorial [.int .i64 (n : Int)] = some (.int .i64 (fac n)) := byVal_imm (imm_L1 (imm_int.mono (by omega))) (by
  rw [gussetref07_factorial.eq]
  unfold gussetref07_factorial.f
  by_cases h1 : 2 ≤ n
  · exact fact_l0 (n - 1) 2 n (by omega) (by omega) hn
  · have e : fac n = 1 := by rcases (by omega : n = 0 ∨ n = 1) with rfl | rfl <;> rfl
    rw [gussetref07_factorial.l0_eq, e]
    have hl : opBin .leq (.int .i64 2) (.int .i64 (n : Int)) = some (.bool false) := by
      rcases (by omega : n = 0 ∨ n = 1) with rfl | rfl <;> rfl
    simp (disch := first | exact dD | fail) only [Wd, W2d, W3d, Nat.reduceAdd, Nat.reduceMul, Nat.reduceSub, hl])
theorem c_power {a b c : Nat} (hs : a + b + c ≤ 4) : byVal (callW gp) h fid.gussetref07_power [.agg [.int .i64 (a : Int), .int .i64 (b : Int), .int .i64 (c : Int)]] = some (ra (pwQ a b c)) := byVal_imm (imm_L1 imm_i3) (by
  rw [gussetref07_power.eq]
  unfold gussetref07_power.f pwQ
  have m1 := fac2 (a := a) (b := b) (by omega) (by omega)
  have m2 := fac3 (a := a) (b := b) (c := c) (by omega) (by omega) (by omega)
  have m3 := fac_le (a + b + c + 2) (by omega)
  have i1 : opBin .mul (.int .i64 (fac a)) (.int .i64 (fac b)) = some (.int .i64 (fac a * fac b)) := int_mul (by omega) (by omega)
  have i2 : opBin .mul (.int .i64 (fac a * fac b)) (.int .i64 (fac c)) = some (.int .i64 (fac a * fac b * fac c)) := int_mul (by omega) (by omega)
  have kf := fun h => k_3frac (h := h) (z := fac a * fac b * fac c) (d := fac (a + b + c + 2)) (by omega) (by omega) (by omega) (by omega) (by omega)
  simp (disch := first | exact dD | fail) only [Wd, W2d, W3d, Nat.reduceAdd, Nat.reduceMul, Nat.reduceSub, ax0, ax1, ax2, c_fact, i1, i2, kf])
end
/-! ### The form -/
theorem Gz_form {f : P6} {F b : Nat} {ax ay bx b_ cx cy : Rat} {W c : Nat} (hf : Pz f F b) (h : Tw ax ay bx b_ cx cy W c) : Gz (formQ f ax ay bx b_ cx cy) (F * (W * 2) * (W * 2)) (b + 2 * (c + 1) + 7) := by
  have s := Pz_six hf h
  have z4 : Sz ((4 : Int) : Rat) 1 1 := Sz_int (by decide)
  have q : ∀ {m x y : Rat}, Sz m (F * (W * 2) * (W * 2)) (b + 2 * (c + 1) + 4) → Sz x (F * (W * 2) * (W * 2)) (b + 2 * (c + 1) + 4) → Sz y (F * (W * 2) * (W * 2)) (b + 2 * (c + 1) + 4) → Sz (foQ m x y) (F * (W * 2) * (W * 2)) (b + 2 * (c + 1) + 7) := fun hm hx hy => by
    have h1 := z4.mul hm
    rw [Nat.one_mul] at h1
    exact ((h1.sub (hx.up (by omega))).sub (hy.up (by omega))).up (by omega)
  unfold formQ
  simp only [ev7_eq, dv12]
  have a3 := s.z3
  have a4 := s.z4
  have a5 := s.z5
  unfold sixQ at a3 a4 a5
  have e4 : evQ f ((ax + cx) * (1 / 2)) ((ay + cy) * (1 / 2)) = evQ f ((cx + ax) * (1 / 2)) ((cy + ay) * (1 / 2)) := by rw [Rat.add_comm ax, Rat.add_comm ay]
  exact ⟨s.z0.up (by omega), q a5 s.z0 s.z1, q (by rw [e4]; exact a4) s.z0 s.z2, s.z1.up (by omega), q a3 s.z1 s.z2, s.z2.up (by omega)⟩
section
variable {h : Heap} {f : P6} {ax ay bx b_ cx cy : Rat}
theorem k_form (hf : f.Z 100) (t : Tz ax ay bx b_ cx cy 100) : byVal (callW gp) h fid.gussetref07_form [sa f, ta ax ay bx b_ cx cy] = some (.agg (gc (formQ f ax ay bx b_ cx cy))) := byVal_imm (imm_L2 imm_sa imm_ta) (by
  obtain ⟨F, f0, fl, pz⟩ := pol_F hf
  obtain ⟨W, w0, wl, tw⟩ := tri_W t
  have wl2 := w2_lt wl
  have w02 : 0 < W * 2 := by omega
  have g := tw.mono (Nat.dvd_mul_right W 2) (show 100 ≤ 100 + 1 by omega)
  have E := fun {x y : Rat} (hx : Sz x (W * 2) (100 + 1)) (hy : Sz y (W * 2) (100 + 1)) h => c_eval7 (h := h) pz hx hy f0 w02 fl wl2 (by omega)
  have M : ∀ {p q : Rat}, Sz p W 100 → Sz q W 100 → Sz ((p + q) * Rat.divInt 1 2) (W * 2) (100 + 1) := fun hp hq => by rw [dv12]; exact Sz_mid hp hq
  have e0 := E g.h1 g.h2
  have e1 := E g.h3 g.h4
  have e2 := E g.h5 g.h6
  have e01 := E (M tw.h1 tw.h3) (M tw.h2 tw.h4)
  have e02 := E (M tw.h1 tw.h5) (M tw.h2 tw.h6)
  have e12 := E (M tw.h3 tw.h5) (M tw.h4 tw.h6)
  have m01 := fun h => k_mid7 (h := h) (t.h1.mono (m := 2000) (by omega)) (t.h2.mono (m := 2000) (by omega)) (t.h3.mono (m := 2000) (by omega)) (t.h4.mono (m := 2000) (by omega))
  have m02 := fun h => k_mid7 (h := h) (t.h1.mono (m := 2000) (by omega)) (t.h2.mono (m := 2000) (by omega)) (t.h5.mono (m := 2000) (by omega)) (t.h6.mono (m := 2000) (by omega))
  have m12 := fun h => k_mid7 (h := h) (t.h3.mono (m := 2000) (by omega)) (t.h4.mono (m := 2000) (by omega)) (t.h5.mono (m := 2000) (by omega)) (t.h6.mono (m := 2000) (by omega))
  have S := Pz_six pz tw
  have dl := pw_mul (pw_mul fl wl2) wl2
  have d0 : 0 < F * (W * 2) * (W * 2) := Nat.mul_pos (Nat.mul_pos f0 w02) w02
  have s0 : Sz (ev7 f ax ay) (F * (W * 2) * (W * 2)) (100 + 2 * (100 + 1) + 4) := by rw [ev7_eq]; exact S.z0
  have s1 : Sz (ev7 f bx b_) (F * (W * 2) * (W * 2)) (100 + 2 * (100 + 1) + 4) := by rw [ev7_eq]; exact S.z1
  have s2 : Sz (ev7 f cx cy) (F * (W * 2) * (W * 2)) (100 + 2 * (100 + 1) + 4) := by rw [ev7_eq]; exact S.z2
  have s3 : Sz (ev7 f ((bx + cx) * Rat.divInt 1 2) ((b_ + cy) * Rat.divInt 1 2)) (F * (W * 2) * (W * 2)) (100 + 2 * (100 + 1) + 4) := by rw [ev7_eq, dv12]; exact S.z3
  have s4 : Sz (ev7 f ((ax + cx) * Rat.divInt 1 2) ((ay + cy) * Rat.divInt 1 2)) (F * (W * 2) * (W * 2)) (100 + 2 * (100 + 1) + 4) := by rw [ev7_eq, dv12, Rat.add_comm ax, Rat.add_comm ay]; exact S.z4
  have s5 : Sz (ev7 f ((ax + bx) * Rat.divInt 1 2) ((ay + b_) * Rat.divInt 1 2)) (F * (W * 2) * (W * 2)) (100 + 2 * (100 + 1) + 4) := by rw [ev7_eq, dv12]; exact S.z5
  have z4 : Sz ((4 : Int) : Rat) 1 1 := Sz_int (by decide)
  have r4 : Rz ((4 : Int) : Rat) 20000 := (Rz_int (by omega) (by omega)).mono (by omega)
  have n01 := (z4.mul s5)
  have n02 := (z4.mul s4)
  have n12 := (z4.mul s3)
  rw [Nat.one_mul] at n01 n02 n12
  have q01 := (n01.sub (s0.up (by omega))).rz d0 dl (n := 20000) (by omega)
  have q02 := (n02.sub (s0.up (by omega))).rz d0 dl (n := 20000) (by omega)
  have q12 := (n12.sub (s1.up (by omega))).rz d0 dl (n := 20000) (by omega)
  have n01 := n01.rz d0 dl (n := 20000) (by omega)
  have n02 := n02.rz d0 dl (n := 20000) (by omega)
  have n12 := n12.rz d0 dl (n := 20000) (by omega)
  have s0 := s0.rz d0 dl (n := 20000) (by omega)
  have s1 := s1.rz d0 dl (n := 20000) (by omega)
  have s2 := s2.rz d0 dl (n := 20000) (by omega)
  have s3 := s3.rz d0 dl (n := 20000) (by omega)
  have s4 := s4.rz d0 dl (n := 20000) (by omega)
  have s5 := s5.rz d0 dl (n := 20000) (by omega)
  clear E M g tw pz fl wl wl2 S dl d0 z4
  rw [gussetref07_form.eq]
  unfold gussetref07_form.f
  unfold sa at e0 e1 e2 e01 e02 e12 ⊢
  unfold ta
  rw [gcells, tcells]
  unfold formQ foQ
  simp only [cells6] at e0 e1 e2 e01 e02 e12 ⊢
  generalize ev7 f ax ay = v0 at *
  generalize ev7 f bx b_ = v1 at *
  generalize ev7 f cx cy = v2 at *
  generalize ev7 f ((ax + bx) * Rat.divInt 1 2) ((ay + b_) * Rat.divInt 1 2) = v01 at *
  generalize ev7 f ((ax + cx) * Rat.divInt 1 2) ((ay + cy) * Rat.divInt 1 2) = v02 at *
  generalize ev7 f ((bx + cx) * Rat.divInt 1 2) ((b_ + cy) * Rat.divInt 1 2) = v12 at *
  simp (disch := first | exact dD | fail) only [Wd, W2d, W3d, Nat.reduceAdd, Nat.reduceMul, Nat.reduceSub]
  rw [gussetref07_form.l0_eq]
  simp (disch := first | exact dD | fail) only [Wd, W2d, W3d, Nat.reduceAdd, Nat.reduceMul, Nat.reduceSub, lc7_0, lc7_1, lc7_2, lc7_3, ax0, inc0, e0]
  rw [gussetref07_form.l0_eq]
  simp (disch := first | exact dD | fail) only [Wd, W2d, W3d, Nat.reduceAdd, Nat.reduceMul, Nat.reduceSub, lc7_0, lc7_1, lc7_2, lc7_3, ax1, inc1, e1]
  rw [gussetref07_form.l0_eq]
  simp (disch := first | exact dD | fail) only [Wd, W2d, W3d, Nat.reduceAdd, Nat.reduceMul, Nat.reduceSub, lc7_0, lc7_1, lc7_2, lc7_3, ax2, inc2, e2]
  rw [gussetref07_form.l0_eq]
  simp (disch := first | exact dD | fail) only [Wd, W2d, W3d, Nat.reduceAdd, Nat.reduceMul, Nat.reduceSub, lc7_0, lc7_1, lc7_2, lc7_3]
  rw [gussetref07_form.l1_eq]
  simp (disch := first | exact dD | fail) only [Wd, W2d, W3d, Nat.reduceAdd, Nat.reduceMul, Nat.reduceSub, lc7_0, lc7_1, lc7_2, lc7_3, inc0]
  rw [gussetref07_form.l2_eq]
  simp (disch := first | exact dD | fail) only [Wd, W2d, W3d, Nat.reduceAdd, Nat.reduceMul, Nat.reduceSub, lc7_0, lc7_1, lc7_2, lc7_3, ax0, ax1, ax2, inc0, inc1, k_3of, m01, e01, k_3mul, k_3less]
  rw [gussetref07_form.l2_eq]
  simp (disch := first | exact dD | fail) only [Wd, W2d, W3d, Nat.reduceAdd, Nat.reduceMul, Nat.reduceSub, lc7_0, lc7_1, lc7_2, lc7_3, ax0, ax1, ax2, inc0, inc2, k_3of, m02, e02, k_3mul, k_3less]
  rw [gussetref07_form.l2_eq]
  simp (disch := first | exact dD | fail) only [Wd, W2d, W3d, Nat.reduceAdd, Nat.reduceMul, Nat.reduceSub, lc7_0, lc7_1, lc7_2, lc7_3, inc0]
  rw [gussetref07_form.l1_eq]
  simp (disch := first | exact dD | fail) only [Wd, W2d, W3d, Nat.reduceAdd, Nat.reduceMul, Nat.reduceSub, lc7_0, lc7_1, lc7_2, lc7_3, inc1]
  rw [gussetref07_form.l2_eq]
  simp (disch := first | exact dD | fail) only [Wd, W2d, W3d, Nat.reduceAdd, Nat.reduceMul, Nat.reduceSub, lc7_0, lc7_1, lc7_2, lc7_3, ax0, ax1, ax2, inc1, inc2, k_3of, m12, e12, k_3mul, k_3less]
  rw [gussetref07_form.l2_eq]
  simp (disch := first | exact dD | fail) only [Wd, W2d, W3d, Nat.reduceAdd, Nat.reduceMul, Nat.reduceSub, lc7_0, lc7_1, lc7_2, lc7_3, inc1]
  rw [gussetref07_form.l1_eq]
  simp (disch := first | exact dD | fail) only [Wd, W2d, W3d, Nat.reduceAdd, Nat.reduceMul, Nat.reduceSub, lc7_0, lc7_1, lc7_2, lc7_3, inc2]
  rw [gussetref07_form.l2_eq]
  simp (disch := first | exact dD | fail) only [Wd, W2d, W3d, Nat.reduceAdd, Nat.reduceMul, Nat.reduceSub, lc7_0, lc7_1, lc7_2, lc7_3, inc2]
  rw [gussetref07_form.l1_eq]
  simp (disch := first | exact dD | fail) only [Wd, W2d, W3d, Nat.reduceAdd, Nat.reduceMul, Nat.reduceSub, lc7_0, lc7_1, lc7_2, lc7_3, rc27']
  rfl)
/-! ### Weighing -/
variable {g : G6} {V b m a0 a1 a2 : Nat}
theorem c_weigh (hg : Gz g V b) (v0 : 0 < V) (hV : V < P256 m) (hm : m + b + 20 ≤ 20000) (hs : a0 + a1 + a2 ≤ 2) : byVal (callW gp) h fid.gussetref07_weigh [.agg (gc g), .agg [.int .i64 (a0 : Int), .int .i64 (a1 : Int), .int .i64 (a2 : Int)]] = some (ra (wgQ g a0 a1 a2)) := byVal_imm (imm_L2 imm_gc imm_i3) (by
  have vp : 0 < V * 720 := by omega
  have wl : V * 720 < P256 (m + 2) := pw_mul hV (by decide)
  have zz : Sz ((0 : Int) : Rat) (V * 720) (b + 2) := Sz_zero
  have kz := zz.rz vp wl (n := 20000) (by omega)
  have w0 : Sz (pwQ (a0 + 1 + 1) a1 a2) 720 2 := Sz_pw (by omega)
  have k0 := fun h => c_power (h := h) (a := (a0 + 1 + 1)) (b := a1) (c := a2) (by omega)
  have t0 := hg.z0.mul w0
  have s0 := zz.add (t0.up (show b + 2 ≤ b + 2 + 0 by omega))
  have w1 : Sz (pwQ (a0 + 1) (a1 + 1) a2) 720 2 := Sz_pw (by omega)
  have k1 := fun h => c_power (h := h) (a := (a0 + 1)) (b := (a1 + 1)) (c := a2) (by omega)
  have t1 := hg.z1.mul w1
  have s1 := s0.add (t1.up (show b + 2 ≤ b + 2 + 1 by omega))
  have w2 : Sz (pwQ (a0 + 1) a1 (a2 + 1)) 720 2 := Sz_pw (by omega)
  have k2 := fun h => c_power (h := h) (a := (a0 + 1)) (b := a1) (c := (a2 + 1)) (by omega)
  have t2 := hg.z2.mul w2
  have s2 := s1.add (t2.up (show b + 2 ≤ b + 2 + 2 by omega))
  have w3 : Sz (pwQ a0 (a1 + 1 + 1) a2) 720 2 := Sz_pw (by omega)
  have k3 := fun h => c_power (h := h) (a := a0) (b := (a1 + 1 + 1)) (c := a2) (by omega)
  have t3 := hg.z3.mul w3
  have s3 := s2.add (t3.up (show b + 2 ≤ b + 2 + 3 by omega))
  have w4 : Sz (pwQ a0 (a1 + 1) (a2 + 1)) 720 2 := Sz_pw (by omega)
  have k4 := fun h => c_power (h := h) (a := a0) (b := (a1 + 1)) (c := (a2 + 1)) (by omega)
  have t4 := hg.z4.mul w4
  have s4 := s3.add (t4.up (show b + 2 ≤ b + 2 + 4 by omega))
  have w5 : Sz (pwQ a0 a1 (a2 + 1 + 1)) 720 2 := Sz_pw (by omega)
  have k5 := fun h => c_power (h := h) (a := a0) (b := a1) (c := (a2 + 1 + 1)) (by omega)
  have t5 := hg.z5.mul w5
  have s5 := s4.add (t5.up (show b + 2 ≤ b + 2 + 5 by omega))
  have x0 := hg.z0.rz v0 hV (n := 20000) (by omega)
  have y0 := w0.rz (d := 2) (n := 20000) (by omega) (by decide) (by omega)
  have u0 := t0.rz vp wl (n := 20000) (by omega)
  have r0 := s0.rz vp wl (n := 20000) (by omega)
  have x1 := hg.z1.rz v0 hV (n := 20000) (by omega)
  have y1 := w1.rz (d := 2) (n := 20000) (by omega) (by decide) (by omega)
  have u1 := t1.rz vp wl (n := 20000) (by omega)
  have r1 := s1.rz vp wl (n := 20000) (by omega)
  have x2 := hg.z2.rz v0 hV (n := 20000) (by omega)
  have y2 := w2.rz (d := 2) (n := 20000) (by omega) (by decide) (by omega)
  have u2 := t2.rz vp wl (n := 20000) (by omega)
  have r2 := s2.rz vp wl (n := 20000) (by omega)
  have x3 := hg.z3.rz v0 hV (n := 20000) (by omega)
  have y3 := w3.rz (d := 2) (n := 20000) (by omega) (by decide) (by omega)
  have u3 := t3.rz vp wl (n := 20000) (by omega)
  have r3 := s3.rz vp wl (n := 20000) (by omega)
  have x4 := hg.z4.rz v0 hV (n := 20000) (by omega)
  have y4 := w4.rz (d := 2) (n := 20000) (by omega) (by decide) (by omega)
  have u4 := t4.rz vp wl (n := 20000) (by omega)
  have r4 := s4.rz vp wl (n := 20000) (by omega)
  have x5 := hg.z5.rz v0 hV (n := 20000) (by omega)
  have y5 := w5.rz (d := 2) (n := 20000) (by omega) (by decide) (by omega)
  have u5 := t5.rz vp wl (n := 20000) (by omega)
  clear s5 s4 s3 s2 s1 s0 t0 w0 t1 w1 t2 w2 t3 w3 t4 w4 t5 w5 zz wl vp hg hV hm
  rw [gussetref07_weigh.eq]
  unfold gussetref07_weigh.f wgQ
  rw [gcells]
  generalize pwQ (a0 + 1 + 1) a1 a2 = q0 at *
  generalize pwQ (a0 + 1) (a1 + 1) a2 = q1 at *
  generalize pwQ (a0 + 1) a1 (a2 + 1) = q2 at *
  generalize pwQ a0 (a1 + 1 + 1) a2 = q3 at *
  generalize pwQ a0 (a1 + 1) (a2 + 1) = q4 at *
  generalize pwQ a0 a1 (a2 + 1 + 1) = q5 at *
  simp (disch := first | exact dD | fail) only [Wd, W2d, W3d, Nat.reduceAdd, Nat.reduceMul, Nat.reduceSub, k_3of]
  rw [gussetref07_weigh.l0_eq]
  simp (disch := first | exact dD | fail) only [Wd, W2d, W3d, Nat.reduceAdd, Nat.reduceMul, Nat.reduceSub, lc7_0, lc7_1, lc7_2, lc7_3]
  rw [gussetref07_weigh.l1_eq]
  simp (disch := first | exact dD | fail) only [Wd, W2d, W3d, Nat.reduceAdd, Nat.reduceMul, Nat.reduceSub, lc7_0, lc7_1, lc7_2, lc7_3, ax0, ax1, ax2, inc0, inc0, k0, k_3mul, k_3sum]
  rw [gussetref07_weigh.l1_eq]
  simp (disch := first | exact dD | fail) only [Wd, W2d, W3d, Nat.reduceAdd, Nat.reduceMul, Nat.reduceSub, lc7_0, lc7_1, lc7_2, lc7_3, ax0, ax1, ax2, inc0, inc1, k1, k_3mul, k_3sum]
  rw [gussetref07_weigh.l1_eq]
  simp (disch := first | exact dD | fail) only [Wd, W2d, W3d, Nat.reduceAdd, Nat.reduceMul, Nat.reduceSub, lc7_0, lc7_1, lc7_2, lc7_3, ax0, ax1, ax2, inc0, inc2, k2, k_3mul, k_3sum]
  rw [gussetref07_weigh.l1_eq]
  simp (disch := first | exact dD | fail) only [Wd, W2d, W3d, Nat.reduceAdd, Nat.reduceMul, Nat.reduceSub, lc7_0, lc7_1, lc7_2, lc7_3, inc0]
  rw [gussetref07_weigh.l0_eq]
  simp (disch := first | exact dD | fail) only [Wd, W2d, W3d, Nat.reduceAdd, Nat.reduceMul, Nat.reduceSub, lc7_0, lc7_1, lc7_2, lc7_3]
  rw [gussetref07_weigh.l1_eq]
  simp (disch := first | exact dD | fail) only [Wd, W2d, W3d, Nat.reduceAdd, Nat.reduceMul, Nat.reduceSub, lc7_0, lc7_1, lc7_2, lc7_3, ax0, ax1, ax2, inc1, inc1, k3, k_3mul, k_3sum]
  rw [gussetref07_weigh.l1_eq]
  simp (disch := first | exact dD | fail) only [Wd, W2d, W3d, Nat.reduceAdd, Nat.reduceMul, Nat.reduceSub, lc7_0, lc7_1, lc7_2, lc7_3, ax0, ax1, ax2, inc1, inc2, k4, k_3mul, k_3sum]
  rw [gussetref07_weigh.l1_eq]
  simp (disch := first | exact dD | fail) only [Wd, W2d, W3d, Nat.reduceAdd, Nat.reduceMul, Nat.reduceSub, lc7_0, lc7_1, lc7_2, lc7_3, inc1]
  rw [gussetref07_weigh.l0_eq]
  simp (disch := first | exact dD | fail) only [Wd, W2d, W3d, Nat.reduceAdd, Nat.reduceMul, Nat.reduceSub, lc7_0, lc7_1, lc7_2, lc7_3]
  rw [gussetref07_weigh.l1_eq]
  simp (disch := first | exact dD | fail) only [Wd, W2d, W3d, Nat.reduceAdd, Nat.reduceMul, Nat.reduceSub, lc7_0, lc7_1, lc7_2, lc7_3, ax0, ax1, ax2, inc2, inc2, k5, k_3mul, k_3sum]
  rw [gussetref07_weigh.l1_eq]
  simp (disch := first | exact dD | fail) only [Wd, W2d, W3d, Nat.reduceAdd, Nat.reduceMul, Nat.reduceSub, lc7_0, lc7_1, lc7_2, lc7_3, inc2]
  rw [gussetref07_weigh.l0_eq]
  simp (disch := first | exact dD | fail) only [Wd, W2d, W3d, Nat.reduceAdd, Nat.reduceMul, Nat.reduceSub, lc7_0, lc7_1, lc7_2, lc7_3])
end
end Go.Proofs.YtcpmkohlmjakmaaGreatDoor.Am