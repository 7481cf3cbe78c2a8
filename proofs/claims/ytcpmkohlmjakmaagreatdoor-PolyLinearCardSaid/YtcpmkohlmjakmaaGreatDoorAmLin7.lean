import Derived.Test.YtcpmkohlmjakmaaGreatDoorAmThree7
import Derived.Test.YtcpmkohlmjakmaaGreatDoorTPLin
/- The law of section 07 of sums. -/
set_option linter.unusedVariables false
set_option maxRecDepth 10000
set_option linter.unusedSimpArgs false
namespace Go.Proofs.YtcpmkohlmjakmaaGreatDoor.Am
open Go

theorem neqa_same {r : Rat} : opEqa true [.b, .s, .s] (ra r) (ra r) = some (.bool false) := by
  have h := @eqa_same r
  have e : opEqa true [.b, .s, .s] (ra r) (ra r) = (opEqa false [.b, .s, .s] (ra r) (ra r)).bind (fun v => match v with | .bool b => some (.bool (!b)) | _ => none) := by
    unfold opEqa
    simp only
    split
    · cases eqCells [.b, .s, .s] _ _ <;> rfl
    · rfl
  rw [e, h]; rfl
theorem add_Z {f g : P6} (hf : f.Z 30) (hg : g.Z 30) : (addP f g ((2 : Int) : Rat)).Z 100 := by
  have z2 : Rz ((2 : Int) : Rat) 8 := Rz_int (by omega) (by omega)
  have k : ∀ {x y : Rat}, Rz x 30 → Rz y 30 → Rz (x + y * ((2 : Int) : Rat)) 100 := fun hx hy => (hx.add (hy.mul z2)).mono (by omega)
  exact ⟨k hf.z0 hg.z0, k hf.z1 hg.z1, k hf.z2 hg.z2, k hf.z3 hg.z3, k hf.z4 hg.z4, k hf.z5 hg.z5⟩
theorem polyLinear_cv (t u : R6) (x : T3) (ht : t.ok) (hu : u.ok) (hx : x.ok) : cv gp fid.gussetlaw07_PolyLinear [.agg (r6c t), .agg (r6c u), .agg (t3c x)] = some (.bool true) := by
  obtain ⟨a, b, c⟩ := x
  obtain ⟨ha, hb, hc⟩ := hx
  simp only at ha hb hc
  rw [gussetlaw07_PolyLinear.eq]
  unfold gussetlaw07_PolyLinear.f
  have fw := fun h => c_few7 (h := h) (t := t) (a := a) (b := b) (c := c)
  have fu := fun h => c_few7 (h := h) (t := u) (a := a) (b := b) (c := c)
  by_cases hs : few7 t [a, b, c]
  rotate_left
  · rw [decide_eq_false hs] at fw
    clear hs fu
    simp only [r6cells, t3cells] at fw ⊢
    simp (maxSteps := 1000000) (disch := first | exact dD | fail) only [Wd, W2d, W3d, Nat.reduceAdd, Nat.reduceMul, Nat.reduceSub, fw, live7_by]
  rw [decide_eq_true hs] at fw
  by_cases hv : few7 u [a, b, c]
  rotate_left
  · rw [decide_eq_false hv] at fu
    clear hs hv
    simp only [r6cells, t3cells] at fw fu ⊢
    simp (maxSteps := 1000000) (disch := first | exact dD | fail) only [Wd, W2d, W3d, Nat.reduceAdd, Nat.reduceMul, Nat.reduceSub, fw, fu, live7_by]
  rw [decide_eq_true hv] at fu
  obtain ⟨e, he, k4⟩ | ⟨f, ax, ay, bx, b_, cx, cy, rfl, rfl, rfl, rfl, hf, tz, hA, k4⟩ := three_or ht ha hb hc hs
  · clear hs hv
    simp only [r6cells, t3cells] at fw fu k4 ⊢
    simp (maxSteps := 1000000) (disch := first | exact dD | fail) only [Wd, W2d, W3d, Nat.reduceAdd, Nat.reduceMul, Nat.reduceSub, fw, fu, k4, cond_d, decide_eq_true he, live7_by]
  have kc := fun h => k_check7 (h := h) hu
  by_cases h1 : ask6 u = 0
  rotate_left
  · generalize ask6 u = e at *
    clear hs hv hA tz hf
    simp only [cells6] at fw k4 ⊢
    simp only [r6cells, tcells] at fw fu k4 kc ⊢
    simp (maxSteps := 1000000) (disch := first | exact dD | fail) only [Wd, W2d, W3d, Nat.reduceAdd, Nat.reduceMul, Nat.reduceSub, fw, fu, k4, kc, cond_d, h1, live7_by]
  rw [h1] at kc
  obtain ⟨g, rfl, hg⟩ := r6_rat hu (fewR_app hv).1 h1
  have hS := add_Z hf hg
  have hf := hf.up (show 30 ≤ 100 by omega)
  have hg := hg.up (show 30 ≤ 100 by omega)
  have tz := tz.up (show 30 ≤ 100 by omega)
  clear hs hv h1
  have z2 : Rz ((2 : Int) : Rat) 100 := (Rz_int (by omega) (by omega)).mono (by omega)
  have ks := fun h => k_add7 (h := h) hf hg z2
  have i1 := fun h => k_int (h := h) hf tz hA
  have i2 := fun h => k_int (h := h) hg tz hA
  have i3 := fun h => k_int (h := h) hS tz hA
  have l1 := fun h => k_loads (h := h) hf tz hA
  have l2 := fun h => k_loads (h := h) hg tz hA
  have l3 := fun h => k_loads (h := h) hS tz hA
  have r1 := (int_rz hf tz).mono (m := 20000) (by omega)
  have r2 := (int_rz hg tz).mono (m := 20000) (by omega)
  have r3 := ((int_rz hg tz).add (int_rz hg tz)).mono (m := 20000) (by omega)
  obtain ⟨m0, m1, m2⟩ := load_rz hf tz
  obtain ⟨n0, n1, n2⟩ := load_rz hg tz
  have s0 := (n0.add n0).mono (m := 20000) (by omega)
  have s1 := (n1.add n1).mono (m := 20000) (by omega)
  have s2 := (n2.add n2).mono (m := 20000) (by omega)
  have m0 := m0.mono (m := 20000) (by omega)
  have m1 := m1.mono (m := 20000) (by omega)
  have m2 := m2.mono (m := 20000) (by omega)
  have n0 := n0.mono (m := 20000) (by omega)
  have n1 := n1.mono (m := 20000) (by omega)
  have n2 := n2.mono (m := 20000) (by omega)
  rw [six7_add] at i3 l3
  simp only [int7_add] at i3
  simp only [load7_add] at l3
  clear hf hg hS tz hA
  generalize arQ ax ay bx b_ cx cy = A at *
  generalize sixQ f ax ay bx b_ cx cy = v at *
  generalize sixQ g ax ay bx b_ cx cy = w at *
  generalize intQ v A = q1 at *
  generalize intQ w A = q2 at *
  generalize loadQ v A = p1 at *
  generalize loadQ w A = p2 at *
  obtain ⟨x0, x1, x2⟩ := p1
  obtain ⟨y0, y1, y2⟩ := p2
  generalize addP f g ((2 : Int) : Rat) = s at *
  unfold ld3 at l1 l2 l3
  unfold sa at i1 i2 i3 l1 l2 l3 ks
  simp only [cells6] at fw fu k4 kc ks i1 i2 i3 l1 l2 l3 ⊢
  simp only [tcells] at fw fu k4 ⊢
  unfold rtc rt at l1 l2 l3
  simp only [List.cons_append, List.nil_append] at l1 l2 l3
  simp (maxSteps := 1000000) (disch := first | exact dD | fail) only [Wd, W2d, W3d, Nat.reduceAdd, Nat.reduceMul, Nat.reduceSub, ax0, ax1, ax2, rc9', fw, fu, k4, kc, ks, i1, i2, i3, l1, l2, l3, k_3of]
  rw [gussetlaw07_PolyLinear.l0_eq]
  simp (maxSteps := 1000000) (disch := first | exact dD | fail) only [Wd, W2d, W3d, Nat.reduceAdd, Nat.reduceMul, Nat.reduceSub, lc7_0, lc7_1, lc7_2, lc7_3, lc4, lc5, lc6, ax0, inc0, k_3sum, neqa_same]
  rw [gussetlaw07_PolyLinear.l0_eq]
  simp (maxSteps := 1000000) (disch := first | exact dD | fail) only [Wd, W2d, W3d, Nat.reduceAdd, Nat.reduceMul, Nat.reduceSub, lc7_0, lc7_1, lc7_2, lc7_3, lc4, lc5, lc6, ax1, inc1, k_3sum, neqa_same]
  rw [gussetlaw07_PolyLinear.l0_eq]
  simp (maxSteps := 1000000) (disch := first | exact dD | fail) only [Wd, W2d, W3d, Nat.reduceAdd, Nat.reduceMul, Nat.reduceSub, lc7_0, lc7_1, lc7_2, lc7_3, lc4, lc5, lc6, ax2, inc2, k_3sum, neqa_same]
  rw [gussetlaw07_PolyLinear.l0_eq]
  simp (maxSteps := 1000000) (disch := first | exact dD | fail) only [Wd, W2d, W3d, Nat.reduceAdd, Nat.reduceMul, Nat.reduceSub, lc7_0, lc7_1, lc7_2, lc7_3, lc4, lc5, lc6, k_3sum, eqa_same, live7_by]
end Go.Proofs.YtcpmkohlmjakmaaGreatDoor.Am