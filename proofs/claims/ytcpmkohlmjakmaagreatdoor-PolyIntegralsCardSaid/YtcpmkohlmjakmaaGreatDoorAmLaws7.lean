import Derived.Test.YtcpmkohlmjakmaaGreatDoorAmSm7
import Derived.Test.YtcpmkohlmjakmaaGreatDoorTPVals
import Derived.Test.YtcpmkohlmjakmaaGreatDoorTPInts
/- The laws of section 07: values, integrals. -/
set_option linter.unusedVariables false
set_option maxRecDepth 10000
set_option linter.unusedSimpArgs false
namespace Go.Proofs.YtcpmkohlmjakmaaGreatDoor.Am
open Go

section
variable {h : Heap} {t : R6} {a : PT} {f : P6} {x y : Rat}
theorem ask1 {fl : Bool} (ha : a.ok) : byVal (callW gp) h fid.poly_asked [.is 2 fl [.bool a.1.s, str a.1.m, str a.1.d, .bool a.2.s, str a.2.m, str a.2.d]] = some (.int .i64 (askp [a])) := by
  have := k_pasked (h := h) (f := fl) (xs := pnums [a]) (fun x hx => by
    unfold pnums at hx
    simp only [List.flatMap_cons, List.flatMap_nil, List.cons_append, List.nil_append, List.mem_cons, List.not_mem_nil, or_false] at hx
    rcases hx with rfl | rfl
    · exact ha.1
    · exact ha.2) (by show 2 ≤ _; omega)
  exact this
theorem ask17 {fl : Bool} (ha : a.ok) : byVal (callW gp) h fid.gussetref07_Asked [.is 1 fl [.bool a.1.s, str a.1.m, str a.1.d, .bool a.2.s, str a.2.m, str a.2.d]] = some (.int .i64 (askp [a])) := k_asked7 (xs := [a]) (fun t ht => by
    rcases List.mem_cons.1 ht with rfl | ht
    · exact ha
    · cases ht) (by show 1 ≤ _; omega)
theorem k_pEval1 (ht : t.ok) (he : ask6 t ≠ 0) : byVal (callW gp) h fid.poly_Eval [.agg (r6c t), .agg (ptc a)] = some (.tup [.agg z3, .int .i64 (ask6 t)]) := byVal_imm (imm_L2 imm_r6 imm_pt) (by
  have kc := fun h => k_pcheck (h := h) ht
  generalize ask6 t = e at *
  rw [poly_Eval.eq]
  unfold poly_Eval.f
  simp only [r6cells, ptcells] at kc ⊢
  simp (disch := first | exact dD | fail) only [Wd, W2d, W3d, Nat.reduceAdd, Nat.reduceMul, Nat.reduceSub, kc, cond_d, he]
  rfl)
theorem k_pEval2 (ht : t.ok) (ha : a.ok) (h0 : ask6 t = 0) (he : askp [a] ≠ 0) : byVal (callW gp) h fid.poly_Eval [.agg (r6c t), .agg (ptc a)] = some (.tup [.agg z3, .int .i64 (askp [a])]) := byVal_imm (imm_L2 imm_r6 imm_pt) (by
  have kc := fun h => k_pcheck (h := h) ht
  rw [h0] at kc
  have ka := fun h fl => ask1 (h := h) (fl := fl) ha
  generalize askp [a] = e at *
  rw [poly_Eval.eq]
  unfold poly_Eval.f
  simp only [r6cells, ptcells] at kc ⊢
  simp (disch := first | exact dD | fail) only [Wd, W2d, W3d, Nat.reduceAdd, Nat.reduceMul, Nat.reduceSub, kc, ka, cond_d, he]
  rfl)
theorem k_pEval3 (hf : f.Z 100) (hx : Rz x 100) (hy : Rz y 100) : byVal (callW gp) h fid.poly_Eval [sa f, pa x y] = some (.tup [ra (evQ f x y), .int .i64 0]) := byVal_imm (imm_L2 imm_sa imm_pa) (by
  obtain ⟨F, f0, fl, pz⟩ := pol_F hf
  obtain ⟨W, w0, wl, tw⟩ := tri_W (⟨hx, hy, hx, hy, hx, hy⟩ : Tz x y x y x y 100)
  have ke := fun h => c_peval (h := h) pz tw.h1 tw.h2 f0 w0 fl wl (by omega)
  clear fl wl
  have kc := fun h => k_pcheck (h := h) (rt6_ok f)
  rw [ask6_0 hf] at kc
  have ka := fun h fl => ask1 (h := h) (fl := fl) (pt_ok' x y)
  have e0 : askp [(rt x, rt y)] = 0 := by
    show firstE [askr (rt x), askr (rt y)] = 0
    rw [askr_rat hx, askr_rat hy]; rfl
  rw [e0] at ka
  unfold rt at ka
  rw [poly_Eval.eq]
  unfold poly_Eval.f
  unfold sa at ke ⊢
  simp only [cells6] at kc ke ⊢
  simp (disch := first | exact dD | fail) only [Wd, W2d, W3d, Nat.reduceAdd, Nat.reduceMul, Nat.reduceSub, kc, ka, ke])
theorem k_ref7 (hf : f.Z 100) (hx : Rz x 100) (hy : Rz y 100) : byVal (callW gp) h fid.gussetref07_Eval [sa f, pa x y] = some (ra (evQ f x y)) := by
  obtain ⟨F, f0, fl, pz⟩ := pol_F hf
  obtain ⟨W, w0, wl, tw⟩ := tri_W (⟨hx, hy, hx, hy, hx, hy⟩ : Tz x y x y x y 100)
  rw [← ev7_eq]
  exact c_eval7 (h := h) pz tw.h1 tw.h2 f0 w0 fl wl (by omega)
end
theorem fewR_app {l m : List RT} (h : fewR (l ++ m)) : fewR l ∧ fewR m := ⟨fun x hx => h x (List.mem_append_left _ hx), fun x hx => h x (List.mem_append_right _ hx)⟩
theorem polyValues_cv (t : R6) (a : PT) (ht : t.ok) (ha : a.ok) : cv gp fid.gussetlaw07_PolyValues [.agg (r6c t), .agg (ptc a)] = some (.bool true) := by
  rw [gussetlaw07_PolyValues.eq]
  unfold gussetlaw07_PolyValues.f
  have fw := fun h => c_few7 (h := h) (t := t) (a := a) (b := a) (c := a)
  have kc := fun h => k_pcheck (h := h) ht
  have kr := fun h => k_check7 (h := h) ht
  have ka := fun h fl => ask17 (h := h) (fl := fl) ha
  by_cases hs : few7 t [a, a, a]
  rotate_left
  · rw [decide_eq_false hs] at fw
    clear hs
    simp only [r6cells, ptcells, t3cells] at fw ⊢
    simp (disch := first | exact dD | fail) only [Wd, W2d, W3d, Nat.reduceAdd, Nat.reduceMul, Nat.reduceSub, fill_agg, fw, live7_by]
  rw [decide_eq_true hs] at fw
  by_cases h0 : ask6 t = 0
  rotate_left
  · have k1 := fun h => k_pEval1 (h := h) (a := a) ht h0
    generalize ask6 t = e at *
    unfold gussetlaw07_PolyValues.j0
    clear hs
    simp only [r6cells, ptcells, t3cells] at fw kc kr k1 ⊢
    simp (disch := first | exact dD | fail) only [Wd, W2d, W3d, Nat.reduceAdd, Nat.reduceMul, Nat.reduceSub, fill_agg, fw, kc, kr, k1, h0, live7_by, cond_d, decide_eq_false h0, eqa_z3]
  rw [h0] at kc kr
  by_cases h1 : askp [a] = 0
  rotate_left
  · have k1 := fun h => k_pEval2 (h := h) (a := a) ht ha h0 h1
    generalize askp [a] = e at *
    unfold gussetlaw07_PolyValues.j0
    clear hs h0
    simp only [r6cells, ptcells, t3cells] at fw kc kr k1 ⊢
    simp (disch := first | exact dD | fail) only [Wd, W2d, W3d, Nat.reduceAdd, Nat.reduceMul, Nat.reduceSub, bslc_a1', fill_agg, fw, kc, kr, ka, k1, h1, live7_by, cond_d, decide_eq_false h1, eqa_z3]
  rw [h1] at ka
  obtain ⟨f, rfl, hf⟩ := r6_rat ht (fewR_app hs).1 h0
  obtain ⟨x, y, _, _, _, _, rfl, _, _, tz⟩ := pts_rat ha ha ha (fewR_app hs).2 (by
    have hz := firstE_zero h1
    show firstE [askr a.1, askr a.2, askr a.1, askr a.2, askr a.1, askr a.2] = 0
    rw [hz (askr a.1) (by simp [pnums]), hz (askr a.2) (by simp [pnums])]; rfl)
  have k1 := fun h => k_pEval3 (h := h) (hf.up (show 30 ≤ 100 by omega)) (tz.h1.mono (by omega)) (tz.h2.mono (by omega))
  have k2 := fun h => k_ref7 (h := h) (hf.up (show 30 ≤ 100 by omega)) (tz.h1.mono (by omega)) (tz.h2.mono (by omega))
  generalize evQ f x y = q at *
  unfold gussetlaw07_PolyValues.j0
  clear hs h0 h1
  unfold sa at k1 k2
  simp only [cells6] at fw kc kr k1 k2 ⊢
  simp only [ptcells, t3cells] at fw ka ⊢
  unfold rt at *
  simp (disch := first | exact dD | fail) only [Wd, W2d, W3d, Nat.reduceAdd, Nat.reduceMul, Nat.reduceSub, bslc_a1', fill_agg, fw, kc, kr, ka, k1, k2, live7_by, eqa_same]
theorem polyIntegrals_cv (t : R6) (x : T3) (ht : t.ok) (hx : x.ok) : cv gp fid.gussetlaw07_PolyIntegrals [.agg (r6c t), .agg (t3c x)] = some (.bool true) := by
  obtain ⟨a, b, c⟩ := x
  obtain ⟨ha, hb, hc⟩ := hx
  simp only at ha hb hc
  rw [gussetlaw07_PolyIntegrals.eq]
  unfold gussetlaw07_PolyIntegrals.f
  have fw := fun h => c_few7 (h := h) (t := t) (a := a) (b := b) (c := c)
  by_cases hs : few7 t [a, b, c]
  rotate_left
  · rw [decide_eq_false hs] at fw
    clear hs
    simp only [r6cells, t3cells] at fw ⊢
    simp (disch := first | exact dD | fail) only [Wd, W2d, W3d, Nat.reduceAdd, Nat.reduceMul, Nat.reduceSub, fw, live7_by]
  rw [decide_eq_true hs] at fw
  by_cases h0 : ask6 t = 0
  rotate_left
  · have kp := fun h => k_planeE1 (h := h) (a := a) (b := b) (c := c) ht h0
    have k1 := fun h => c_intE (h := h) kp h0
    have k2 := fun h => c_loadE (h := h) kp h0
    have k3 := fun h => c_sqE (h := h) kp h0
    have k4 := fun h => k_three1 (h := h) (a := a) (b := b) (c := c) ht h0
    generalize ask6 t = e at *
    clear hs kp
    simp only [r6cells, ptcells, t3cells] at fw k1 k2 k3 k4 ⊢
    simp (disch := first | exact dD | fail) only [Wd, W2d, W3d, Nat.reduceAdd, Nat.reduceMul, Nat.reduceSub, ax0, ax1, ax2, rc9', fw, k1, k2, k3, k4, h0, live7_by, cond_d, decide_eq_true h0, guard_tt, guard_tf, decide_eq_false h0, eqa_z3, eqa9z]
  by_cases h1 : askp [a, b, c] = 0
  rotate_left
  · have kp := fun h => k_planeE2 (h := h) ht ha hb hc h0 h1
    have k1 := fun h => c_intE (h := h) kp h1
    have k2 := fun h => c_loadE (h := h) kp h1
    have k3 := fun h => c_sqE (h := h) kp h1
    have k4 := fun h => k_three2 (h := h) ht ha hb hc h0 h1
    generalize askp [a, b, c] = e at *
    clear hs kp
    simp only [r6cells, ptcells, t3cells] at fw k1 k2 k3 k4 ⊢
    simp (disch := first | exact dD | fail) only [Wd, W2d, W3d, Nat.reduceAdd, Nat.reduceMul, Nat.reduceSub, ax0, ax1, ax2, rc9', fw, k1, k2, k3, k4, h1, live7_by, cond_d, decide_eq_true h1, decide_eq_false h1, eqa_z3, eqa9z]
  obtain ⟨f, rfl, hf⟩ := r6_rat ht (fewR_app hs).1 h0
  obtain ⟨ax, ay, bx, b_, cx, cy, rfl, rfl, rfl, tz⟩ := pts_rat ha hb hc (fewR_app hs).2 h1
  have hf := hf.up (show 30 ≤ 100 by omega)
  have tz := tz.up (show 30 ≤ 100 by omega)
  have k4 := fun h => k_three3 (h := h) hf tz
  clear hs h0 h1
  by_cases hA : area ax ay bx b_ cx cy = 0
  · have kp := fun h => k_planeE3 (h := h) hf tz hA
    have k1 := fun h => c_intEr (h := h) kp (by omega)
    have k2 := fun h => c_loadEr (h := h) kp (by omega)
    have k3 := fun h => c_sqEr (h := h) kp (by omega)
    rw [if_pos hA] at k4
    unfold sa at k1 k2 k3 k4
    unfold ta at k4
    simp only [cells6, tcells] at fw k1 k2 k3 k4 ⊢
    clear kp hA tz hf
    simp (disch := first | exact dD | fail) only [Wd, W2d, W3d, Nat.reduceAdd, Nat.reduceMul, Nat.reduceSub, ax0, ax1, ax2, rc9', fw, k1, k2, k3, k4, live7_by, eqa_z3, eqa9z]
  · have k1 := fun h => k_int (h := h) hf tz hA
    have k2 := fun h => k_loads (h := h) hf tz hA
    have k3 := fun h => k_square (h := h) hf tz hA
    have r1 := fun h => k_rInt (h := h) hf tz
    have r2 := fun h => k_rLoad (h := h) hf tz
    have r3 := fun h => k_rSq (h := h) hf tz
    simp only [ref_int, ref_load, ref_sq] at r1 r2 r3
    rw [if_neg hA] at k4
    generalize intQ _ _ = q1 at *
    generalize loadQ _ _ = q2 at *
    generalize sqQ _ _ = q3 at *
    have e9 := @eqa9 q2.1 q2.2.1 q2.2.2
    unfold ld3 at k2 r2
    unfold sa at k1 k2 k3 k4 r1 r2 r3
    unfold ta at k4 r1 r2 r3
    clear hA
    simp only [cells6, tcells] at fw k1 k2 k3 k4 r1 r2 r3 ⊢
    unfold rtc rt at k2 r2 e9
    simp only [List.cons_append, List.nil_append] at k2 r2 e9
    simp (disch := first | exact dD | fail) only [Wd, W2d, W3d, Nat.reduceAdd, Nat.reduceMul, Nat.reduceSub, ax0, ax1, ax2, rc9', fw, k1, k2, k3, k4, r1, r2, r3, live7_by, eqa_same, e9]
end Go.Proofs.YtcpmkohlmjakmaaGreatDoor.Am