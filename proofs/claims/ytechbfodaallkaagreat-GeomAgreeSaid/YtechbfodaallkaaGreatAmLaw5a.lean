import Derived.Test.YtechbfodaallkaaGreatAmSm5
import Derived.Test.YtechbfodaallkaaGreatAmAgree
import Derived.Test.YtechbfodaallkaaGreatTAgree
/- The law of layer 5 that the predicates agree. -/
set_option linter.unusedVariables false
set_option maxRecDepth 10000
set_option linter.unusedSimpArgs false
namespace Go.Proofs.YtechbfodaallkaaGreat.Am
open Go

def asD (a b c d : PT) : Int := firstE ([a, b, c, d].map askc)
theorem asD_zero {a b c d : PT} (h : asD a b c d = 0) : askc a = 0 ∧ askc b = 0 ∧ askc c = 0 ∧ askc d = 0 := by
  have e : asD a b c d = if askc a = 0 then (if askc b = 0 then (if askc c = 0 then (if askc d = 0 then 0 else askc d) else askc c) else askc b) else askc a := rfl
  rw [e] at h
  by_cases h1 : askc a = 0 <;> by_cases h2 : askc b = 0 <;> by_cases h3 : askc c = 0 <;> by_cases h4 : askc d = 0 <;> simp [h1, h2, h3, h4] at h ⊢
theorem rc_24 {a0 a1 a2 a3 a4 a5 a6 a7 a8 a9 b0 b1 b2 b3 b4 b5 b6 b7 b8 b9 c0 c1 c2 c3 : AV} {l : List AV} : readCells (a0 :: a1 :: a2 :: a3 :: a4 :: a5 :: a6 :: a7 :: a8 :: a9 :: b0 :: b1 :: b2 :: b3 :: b4 :: b5 :: b6 :: b7 :: b8 :: b9 :: c0 :: c1 :: c2 :: c3 :: l) (some 24) = some (.agg [a0, a1, a2, a3, a4, a5, a6, a7, a8, a9, b0, b1, b2, b3, b4, b5, b6, b7, b8, b9, c0, c1, c2, c3]) := Eq.trans rfl rfl
section
variable {h : Heap}
theorem as5_4 {a b c d : PT} {f : Bool} (ha : a.ok) (hb : b.ok) (hc : c.ok) (hd : d.ok) : byVal (callW gp) h fid.gussetref05_Asked [.is 4 f (ptc a ++ ptc b ++ ptc c ++ ptc d)] = some (.int .i64 (asD a b c d)) := by
  have pts := k_5asked (h := h) (xs := [a, b, c, d]) (f := f) (ok4 ha hb hc hd) (by simp)
  have e : [a, b, c, d].flatMap ptc = ptc a ++ ptc b ++ ptc c ++ ptc d := by simp
  rw [e] at pts
  exact pts
end
section
variable {ax ay bx b_ cx cy dx dy : Rat}
theorem agree_j1 (h1 : Rz ax 100) (h2 : Rz ay 100) (h3 : Rz bx 100) (h4 : Rz b_ 100) (h7 : Rz dx 100) (h8 : Rz dy 100) (H : Heap) : gussetlaw05_GeomAgree.j1 (.rp 0 0) (some (t4c ((rt ax, rt ay), (rt bx, rt b_), (rt cx, rt cy), (rt dx, rt dy))) :: H) = some (.bool true) := by
  have ko := fun h => k_gOn (h := h) h1 h2 h3 h4 h7 h8
  have kd := fun h => k_gdisc (h := h) h1 h2 h3 h4 h7 h8
  have ag := @agree_on ax ay bx b_ dx dy
  have e1 := @eqa_p dx dy ax ay
  have e2 := @eqa_p dx dy bx b_
  clear h1 h2 h3 h4 h7 h8
  unfold gussetlaw05_GeomAgree.j1 gussetlaw05_GeomAgree.j2
  generalize -(rsgn (discQ ax ay bx b_ dx dy)) = d at *
  unfold t4c ptc rtc rt
  simp only [List.cons_append, List.nil_append]
  by_cases o : onP ax ay bx b_ dx dy
  rotate_left
  · rw [decide_eq_false o] at ko
    by_cases q1 : dx = ax ∧ dy = ay
    · rw [decide_eq_true q1] at e1
      simp (maxSteps := 1000000) (disch := first | exact dD | fail) only [Wd, W2d, W3d, Nat.reduceAdd, Nat.reduceMul, Nat.reduceSub, ko, kd, e1, e2, live5_by]
    · rw [decide_eq_false q1] at e1
      simp (maxSteps := 1000000) (disch := first | exact dD | fail) only [Wd, W2d, W3d, Nat.reduceAdd, Nat.reduceMul, Nat.reduceSub, ko, kd, e1, e2, live5_by]
  rw [decide_eq_true o] at ko
  rcases ag o with hd | ⟨hd, q | q⟩
  · rw [hd] at kd
    by_cases q1 : dx = ax ∧ dy = ay
    · rw [decide_eq_true q1] at e1
      simp (maxSteps := 1000000) (disch := first | exact dD | fail) only [Wd, W2d, W3d, Nat.reduceAdd, Nat.reduceMul, Nat.reduceSub, ko, kd, e1, e2, live5_by]
    · rw [decide_eq_false q1] at e1
      simp (maxSteps := 1000000) (disch := first | exact dD | fail) only [Wd, W2d, W3d, Nat.reduceAdd, Nat.reduceMul, Nat.reduceSub, ko, kd, e1, e2, live5_by]
  · rw [hd] at kd
    rw [decide_eq_true q] at e1
    simp (maxSteps := 1000000) (disch := first | exact dD | fail) only [Wd, W2d, W3d, Nat.reduceAdd, Nat.reduceMul, Nat.reduceSub, ko, kd, e1, e2, live5_by]
  · rw [hd] at kd
    rw [decide_eq_true q] at e2
    by_cases q1 : dx = ax ∧ dy = ay
    · rw [decide_eq_true q1] at e1
      simp (maxSteps := 1000000) (disch := first | exact dD | fail) only [Wd, W2d, W3d, Nat.reduceAdd, Nat.reduceMul, Nat.reduceSub, ko, kd, e1, e2, live5_by]
    · rw [decide_eq_false q1] at e1
      simp (maxSteps := 1000000) (disch := first | exact dD | fail) only [Wd, W2d, W3d, Nat.reduceAdd, Nat.reduceMul, Nat.reduceSub, ko, kd, e1, e2, live5_by]
theorem Rz_crs (h1 : Rz ax 60) (h2 : Rz ay 60) (h3 : Rz bx 60) (h4 : Rz b_ 60) (h5 : Rz cx 60) (h6 : Rz cy 60) (h7 : Rz dx 60) (h8 : Rz dy 60) : Rz (alongQ ax ay bx b_ cx cy dx dy) 1000 := by
  unfold alongQ
  exact ((((h5.sub h1).mul (h8.sub h6)).sub ((h6.sub h2).mul (h7.sub h5))).div (((h3.sub h1).mul (h8.sub h6)).sub ((h4.sub h2).mul (h7.sub h5)))).mono (by omega)
theorem agree_j0 (h1 : Rz ax 60) (h2 : Rz ay 60) (h3 : Rz bx 60) (h4 : Rz b_ 60) (h5 : Rz cx 60) (h6 : Rz cy 60) (h7 : Rz dx 60) (h8 : Rz dy 60) : gussetlaw05_GeomAgree.j0 (.rp 0 0) [some (t4c ((rt ax, rt ay), (rt bx, rt b_), (rt cx, rt cy), (rt dx, rt dy)))] = some (.bool true) := by
  have n1 := h1.mono (m := 100) (by omega)
  have n2 := h2.mono (m := 100) (by omega)
  have n3 := h3.mono (m := 100) (by omega)
  have n4 := h4.mono (m := 100) (by omega)
  have n5 := h5.mono (m := 100) (by omega)
  have n6 := h6.mono (m := 100) (by omega)
  have n7 := h7.mono (m := 100) (by omega)
  have n8 := h8.mono (m := 100) (by omega)
  have j1 := agree_j1 (cx := cx) (cy := cy) n1 n2 n3 n4 n7 n8
  have km := fun h => k_gmeet (h := h) n1 n2 n3 n4 n5 n6 n7 n8
  unfold gussetlaw05_GeomAgree.j0
  by_cases hm : meetQ ax ay bx b_ cx cy dx dy = 1
  rotate_left
  · generalize meetQ ax ay bx b_ cx cy dx dy = m at *
    clear h1 h2 h3 h4 h5 h6 h7 h8 n1 n2 n3 n4 n5 n6 n7 n8
    unfold t4c ptc rtc rt at *
    simp only [List.cons_append, List.nil_append] at *
    simp (maxSteps := 1000000) (disch := first | exact dD | fail) only [Wd, W2d, W3d, Nat.reduceAdd, Nat.reduceMul, Nat.reduceSub, km, cond_d, hm, if_false, j1]
  obtain ⟨hd, o1, o2⟩ := agree_cross hm
  have kc := fun h => k_gcrossing (h := h) n1 n2 n3 n4 n5 n6 n7 n8 hd
  have rt_ := Rz_crs h1 h2 h3 h4 h5 h6 h7 h8
  have px := (h1.add ((h3.sub h1).mul rt_)).mono (m := 2000) (by omega)
  have py := (h2.add ((h4.sub h2).mul rt_)).mono (m := 2000) (by omega)
  have k1 := fun h => k5on (h := h) (h1.mono (m := 2000) (by omega)) (h2.mono (m := 2000) (by omega)) (h3.mono (m := 2000) (by omega)) (h4.mono (m := 2000) (by omega)) px py
  have k2 := fun h => k5on (h := h) (h5.mono (m := 2000) (by omega)) (h6.mono (m := 2000) (by omega)) (h7.mono (m := 2000) (by omega)) (h8.mono (m := 2000) (by omega)) px py
  rw [decide_eq_true o1] at k1
  rw [decide_eq_true o2] at k2
  rw [hm] at km
  clear h1 h2 h3 h4 h5 h6 h7 h8 n1 n2 n3 n4 n5 n6 n7 n8 rt_ px py o1 o2 hd hm
  generalize ax + (bx - ax) * alongQ ax ay bx b_ cx cy dx dy = X at *
  generalize ay + (b_ - ay) * alongQ ax ay bx b_ cx cy dx dy = Y at *
  unfold t4c ptc rtc rt at *
  simp only [List.cons_append, List.nil_append] at *
  simp (maxSteps := 1000000) (disch := first | exact dD | fail) only [Wd, W2d, W3d, Nat.reduceAdd, Nat.reduceMul, Nat.reduceSub, km, kc, k1, k2, j1]
end
theorem geomAgree_cv (t : T4) (ht : t.ok) : cv gp fid.gussetlaw05_GeomAgree [.agg (t4c t)] = some (.bool true) := by
  obtain ⟨a, b, c, d⟩ := t
  obtain ⟨ha, hb, hc, hd⟩ := ht
  simp only at ha hb hc hd
  rw [gussetlaw05_GeomAgree.eq]
  unfold gussetlaw05_GeomAgree.f
  have sm := fun h => c_small5 (h := h) (t := (a, b, c, d))
  by_cases hs : sm8 (a, b, c, d)
  rotate_left
  · rw [decide_eq_false hs] at sm
    clear hs
    unfold t4c ptc rtc at *
    simp only [List.cons_append, List.nil_append] at *
    simp (maxSteps := 1000000) (disch := first | exact dD | fail) only [Wd, W2d, W3d, Nat.reduceAdd, Nat.reduceMul, Nat.reduceSub, rc_24, sm, live5_by]
  rw [decide_eq_true hs] at sm
  obtain ⟨sa, sb, sc, sd⟩ := hs
  simp only at sa sb sc sd
  have al := fun h f => as5_4 (h := h) (f := f) ha hb hc hd
  by_cases h0 : asD a b c d = 0
  rotate_left
  · generalize asD a b c d = e at *
    unfold t4c ptc rtc at *
    simp only [List.cons_append, List.nil_append] at *
    simp (maxSteps := 1000000) (disch := first | exact dD | fail) only [Wd, W2d, W3d, Nat.reduceAdd, Nat.reduceMul, Nat.reduceSub, rc_24, sm, al, live5_by, cond_d, decide_eq_true h0, h0]
  rw [h0] at al
  obtain ⟨z1, z2, z3, z4⟩ := asD_zero h0
  obtain ⟨ax, ay, rfl, h1, h2⟩ := pt_rat ha sa z1
  obtain ⟨bx, b_, rfl, h3, h4⟩ := pt_rat hb sb z2
  obtain ⟨cx, cy, rfl, h5, h6⟩ := pt_rat hc sc z3
  obtain ⟨dx, dy, rfl, h7, h8⟩ := pt_rat hd sd z4
  have j0 := agree_j0 h1 h2 h3 h4 h5 h6 h7 h8
  have n1 := h1.mono (m := 100) (by omega)
  have n2 := h2.mono (m := 100) (by omega)
  have n3 := h3.mono (m := 100) (by omega)
  have n4 := h4.mono (m := 100) (by omega)
  have n5 := h5.mono (m := 100) (by omega)
  have n6 := h6.mono (m := 100) (by omega)
  have n7 := h7.mono (m := 100) (by omega)
  have n8 := h8.mono (m := 100) (by omega)
  clear sa sb sc sd z1 z2 z3 z4 ha hb hc hd h0
  by_cases hA : area ax ay bx b_ cx cy = 0
  · have k1 := fun h => k_gwithin0 (h := h) n1 n2 n3 n4 n5 n6 n7 n8 hA
    have k2 := fun h => k_circle0 (h := h) n1 n2 n3 n4 n5 n6 n7 n8 hA
    clear h1 h2 h3 h4 h5 h6 h7 h8 n1 n2 n3 n4 n5 n6 n7 n8 hA
    unfold t4c ptc rtc rt at *
    simp only [List.cons_append, List.nil_append] at *
    simp (maxSteps := 1000000) (disch := first | exact dD | fail) only [Wd, W2d, W3d, Nat.reduceAdd, Nat.reduceMul, Nat.reduceSub, rc_24, sm, al, k1, k2, j0]
  have k1 := fun h => k_gwithin (h := h) n1 n2 n3 n4 n5 n6 n7 n8 hA
  have k2 := fun h => k_circle (h := h) h1 h2 h3 h4 h5 h6 h7 h8 hA
  obtain ⟨w1, w0⟩ := agree_way (dx := dx) (dy := dy) hA
  clear h1 h2 h3 h4 h5 h6 h7 h8 n1 n2 n3 n4 n5 n6 n7 n8 hA
  generalize withinQ ax ay bx b_ cx cy dx dy = w at *
  generalize rsgn (area ax ay bx b_ cx cy) * rsgn (cirD ax ay bx b_ cx cy dx dy) = q at *
  unfold t4c ptc rtc rt at *
  simp only [List.cons_append, List.nil_append] at *
  by_cases e1 : w = 1
  · have e2 := w1 e1
    rw [e1] at k1
    rw [e2] at k2
    clear w1 w0
    simp (maxSteps := 1000000) (disch := first | exact dD | fail) only [Wd, W2d, W3d, Nat.reduceAdd, Nat.reduceMul, Nat.reduceSub, rc_24, sm, al, k1, k2, j0]
  by_cases e0 : w = 0
  · have e2 := w0 e0
    rw [e0] at k1
    clear w1 w0
    have e3 : ¬ q < 0 := by omega
    simp (maxSteps := 1000000) (disch := first | exact dD | fail) only [Wd, W2d, W3d, Nat.reduceAdd, Nat.reduceMul, Nat.reduceSub, rc_24, sm, al, k1, k2, j0, cond_d, e3, if_false]
  · clear w1 w0
    have d1 := decide_eq_false e1
    have d0 := decide_eq_false e0
    simp (maxSteps := 1000000) (disch := first | exact dD | fail) only [Wd, W2d, W3d, Nat.reduceAdd, Nat.reduceMul, Nat.reduceSub, rc_24, sm, al, k1, k2, j0, d1, d0]
end Go.Proofs.YtechbfodaallkaaGreat.Am
