import Derived.Test.YtcpmkohlmjakmaaGreatDoorAmThree7
import Derived.Test.YtcpmkohlmjakmaaGreatDoorTPParts
/- The law of section 07 of parts. -/
set_option linter.unusedVariables false
set_option maxRecDepth 10000
set_option linter.unusedSimpArgs false
namespace Go.Proofs.YtcpmkohlmjakmaaGreatDoor.Am
open Go

theorem polyParts_cv (t : R6) (x : T3) (ht : t.ok) (hx : x.ok) : cv gp fid.gussetlaw07_PolyParts [.agg (r6c t), .agg (t3c x)] = some (.bool true) := by
  obtain ⟨a, b, c⟩ := x
  obtain ⟨ha, hb, hc⟩ := hx
  simp only at ha hb hc
  rw [gussetlaw07_PolyParts.eq]
  unfold gussetlaw07_PolyParts.f
  have fw := fun h => c_few7 (h := h) (t := t) (a := a) (b := b) (c := c)
  by_cases hs : few7 t [a, b, c]
  rotate_left
  · rw [decide_eq_false hs] at fw
    clear hs
    simp only [r6cells, t3cells] at fw ⊢
    simp (maxSteps := 1000000) (disch := first | exact dD | fail) only [Wd, W2d, W3d, Nat.reduceAdd, Nat.reduceMul, Nat.reduceSub, fw, live7_by]
  rw [decide_eq_true hs] at fw
  obtain ⟨e, he, k4⟩ | ⟨f, ax, ay, bx, b_, cx, cy, rfl, rfl, rfl, rfl, hf, tz, hA, k4⟩ := three_or ht ha hb hc hs
  · clear hs
    simp only [r6cells, t3cells] at fw k4 ⊢
    simp (maxSteps := 1000000) (disch := first | exact dD | fail) only [Wd, W2d, W3d, Nat.reduceAdd, Nat.reduceMul, Nat.reduceSub, fw, k4, cond_d, he, live7_by]
  have hf := hf.up (show 30 ≤ 100 by omega)
  have tz := tz.up (show 30 ≤ 100 by omega)
  have tb : Tz bx b_ ax ay cx cy 100 := ⟨tz.h3, tz.h4, tz.h1, tz.h2, tz.h5, tz.h6⟩
  have tc : Tz cx cy bx b_ ax ay 100 := ⟨tz.h5, tz.h6, tz.h3, tz.h4, tz.h1, tz.h2⟩
  have hB : area bx b_ ax ay cx cy ≠ 0 := fun hh => hA (by
    have e : area bx b_ ax ay cx cy = -area ax ay bx b_ cx cy := by unfold area; grind
    rw [e] at hh; grind)
  have hC : area cx cy bx b_ ax ay ≠ 0 := fun hh => hA (by
    have e : area cx cy bx b_ ax ay = -area ax ay bx b_ cx cy := by unfold area; grind
    rw [e] at hh; grind)
  clear hs
  have i1 := fun h => k_int (h := h) hf tz hA
  have l1 := fun h => k_loads (h := h) hf tz hA
  have l2 := fun h => k_loads (h := h) hf tb hB
  have q1 := fun h => k_square (h := h) hf tz hA
  have q2 := fun h => k_square (h := h) hf tc hC
  have kz := fun h => k_zero7 (h := h) (f := f)
  obtain ⟨m0, m1, m2⟩ := load_rz hf tz
  have s12 := (m1.add m2).mono (m := 20000) (by omega)
  have m0 := m0.mono (m := 20000) (by omega)
  have m1 := m1.mono (m := 20000) (by omega)
  have m2 := m2.mono (m := 20000) (by omega)
  have nn := sqQ_nn (sixQ f ax ay bx b_ cx cy) (arQ_pos hA)
  have zz : sqQ (sixQ f ax ay bx b_ cx cy) (arQ ax ay bx b_ cx cy) = 0 ↔ f = ⟨0, 0, 0, 0, 0, 0⟩ := (sqQ_z _ (arQ_pos hA)).trans (six_z hA)
  have ls := load_sum (sixQ f ax ay bx b_ cx cy) (arQ ax ay bx b_ cx cy)
  rw [six_swap, ar_swap] at l2
  rw [six_turn, ar_turn] at q2
  simp only [load_swap] at l2
  simp only [sq_turn] at q2
  clear hf tz tb tc hA hB hC
  generalize arQ ax ay bx b_ cx cy = A at *
  generalize sixQ f ax ay bx b_ cx cy = v at *
  rw [← ls] at i1
  clear ls
  generalize loadQ v A = p1 at *
  obtain ⟨x0, x1, x2⟩ := p1
  generalize sqQ v A = s at *
  have hr : rsgn s = if f = ⟨0, 0, 0, 0, 0, 0⟩ then 0 else 1 := by
    by_cases h0 : f = ⟨0, 0, 0, 0, 0, 0⟩
    · rw [if_pos h0]; exact rsgn_zero.2 (zz.2 h0)
    · rw [if_neg h0]
      have h1 : ¬ rsgn s = 0 := fun hh => h0 (zz.1 (rsgn_zero.1 hh))
      have h2 := rsgn_ge.2 nn
      have h3 : rsgn s ≤ 1 := by unfold rsgn; split <;> (try split) <;> omega
      omega
  clear nn zz
  have sg := fun h => sgn3 (h := h) (q := s)
  rw [hr] at sg
  clear hr
  unfold ld3 at l1 l2
  unfold sa at i1 l1 l2 q1 q2 kz
  simp only [cells6] at fw k4 i1 l1 l2 q1 q2 kz ⊢
  simp only [tcells] at fw k4 ⊢
  unfold rtc rt at l1 l2
  simp only [List.cons_append, List.nil_append] at i1 l1 l2
  by_cases h0 : f = ⟨0, 0, 0, 0, 0, 0⟩
  · rw [if_pos h0] at sg
    rw [decide_eq_true h0] at kz
    clear h0
    simp (maxSteps := 1000000) (disch := first | exact dD | fail) only [Wd, W2d, W3d, Nat.reduceAdd, Nat.reduceMul, Nat.reduceSub, ax0, ax1, ax2, rc9', fw, k4, i1, l1, l2, q1, q2, k_3sum, eqa_same, sg, kz, live7_by, beq_self_eq_true]
  · rw [if_neg h0] at sg
    rw [decide_eq_false h0] at kz
    clear h0
    have d10 : decide ((1 : Int) = 0) = false := rfl
    have bff : (false == false) = true := rfl
    simp (maxSteps := 1000000) (disch := first | exact dD | fail) only [Wd, W2d, W3d, Nat.reduceAdd, Nat.reduceMul, Nat.reduceSub, ax0, ax1, ax2, rc9', fw, k4, i1, l1, l2, q1, q2, k_3sum, eqa_same, sg, kz, live7_by, beq_self_eq_true, d10, bff]
end Go.Proofs.YtcpmkohlmjakmaaGreatDoor.Am