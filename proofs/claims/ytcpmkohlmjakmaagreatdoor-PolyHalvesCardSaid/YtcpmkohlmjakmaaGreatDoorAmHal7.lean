import Derived.Test.YtcpmkohlmjakmaaGreatDoorAmThree7
import Derived.Test.YtcpmkohlmjakmaaGreatDoorTPHalves
/- The law of section 07 of halves. -/
set_option linter.unusedVariables false
set_option maxRecDepth 10000
set_option linter.unusedSimpArgs false
namespace Go.Proofs.YtcpmkohlmjakmaaGreatDoor.Am
open Go

theorem hfcells (t : R6) (a b c : PT) (n d : Int) : hfc (t, (a, b, c), n, d) = r6c t ++ t3c (a, b, c) ++ [.int .i64 n, .int .i64 d] := rfl
section
variable {h : Heap} {x y k : Rat}
theorem c_betw (hx : Rz x 100) (hy : Rz y 100) (hk : Rz k 100) : byVal (callW gp) h fid.gussetlaw07_between [ra x, ra y, ra k] = some (ra (x + (y - x) * k)) := byVal_imm (imm_L3 imm_r3 imm_r3 imm_r3) (by
  rw [gussetlaw07_between.eq]
  unfold gussetlaw07_between.f
  have h1 := hx.mono (m := 20000) (by omega)
  have h2 := hy.mono (m := 20000) (by omega)
  have h3 := hk.mono (m := 20000) (by omega)
  have h4 := (hy.sub hx).mono (m := 20000) (by omega)
  have h5 := ((hy.sub hx).mul hk).mono (m := 20000) (by omega)
  simp (maxSteps := 1000000) (disch := first | exact dD | fail) only [Wd, W2d, W3d, Nat.reduceAdd, Nat.reduceMul, Nat.reduceSub, k_3less, k_3mul, k_3sum])
end
theorem k01 {n d : Int} (h1 : 1 ≤ n) (h2 : n < d) : 0 < Rat.divInt n d ∧ Rat.divInt n d < 1 := by
  rw [Rat.divInt_eq_div]
  have a1 : (1 : Rat) ≤ (n : Rat) := Rat.intCast_le_intCast.2 (show (1 : Int) ≤ n from h1)
  have a2 : (n : Rat) + 1 ≤ (d : Rat) := by
    have := Rat.intCast_le_intCast.2 (show n + 1 ≤ d by omega)
    rwa [Rat.intCast_add] at this
  generalize (n : Rat) = N at *
  generalize (d : Rat) = D at *
  have hD : 0 < D := by grind
  have e : N / D * D = N := by grind
  refine ⟨div_pos (by grind) hD, ?_⟩
  generalize N / D = q at *
  by_cases hq : q < 1
  · exact hq
  · have := Rat.mul_nonneg (a := q - 1) (b := D) (by grind) (by grind)
    grind
set_option maxHeartbeats 8000000 in
theorem polyHalves_cv (x : Hf) (hx : x.ok) : cv gp fid.gussetlaw07_PolyHalves [.agg (hfc x)] = some (.bool true) := by
  obtain ⟨t, ⟨a, b, c⟩, n, d⟩ := x
  obtain ⟨ht, ha, hb, hc⟩ := hx
  simp only at ht ha hb hc
  rw [gussetlaw07_PolyHalves.eq]
  unfold gussetlaw07_PolyHalves.f
  rw [hfcells]
  have fw := fun h => c_few7 (h := h) (t := t) (a := a) (b := b) (c := c)
  by_cases hs : few7 t [a, b, c]
  rotate_left
  · rw [decide_eq_false hs] at fw
    clear hs
    simp only [r6cells, t3cells, List.cons_append, List.nil_append] at fw ⊢
    simp (maxSteps := 1000000) (disch := first | exact dD | fail) only [Wd, W2d, W3d, Nat.reduceAdd, Nat.reduceMul, Nat.reduceSub, fw, live7_by]
  rw [decide_eq_true hs] at fw
  obtain ⟨e, he, k4⟩ | ⟨f, ax, ay, bx, b_, cx, cy, rfl, rfl, rfl, rfl, hf, tz, hA, k4⟩ := three_or ht ha hb hc hs
  · clear hs
    simp only [r6cells, t3cells, List.cons_append, List.nil_append] at fw k4 ⊢
    simp (maxSteps := 1000000) (disch := first | exact dD | fail) only [Wd, W2d, W3d, Nat.reduceAdd, Nat.reduceMul, Nat.reduceSub, fw, k4, cond_d, decide_eq_true he, live7_by]
  clear hs
  by_cases g1 : d < 2
  · clear hf tz hA
    simp only [cells6, tcells, List.cons_append, List.nil_append] at fw k4 ⊢
    simp (maxSteps := 1000000) (disch := first | exact dD | fail) only [Wd, W2d, W3d, Nat.reduceAdd, Nat.reduceMul, Nat.reduceSub, fw, k4, live7_by]
  by_cases g2 : 50 < d
  · clear hf tz hA
    simp only [cells6, tcells, List.cons_append, List.nil_append] at fw k4 ⊢
    simp (maxSteps := 1000000) (disch := first | exact dD | fail) only [Wd, W2d, W3d, Nat.reduceAdd, Nat.reduceMul, Nat.reduceSub, fw, k4, live7_by]
  by_cases g3 : n < 1
  · clear hf tz hA
    simp only [cells6, tcells, List.cons_append, List.nil_append] at fw k4 ⊢
    simp (maxSteps := 1000000) (disch := first | exact dD | fail) only [Wd, W2d, W3d, Nat.reduceAdd, Nat.reduceMul, Nat.reduceSub, fw, k4, live7_by]
  by_cases g4 : d ≤ n
  · clear hf tz hA
    simp only [cells6, tcells, List.cons_append, List.nil_append] at fw k4 ⊢
    simp (maxSteps := 1000000) (disch := first | exact dD | fail) only [Wd, W2d, W3d, Nat.reduceAdd, Nat.reduceMul, Nat.reduceSub, fw, k4, live7_by]
  have hd : d ≠ 0 := by omega
  have kf := fun h => k_3frac (h := h) (z := n) (d := d) (by omega) (by omega) (by omega) (by omega) hd
  have rk : Rz (Rat.divInt n d) 8 := Rz_divInt' (by omega) (by omega) (by omega) (by omega) hd
  obtain ⟨k0, k1⟩ := k01 (n := n) (d := d) (by omega) (by omega)
  generalize Rat.divInt n d = k at *
  have px : Rz (ax + (bx - ax) * k) 100 := (tz.h1.add ((tz.h3.sub tz.h1).mul rk)).mono (by omega)
  have py : Rz (ay + (b_ - ay) * k) 100 := (tz.h2.add ((tz.h4.sub tz.h2).mul rk)).mono (by omega)
  have hf := hf.up (show 30 ≤ 100 by omega)
  have tz := tz.up (show 30 ≤ 100 by omega)
  have rk := rk.mono (m := 100) (by omega)
  have bX := fun h => c_betw (h := h) tz.h1 tz.h3 rk
  have bY := fun h => c_betw (h := h) tz.h2 tz.h4 rk
  have t1 : Tz ax ay (ax + (bx - ax) * k) (ay + (b_ - ay) * k) cx cy 100 := ⟨tz.h1, tz.h2, px, py, tz.h5, tz.h6⟩
  have t2 : Tz (ax + (bx - ax) * k) (ay + (b_ - ay) * k) bx b_ cx cy 100 := ⟨px, py, tz.h3, tz.h4, tz.h5, tz.h6⟩
  have A1 : area ax ay (ax + (bx - ax) * k) (ay + (b_ - ay) * k) cx cy ≠ 0 := fun hh => by
    have e : area ax ay (ax + (bx - ax) * k) (ay + (b_ - ay) * k) cx cy = k * area ax ay bx b_ cx cy := by unfold area; grind
    rw [e] at hh
    rcases Rat.mul_eq_zero.1 hh with hh | hh
    · grind
    · exact hA hh
  have A2 : area (ax + (bx - ax) * k) (ay + (b_ - ay) * k) bx b_ cx cy ≠ 0 := fun hh => by
    have e : area (ax + (bx - ax) * k) (ay + (b_ - ay) * k) bx b_ cx cy = (1 - k) * area ax ay bx b_ cx cy := by unfold area; grind
    rw [e] at hh
    rcases Rat.mul_eq_zero.1 hh with hh | hh
    · grind
    · exact hA hh
  have i0 := fun h => k_int (h := h) hf tz hA
  have i1 := fun h => k_int (h := h) hf t1 A1
  have i2 := fun h => k_int (h := h) hf t2 A2
  have s0 := fun h => k_square (h := h) hf tz hA
  have s1 := fun h => k_square (h := h) hf t1 A1
  have s2 := fun h => k_square (h := h) hf t2 A2
  have r1 := (int_rz hf t1).mono (m := 20000) (by omega)
  have r2 := (int_rz hf t2).mono (m := 20000) (by omega)
  have w1 := (sq_rz hf t1).mono (m := 20000) (by omega)
  have w2 := (sq_rz hf t2).mono (m := 20000) (by omega)
  rw [int_half k0 k1] at i0
  rw [sq_half k0 k1] at s0
  clear hf tz hA t1 t2 A1 A2 px py rk k0 k1
  generalize intQ (sixQ f ax ay (ax + (bx - ax) * k) (ay + (b_ - ay) * k) cx cy) _ = q1 at *
  generalize intQ (sixQ f (ax + (bx - ax) * k) (ay + (b_ - ay) * k) bx b_ cx cy) _ = q2 at *
  generalize sqQ (sixQ f ax ay (ax + (bx - ax) * k) (ay + (b_ - ay) * k) cx cy) _ = u1 at *
  generalize sqQ (sixQ f (ax + (bx - ax) * k) (ay + (b_ - ay) * k) bx b_ cx cy) _ = u2 at *
  generalize ax + (bx - ax) * k = X at *
  generalize ay + (b_ - ay) * k = Y at *
  unfold sa at i0 i1 i2 s0 s1 s2
  simp only [cells6, tcells, List.cons_append, List.nil_append] at fw k4 i0 i1 i2 s0 s1 s2 ⊢
  simp (maxSteps := 1000000) (disch := first | exact dD | fail) only [Wd, W2d, W3d, Nat.reduceAdd, Nat.reduceMul, Nat.reduceSub, ax0, ax1, ax2, fw, k4, kf, bX, bY, i0, i1, i2, s0, s1, s2, k_3sum, eqa_same, live7_by]
section
variable {P : Program}
def isArrT (P : Program) (t : TypeId) (n : Nat) (e : TypeId) : Bool :=
  match P.underlying t with
  | some (.array m d) => m == n && d == e
  | _ => false
def isI64T (P : Program) (t : TypeId) : Bool := P.cellsOf t == 1 &&
  match P.underlying t with
  | some (.int .i64) => true
  | _ => false
theorem arr_of {t e : TypeId} {n : Nat} (h : isArrT P t n e = true) : P.underlying t = some (.array n e) := by
  unfold isArrT at h
  split at h
  · rename_i m d hu
    simp only [Bool.and_eq_true, beq_iff_eq] at h
    rw [hu, h.1, h.2]
  · cases h
theorem i64_of {t : TypeId} (h : isI64T P t = true) : P.cellsOf t = 1 ∧ P.underlying t = some (.int .i64) := by
  unfold isI64T at h
  simp only [Bool.and_eq_true, beq_iff_eq] at h
  refine ⟨h.1, ?_⟩
  have h2 := h.2
  split at h2
  · rename_i hu; exact hu
  · cases h2
def isHalfT (P : Program) (t e1 e2 : TypeId) : Bool := P.cellsOf t == 38 &&
  match P.underlying t with
  | some (.struct fs) =>
    match fs.toList with
    | [f1, f2, f3, f4] => f1.offset == 0 && f2.offset == 18 && f3.offset == 36 && f4.offset == 37 && isArrT P f1.type 6 e1 && isRatT P e1 && P.cellsOf f1.type == 18 && isArrT P f2.type 3 e2 && isPtT P e2 && P.cellsOf f2.type == 18 && isI64T P f3.type && isI64T P f4.type
    | _ => false
  | _ => false
theorem hf_in {t e1 e2 : TypeId} {v : AV} (hag : isAggT P t = true) (hh : isHalfT P t e1 e2 = true) (h : DatV P 9 t v) : ∃ x : Hf, v = .agg (hfc x) ∧ x.ok := by
  unfold isHalfT at hh
  simp only [Bool.and_eq_true, beq_iff_eq] at hh
  obtain ⟨ct, h2⟩ := hh
  split at h2
  · rename_i fs hu
    split at h2
    · rename_i f1 f2 f3 f4 hfs
      simp only [Bool.and_eq_true, beq_iff_eq] at h2
      obtain ⟨⟨⟨⟨⟨⟨⟨⟨⟨⟨⟨o1, o2⟩, o3⟩, o4⟩, u1⟩, r1⟩, c1⟩, u2⟩, r2⟩, c2⟩, u3⟩, u4⟩ := h2
      obtain ⟨c3, u3⟩ := i64_of u3
      obtain ⟨c4, u4⟩ := i64_of u4
      exact half_in hag hu (by rw [hfs]; simp [o1, o2, o3, o4]) ct (arr_of u1) r1 c1 (arr_of u2) r2 c2 u3 c3 u4 c4 h
    · cases h2
  · cases h2
end
end Go.Proofs.YtcpmkohlmjakmaaGreatDoor.Am