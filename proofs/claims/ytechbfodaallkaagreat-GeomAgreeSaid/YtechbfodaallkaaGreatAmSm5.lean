import Derived.Test.YtechbfodaallkaaGreatAmGeom3
import Derived.Test.YtechbfodaallkaaGreatAmV
import Derived.Test.YtechbfodaallkaaGreatTLaw05
/- The laws of layer 5: what they begin with. -/
set_option linter.unusedVariables false
set_option maxRecDepth 10000
set_option linter.unusedSimpArgs false
namespace Go.Proofs.YtechbfodaallkaaGreat.Am
open Go

section
variable {P : Program}
def isPt4T (P : Program) (t : TypeId) : Bool := P.cellsOf t == 24 && match P.underlying t with
  | some (.struct fs) => match fs.toList with
    | [f, g, k, l] => f.offset == 0 && g.offset == 6 && k.offset == 12 && l.offset == 18 && isPtT P f.type && isPtT P g.type && isPtT P k.type && isPtT P l.type
    | _ => false
  | _ => false
/-- Four points. -/
abbrev T4 := PT × PT × PT × PT
def T4.ok (t : T4) : Prop := t.1.ok ∧ t.2.1.ok ∧ t.2.2.1.ok ∧ t.2.2.2.ok
def t4c (t : T4) : List AV := ptc t.1 ++ ptc t.2.1 ++ ptc t.2.2.1 ++ ptc t.2.2.2
theorem pt4_cells {k : Nat} {t : TypeId} {cs : List AV} (ht : isPt4T P t = true) (h : Dat P (k + 5) t cs) : ∃ p : T4, cs = t4c p ∧ p.ok := by
  unfold isPt4T at ht
  simp only [Bool.and_eq_true, beq_iff_eq] at ht
  obtain ⟨h0, h2⟩ := ht
  split at h2
  · rename_i fs hu
    split at h2
    · rename_i f g e l hfs
      simp only [Bool.and_eq_true, beq_iff_eq] at h2
      obtain ⟨⟨⟨⟨⟨⟨⟨e1, e2⟩, e3⟩, e4⟩, e5⟩, e6⟩, e7⟩, e8⟩ := h2
      unfold Dat at h
      rw [hu] at h
      obtain ⟨hl, hf⟩ := h
      rw [hfs, h0] at *
      have a := hf f (by simp)
      have b := hf g (by simp)
      have c := hf e (by simp)
      have d := hf l (by simp)
      rw [e1, cells_of_T.2.2.2.2.1 e5] at a
      rw [e2, cells_of_T.2.2.2.2.1 e6] at b
      rw [e3, cells_of_T.2.2.2.2.1 e7] at c
      rw [e4, cells_of_T.2.2.2.2.1 e8] at d
      obtain ⟨x, hx, ox⟩ := pt_cells e5 a
      obtain ⟨y, hy, oy⟩ := pt_cells e6 b
      obtain ⟨z, hz, oz⟩ := pt_cells e7 c
      obtain ⟨w, hw, ow⟩ := pt_cells e8 d
      refine ⟨(x, y, z, w), ?_, ox, oy, oz, ow⟩
      show cs = ptc x ++ ptc y ++ ptc z ++ ptc w
      rw [← hx, ← hy, ← hz, ← hw, List.drop_zero, List.take_of_length_le (l := cs.drop 18) (by simp; omega)]
      have q1 := List.take_append_drop 6 cs
      have q2 := List.take_append_drop 6 (cs.drop 6)
      have q3 := List.take_append_drop 6 (cs.drop 12)
      rw [List.drop_drop] at q2 q3
      rw [List.append_assoc, q3, List.append_assoc, q2, q1]
    · cases h2
  · cases h2
theorem pt4_in {t : TypeId} {v : AV} (hag : isAggT P t = true) (ht : isPt4T P t = true) (h : DatV P 9 t v) : ∃ p : T4, v = .agg (t4c p) ∧ p.ok := by
  obtain ⟨cs, rfl, hd⟩ := agg_in hag h
  obtain ⟨p, rfl, hp⟩ := pt4_cells (k := 4) ht hd
  exact ⟨p, rfl, hp⟩
end

/-- Few bytes. -/
def sm1 (t : RT) : Prop := t.m.length ≤ 60 ∧ t.d.length ≤ 60
instance (t : RT) : Decidable (sm1 t) := by unfold sm1; infer_instance
def sm2 (p : PT) : Prop := sm1 p.1 ∧ sm1 p.2
instance (p : PT) : Decidable (sm2 p) := by unfold sm2; infer_instance
def sm8 (t : T4) : Prop := sm2 t.1 ∧ sm2 t.2.1 ∧ sm2 t.2.2.1 ∧ sm2 t.2.2.2
instance (t : T4) : Decidable (sm8 t) := by unfold sm8; infer_instance
theorem imm_t4 {t : T4} : Imm 12 (.agg (t4c t)) := (imm_agg (d := 1) (fun c hc => by
  rcases List.mem_append.1 hc with h | h
  · rcases List.mem_append.1 h with h | h
    · rcases List.mem_append.1 h with h | h
      · exact imm_ptc _ c h
      · exact imm_ptc _ c h
    · exact imm_ptc _ c h
  · exact imm_ptc _ c h)).mono (by omega)
theorem pt_rat {p : PT} (hp : p.ok) (h : sm2 p) (ha : askc p = 0) : ∃ x y, p = (rt x, rt y) ∧ Rz x 60 ∧ Rz y 60 := by
  obtain ⟨⟨q1, q2⟩, ⟨q3, q4⟩⟩ := h
  rw [askc_small ⟨by omega, by omega⟩ ⟨by omega, by omega⟩] at ha
  exact PT.ratz hp ha ⟨q1, q2⟩ ⟨q3, q4⟩
section
variable {h : Heap}
theorem c_short5 {t : RT} : byVal (callW gp) h fid.gussetlaw05_short [.agg (rtc t)] = some (.bool (decide (sm1 t))) := byVal_imm (imm_L1 imm_r3) (by
  rw [gussetlaw05_short.eq]
  unfold gussetlaw05_short.f rtc
  by_cases h1 : t.m.length ≤ 60
  · by_cases h2 : t.d.length ≤ 60
    · rw [decide_eq_true (show sm1 t from ⟨h1, h2⟩)]
      have e : decide ((t.d.length : Int) ≤ 60) = true := decide_eq_true (by omega)
      simp (disch := first | exact dD | fail) only [Wd, W2d, W3d, Nat.reduceAdd, Nat.reduceMul, Nat.reduceSub, e]
    · rw [decide_eq_false (show ¬ sm1 t from fun h => h2 h.2)]
      have e : decide ((t.d.length : Int) ≤ 60) = false := decide_eq_false (by omega)
      simp (disch := first | exact dD | fail) only [Wd, W2d, W3d, Nat.reduceAdd, Nat.reduceMul, Nat.reduceSub, e]
  · rw [decide_eq_false (show ¬ sm1 t from fun h => h1 h.1)]
    simp (disch := first | exact dD | fail) only [Wd, W2d, W3d, Nat.reduceAdd, Nat.reduceMul, Nat.reduceSub])
theorem c_small5 {t : T4} : byVal (callW gp) h fid.gussetlaw05_small [.agg (t4c t)] = some (.bool (decide (sm8 t))) := byVal_imm (imm_L1 imm_t4) (by
  obtain ⟨⟨a0, a1⟩, ⟨a2, a3⟩, ⟨a4, a5⟩, ⟨a6, a7⟩⟩ := t
  rw [gussetlaw05_small.eq]
  have e := fun h t => c_short5 (h := h) (t := t)
  unfold gussetlaw05_small.f t4c ptc
  have e0 := fun h => e h a0
  have e1 := fun h => e h a1
  have e2 := fun h => e h a2
  have e3 := fun h => e h a3
  have e4 := fun h => e h a4
  have e5 := fun h => e h a5
  have e6 := fun h => e h a6
  have e7 := fun h => e h a7
  clear e
  unfold rtc at *
  simp only [List.cons_append, List.nil_append]
  by_cases q0 : sm1 a0
  rotate_left
  · rw [decide_eq_false (show ¬ sm8 ((a0, a1), (a2, a3), (a4, a5), (a6, a7)) from fun h => q0 h.1.1)]
    simp (disch := first | exact dD | fail) only [Wd, W2d, W3d, Nat.reduceAdd, Nat.reduceMul, Nat.reduceSub, e0, e1, e2, e3, e4, e5, e6, e7]
  by_cases q1 : sm1 a1
  rotate_left
  · rw [decide_eq_false (show ¬ sm8 ((a0, a1), (a2, a3), (a4, a5), (a6, a7)) from fun h => q1 h.1.2)]
    simp (disch := first | exact dD | fail) only [Wd, W2d, W3d, Nat.reduceAdd, Nat.reduceMul, Nat.reduceSub, e0, e1, e2, e3, e4, e5, e6, e7]
  by_cases q2 : sm1 a2
  rotate_left
  · rw [decide_eq_false (show ¬ sm8 ((a0, a1), (a2, a3), (a4, a5), (a6, a7)) from fun h => q2 h.2.1.1)]
    simp (disch := first | exact dD | fail) only [Wd, W2d, W3d, Nat.reduceAdd, Nat.reduceMul, Nat.reduceSub, e0, e1, e2, e3, e4, e5, e6, e7]
  by_cases q3 : sm1 a3
  rotate_left
  · rw [decide_eq_false (show ¬ sm8 ((a0, a1), (a2, a3), (a4, a5), (a6, a7)) from fun h => q3 h.2.1.2)]
    simp (disch := first | exact dD | fail) only [Wd, W2d, W3d, Nat.reduceAdd, Nat.reduceMul, Nat.reduceSub, e0, e1, e2, e3, e4, e5, e6, e7]
  by_cases q4 : sm1 a4
  rotate_left
  · rw [decide_eq_false (show ¬ sm8 ((a0, a1), (a2, a3), (a4, a5), (a6, a7)) from fun h => q4 h.2.2.1.1)]
    simp (disch := first | exact dD | fail) only [Wd, W2d, W3d, Nat.reduceAdd, Nat.reduceMul, Nat.reduceSub, e0, e1, e2, e3, e4, e5, e6, e7]
  by_cases q5 : sm1 a5
  rotate_left
  · rw [decide_eq_false (show ¬ sm8 ((a0, a1), (a2, a3), (a4, a5), (a6, a7)) from fun h => q5 h.2.2.1.2)]
    simp (disch := first | exact dD | fail) only [Wd, W2d, W3d, Nat.reduceAdd, Nat.reduceMul, Nat.reduceSub, e0, e1, e2, e3, e4, e5, e6, e7]
  by_cases q6 : sm1 a6
  rotate_left
  · rw [decide_eq_false (show ¬ sm8 ((a0, a1), (a2, a3), (a4, a5), (a6, a7)) from fun h => q6 h.2.2.2.1)]
    simp (disch := first | exact dD | fail) only [Wd, W2d, W3d, Nat.reduceAdd, Nat.reduceMul, Nat.reduceSub, e0, e1, e2, e3, e4, e5, e6, e7]
  by_cases q7 : sm1 a7
  rotate_left
  · rw [decide_eq_false (show ¬ sm8 ((a0, a1), (a2, a3), (a4, a5), (a6, a7)) from fun h => q7 h.2.2.2.2)]
    have e : decide (sm1 a7) = false := decide_eq_false q7
    simp (disch := first | exact dD | fail) only [Wd, W2d, W3d, Nat.reduceAdd, Nat.reduceMul, Nat.reduceSub, e0, e1, e2, e3, e4, e5, e6, e7, e]
  rw [decide_eq_true (show sm8 ((a0, a1), (a2, a3), (a4, a5), (a6, a7)) from ⟨⟨q0, q1⟩, ⟨q2, q3⟩, ⟨q4, q5⟩, ⟨q6, q7⟩⟩)]
  have e : decide (sm1 a7) = true := decide_eq_true q7
  simp (disch := first | exact dD | fail) only [Wd, W2d, W3d, Nat.reduceAdd, Nat.reduceMul, Nat.reduceSub, e0, e1, e2, e3, e4, e5, e6, e7, e])
theorem c_at5 {x y : Int} (h1 : -9223372036854775808 ≤ x) (h2 : x ≤ 9223372036854775807) (h3 : -9223372036854775808 ≤ y) (h4 : y ≤ 9223372036854775807) : byVal (callW gp) h fid.gussetlaw05_at [.int .i64 x, .int .i64 y] = some (pa (x : Rat) (y : Rat)) := byVal_imm (imm_L2 (imm_int.mono (by omega)) (imm_int.mono (by omega))) (by
  rw [gussetlaw05_at.eq]
  unfold gussetlaw05_at.f
  simp (disch := first | exact dD | fail) only [Wd, W2d, W3d, Nat.reduceAdd, Nat.reduceMul, Nat.reduceSub, k_3of])
theorem live5_by : byVal (callW gp) h fid.gussetlaw05_live [] = some (.bool true) := byVal_imm (fun _ h => by cases h) (by
  rw [gussetlaw05_live.eq]
  unfold gussetlaw05_live.f
  have z : ∀ z : Int, -9223372036854775808 ≤ z → z ≤ 9223372036854775807 → Rz (z : Rat) 60 := fun z h1 h2 => (Rz_int h1 h2).mono (by omega)
  have z0 := z 0 (by omega) (by omega)
  have z1 := z 1 (by omega) (by omega)
  have z2 := z 2 (by omega) (by omega)
  have y0 := z0.mono (m := 100) (by omega)
  have y1 := z1.mono (m := 100) (by omega)
  have y2 := z2.mono (m := 100) (by omega)
  have a1 : area ((0 : Int) : Rat) ((0 : Int) : Rat) ((2 : Int) : Rat) ((0 : Int) : Rat) ((0 : Int) : Rat) ((2 : Int) : Rat) ≠ 0 := by decide +kernel
  have a2 : area ((0 : Int) : Rat) ((0 : Int) : Rat) ((1 : Int) : Rat) ((0 : Int) : Rat) ((2 : Int) : Rat) ((0 : Int) : Rat) = 0 := by decide +kernel
  have c1 := fun h => k_circle (h := h) z0 z0 z2 z0 z0 z2 z1 z1 a1
  have c2 := fun h => k_circle0 (h := h) y0 y0 y1 y0 y2 y0 y1 y1 a2
  have m1 := fun h => k_gmeet (h := h) y0 y0 y2 y2 y0 y2 y2 y0
  have o1 := fun h => k_orient (h := h) y0 y0 y1 y0 y0 y1
  have v1 : rsgn (area ((0 : Int) : Rat) ((0 : Int) : Rat) ((2 : Int) : Rat) ((0 : Int) : Rat) ((0 : Int) : Rat) ((2 : Int) : Rat)) * rsgn (cirD ((0 : Int) : Rat) ((0 : Int) : Rat) ((2 : Int) : Rat) ((0 : Int) : Rat) ((0 : Int) : Rat) ((2 : Int) : Rat) ((1 : Int) : Rat) ((1 : Int) : Rat)) = 1 := by rw [cir_eq]; decide +kernel
  have v2 : meetQ ((0 : Int) : Rat) ((0 : Int) : Rat) ((2 : Int) : Rat) ((2 : Int) : Rat) ((0 : Int) : Rat) ((2 : Int) : Rat) ((2 : Int) : Rat) ((0 : Int) : Rat) = 1 := by decide +kernel
  have v3 : rsgn (area ((0 : Int) : Rat) ((0 : Int) : Rat) ((1 : Int) : Rat) ((0 : Int) : Rat) ((0 : Int) : Rat) ((1 : Int) : Rat)) = 1 := by decide +kernel
  rw [v1] at c1
  rw [v2] at m1
  rw [v3] at o1
  simp (disch := first | exact dD | fail) only [Wd, W2d, W3d, Nat.reduceAdd, Nat.reduceMul, Nat.reduceSub, c_at5, c1, c2, m1, o1])
end
end Go.Proofs.YtechbfodaallkaaGreat.Am
