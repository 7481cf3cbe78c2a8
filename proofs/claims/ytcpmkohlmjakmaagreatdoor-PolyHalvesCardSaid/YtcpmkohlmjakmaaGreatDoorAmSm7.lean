import Derived.Test.YtcpmkohlmjakmaaGreatDoorAmPoly7
import Derived.Test.YtcpmkohlmjakmaaGreatDoorAmArr
import Derived.Test.YtcpmkohlmjakmaaGreatDoorAmV
import Derived.Test.YtcpmkohlmjakmaaGreatDoorTLaw07
/- The laws of section 07: what they begin with. -/
set_option linter.unusedVariables false
set_option maxRecDepth 10000
set_option linter.unusedSimpArgs false
namespace Go.Proofs.YtcpmkohlmjakmaaGreatDoor.Am
open Go

section
variable {P : Program}
theorem r6_of {l : List RT} (hn : l.length = 6) (hok : ∀ x ∈ l, x.ok) : ∃ r : R6, l = r.l ∧ r.ok := by
  match l, hn with
  | [a, b, c, d, e, f], _ => exact ⟨(a, b, c, d, e, f), rfl, hok⟩
theorem r6_in {t e : TypeId} {v : AV} (hag : isAggT P t = true) (hu : P.underlying t = some (.array 6 e)) (he : isRatT P e = true) (hl : P.cellsOf t = 18) (h : DatV P 9 t v) : ∃ r : R6, v = .agg (r6c r) ∧ r.ok := by
  obtain ⟨l, rfl, hn, hok⟩ := arr_in (k := 8) (f := rtc) (ok := RT.ok) hag hu (cells_of_T.2.2.2.1 he) hl rtc_len (fun cs h => rat_cells he h) h
  obtain ⟨r, rfl, hr⟩ := r6_of hn hok
  exact ⟨r, rfl, hr⟩
/-- A polynomial, a triangle and two whole numbers. -/
abbrev Hf := R6 × T3 × Int × Int
def hfc (x : Hf) : List AV := r6c x.1 ++ t3c x.2.1 ++ [.int .i64 x.2.2.1, .int .i64 x.2.2.2]
def Hf.ok (x : Hf) : Prop := x.1.ok ∧ x.2.1.ok
theorem half_in {t t1 t2 t3 t4 e1 e2 : TypeId} {v : AV} {fs : Array Field} (hag : isAggT P t = true) (hu : P.underlying t = some (.struct fs)) (hfs : fs.toList.map (fun f => (f.offset, f.type)) = [(0, t1), (18, t2), (36, t3), (37, t4)]) (ct : P.cellsOf t = 38)
    (u1 : P.underlying t1 = some (.array 6 e1)) (r1 : isRatT P e1 = true) (c1 : P.cellsOf t1 = 18) (u2 : P.underlying t2 = some (.array 3 e2)) (r2 : isPtT P e2 = true) (c2 : P.cellsOf t2 = 18) (u3 : P.underlying t3 = some (.int .i64)) (c3 : P.cellsOf t3 = 1) (u4 : P.underlying t4 = some (.int .i64)) (c4 : P.cellsOf t4 = 1) (h : DatV P 9 t v) : ∃ x : Hf, v = .agg (hfc x) ∧ x.ok := by
  obtain ⟨cs, rfl, hd⟩ := agg_in hag h
  unfold Dat at hd
  rw [hu] at hd
  obtain ⟨hl, hf⟩ := hd
  rw [ct] at hl
  have g : ∀ o T, (o, T) ∈ [(0, t1), (18, t2), (36, t3), (37, t4)] → Dat P 8 T ((cs.drop o).take (P.cellsOf T)) := fun o T hm => by
    rw [← hfs] at hm
    obtain ⟨f, h1, h2⟩ := List.mem_map.1 hm
    have := hf f h1
    cases h2
    exact this
  have d1 := g 0 t1 (by simp)
  have d2 := g 18 t2 (by simp)
  have d3 := g 36 t3 (by simp)
  have d4 := g 37 t4 (by simp)
  rw [c1] at d1
  rw [c2] at d2
  rw [c3] at d3
  rw [c4] at d4
  obtain ⟨l, g1, hn, hok⟩ := arr_cells (k := 7) (f := rtc) (ok := RT.ok) u1 (cells_of_T.2.2.2.1 r1) c1 rtc_len (fun cs h => rat_cells r1 h) d1
  obtain ⟨r, rfl, hr⟩ := r6_of hn hok
  obtain ⟨m, g2, hm, hmk⟩ := arr_cells (k := 7) (f := ptc) (ok := PT.ok) u2 (cells_of_T.2.2.2.2.1 r2) c2 ptc_len (fun cs h => pt_cells r2 h) d2
  unfold Dat at d3 d4
  rw [u3] at d3
  rw [u4] at d4
  obtain ⟨n, g3, _⟩ := d3
  obtain ⟨d, g4, _⟩ := d4
  match m, hm with
  | [a, b, c], _ =>
    refine ⟨(r, (a, b, c), n, d), ?_, hr, hmk a (by simp), hmk b (by simp), hmk c (by simp)⟩
    have e : cs = (cs.drop 0).take 18 ++ ((cs.drop 18).take 18 ++ ((cs.drop 36).take 1 ++ (cs.drop 37).take 1)) := by
      have q1 : (cs.drop 37).take 1 = cs.drop 37 := List.take_of_length_le (by rw [List.length_drop]; omega)
      rw [q1]
      have q2 : (cs.drop 36).take 1 ++ cs.drop 37 = cs.drop 36 := by
        have := List.take_append_drop 1 (cs.drop 36)
        rwa [List.drop_drop] at this
      rw [q2]
      have q3 : (cs.drop 18).take 18 ++ cs.drop 36 = cs.drop 18 := by
        have := List.take_append_drop 18 (cs.drop 18)
        rwa [List.drop_drop] at this
      rw [q3, List.drop_zero, List.take_append_drop]
    rw [e, g1, g2, g3, g4]
    unfold hfc t3c
    simp only [List.flatMap_cons, List.flatMap_nil, List.append_nil, List.append_assoc, List.cons_append, List.nil_append]
    rfl
end

/-- Few bytes. -/
def sh1 (t : RT) : Prop := t.m.length ≤ 30 ∧ t.d.length ≤ 30
instance (t : RT) : Decidable (sh1 t) := by unfold sh1; infer_instance
def fewR (l : List RT) : Prop := ∀ x ∈ l, sh1 x
instance (l : List RT) : Decidable (fewR l) := by unfold fewR; infer_instance
theorem fewR_cons {x : RT} {l : List RT} : fewR (x :: l) ↔ sh1 x ∧ fewR l := ⟨fun h => ⟨h x (List.mem_cons_self ..), fun y hy => h y (List.mem_cons_of_mem _ hy)⟩, fun h y hy => by
  rcases List.mem_cons.1 hy with rfl | hy
  · exact h.1
  · exact h.2 y hy⟩
def few7 (t : R6) (ps : List PT) : Prop := fewR (t.l ++ pnums ps)
instance (t : R6) (ps : List PT) : Decidable (few7 t ps) := by unfold few7; infer_instance
theorem firstE_zero : ∀ {l : List Int}, firstE l = 0 → ∀ x ∈ l, x = 0
  | [], _, x, hx => by cases hx
  | y :: l, h, x, hx => by
    unfold firstE at h
    by_cases h0 : y = 0
    · rw [if_pos h0] at h
      rcases List.mem_cons.1 hx with rfl | hx
      · exact h0
      · exact firstE_zero h x hx
    · rw [if_neg h0] at h
      exact absurd h h0
theorem sh_rat {t : RT} (ht : t.ok) (hs : sh1 t) (ha : askr t = 0) : ∃ q, t = rt q ∧ Rz q 30 := by
  unfold askr at ha
  unfold sh1 at hs
  rw [if_neg (by omega)] at ha
  exact RT.ratz ht ha hs
theorem r6_rat {t : R6} (ht : t.ok) (hs : fewR t.l) (ha : ask6 t = 0) : ∃ f : P6, t = rt6 f ∧ f.Z 30 := by
  have hz := firstE_zero ha
  have g : ∀ x ∈ t.l, ∃ q, x = rt q ∧ Rz q 30 := fun x hx => sh_rat (ht x hx) (hs x hx) (hz _ (List.mem_map_of_mem hx))
  obtain ⟨a, b, c, d, e, f⟩ := t
  obtain ⟨q0, e0, z0⟩ := g a (by simp [R6.l])
  obtain ⟨q1, e1, z1⟩ := g b (by simp [R6.l])
  obtain ⟨q2, e2, z2⟩ := g c (by simp [R6.l])
  obtain ⟨q3, e3, z3⟩ := g d (by simp [R6.l])
  obtain ⟨q4, e4, z4⟩ := g e (by simp [R6.l])
  obtain ⟨q5, e5, z5⟩ := g f (by simp [R6.l])
  refine ⟨⟨q0, q1, q2, q3, q4, q5⟩, ?_, z0, z1, z2, z3, z4, z5⟩
  rw [e0, e1, e2, e3, e4, e5]; rfl
theorem pts_rat {a b c : PT} (ha : a.ok) (hb : b.ok) (hc : c.ok) (hs : fewR (pnums [a, b, c])) (hz : askp [a, b, c] = 0) : ∃ ax ay bx b_ cx cy, a = (rt ax, rt ay) ∧ b = (rt bx, rt b_) ∧ c = (rt cx, rt cy) ∧ Tz ax ay bx b_ cx cy 30 := by
  have hz := firstE_zero hz
  have g : ∀ x ∈ pnums [a, b, c], x.ok → ∃ q, x = rt q ∧ Rz q 30 := fun x hx ho => sh_rat ho (hs x hx) (hz _ (List.mem_map_of_mem hx))
  obtain ⟨q0, e0, z0⟩ := g a.1 (by simp [pnums]) ha.1
  obtain ⟨q1, e1, z1⟩ := g a.2 (by simp [pnums]) ha.2
  obtain ⟨q2, e2, z2⟩ := g b.1 (by simp [pnums]) hb.1
  obtain ⟨q3, e3, z3⟩ := g b.2 (by simp [pnums]) hb.2
  obtain ⟨q4, e4, z4⟩ := g c.1 (by simp [pnums]) hc.1
  obtain ⟨q5, e5, z5⟩ := g c.2 (by simp [pnums]) hc.2
  exact ⟨q0, q1, q2, q3, q4, q5, Prod.ext e0 e1, Prod.ext e2 e3, Prod.ext e4 e5, z0, z1, z2, z3, z4, z5⟩
theorem P6.Z.up {f : P6} {n m : Nat} (h : f.Z n) (hm : n ≤ m) : f.Z m := ⟨h.z0.mono hm, h.z1.mono hm, h.z2.mono hm, h.z3.mono hm, h.z4.mono hm, h.z5.mono hm⟩
theorem Tz.up {ax ay bx b_ cx cy : Rat} {n m : Nat} (h : Tz ax ay bx b_ cx cy n) (hm : n ≤ m) : Tz ax ay bx b_ cx cy m := ⟨h.h1.mono hm, h.h2.mono hm, h.h3.mono hm, h.h4.mono hm, h.h5.mono hm, h.h6.mono hm⟩

section
variable {h : Heap}
theorem c_short7 {t : RT} : byVal (callW gp) h fid.gussetlaw07_short [.agg (rtc t)] = some (.bool (decide (sh1 t))) := byVal_imm (imm_L1 imm_r3) (by
  rw [gussetlaw07_short.eq]
  unfold gussetlaw07_short.f rtc
  by_cases h1 : t.m.length ≤ 30
  · by_cases h2 : t.d.length ≤ 30
    · rw [decide_eq_true (show sh1 t from ⟨h1, h2⟩)]
      have e : decide ((t.d.length : Int) ≤ 30) = true := decide_eq_true (by omega)
      simp (disch := first | exact dD | fail) only [Wd, W2d, W3d, Nat.reduceAdd, Nat.reduceMul, Nat.reduceSub, e]
    · rw [decide_eq_false (show ¬ sh1 t from fun h => h2 h.2)]
      have e : decide ((t.d.length : Int) ≤ 30) = false := decide_eq_false (by omega)
      simp (disch := first | exact dD | fail) only [Wd, W2d, W3d, Nat.reduceAdd, Nat.reduceMul, Nat.reduceSub, e]
  · rw [decide_eq_false (show ¬ sh1 t from fun h => h1 h.1)]
    simp (disch := first | exact dD | fail) only [Wd, W2d, W3d, Nat.reduceAdd, Nat.reduceMul, Nat.reduceSub])
theorem c_few7 {t : R6} {a b c : PT} : byVal (callW gp) h fid.gussetlaw07_few [.agg (r6c t), .agg (t3c (a, b, c))] = some (.bool (decide (few7 t [a, b, c]))) := byVal_imm (imm_L2 imm_r6 imm_t3') (by
  obtain ⟨t0, t1, t2, t3, t4, t5⟩ := t
  have k := fun h (x : RT) => c_short7 (h := h) (t := x)
  unfold rtc at k
  rw [gussetlaw07_few.eq]
  unfold gussetlaw07_few.f
  have hd : decide (few7 (t0, t1, t2, t3, t4, t5) [a, b, c]) = decide (fewR [t0, t1, t2, t3, t4, t5, a.1, a.2, b.1, b.2, c.1, c.2]) := decide_eq_decide.2 Iff.rfl
  rw [hd]
  simp only [r6cells, t3cells]
  simp (disch := first | exact dD | fail) only [Wd, W2d, W3d, Nat.reduceAdd, Nat.reduceMul, Nat.reduceSub]
  rw [gussetlaw07_few.l0_eq]
  by_cases g0 : sh1 t0
  rotate_left
  · rw [decide_eq_false (fun hh => g0 (hh t0 (by simp)))]
    simp (disch := first | exact dD | fail) only [Wd, W2d, W3d, Nat.reduceAdd, Nat.reduceMul, Nat.reduceSub, lc7_0, lc7_1, lc7_2, lc7_3, lc4, lc5, lc6, ax0, inc0, k, decide_eq_false g0]
  simp (disch := first | exact dD | fail) only [Wd, W2d, W3d, Nat.reduceAdd, Nat.reduceMul, Nat.reduceSub, lc7_0, lc7_1, lc7_2, lc7_3, lc4, lc5, lc6, ax0, inc0, k, decide_eq_true g0]
  rw [gussetlaw07_few.l0_eq]
  by_cases g1 : sh1 t1
  rotate_left
  · rw [decide_eq_false (fun hh => g1 (hh t1 (by simp)))]
    simp (disch := first | exact dD | fail) only [Wd, W2d, W3d, Nat.reduceAdd, Nat.reduceMul, Nat.reduceSub, lc7_0, lc7_1, lc7_2, lc7_3, lc4, lc5, lc6, ax1, inc1, k, decide_eq_false g1]
  simp (disch := first | exact dD | fail) only [Wd, W2d, W3d, Nat.reduceAdd, Nat.reduceMul, Nat.reduceSub, lc7_0, lc7_1, lc7_2, lc7_3, lc4, lc5, lc6, ax1, inc1, k, decide_eq_true g1]
  rw [gussetlaw07_few.l0_eq]
  by_cases g2 : sh1 t2
  rotate_left
  · rw [decide_eq_false (fun hh => g2 (hh t2 (by simp)))]
    simp (disch := first | exact dD | fail) only [Wd, W2d, W3d, Nat.reduceAdd, Nat.reduceMul, Nat.reduceSub, lc7_0, lc7_1, lc7_2, lc7_3, lc4, lc5, lc6, ax2, inc2, k, decide_eq_false g2]
  simp (disch := first | exact dD | fail) only [Wd, W2d, W3d, Nat.reduceAdd, Nat.reduceMul, Nat.reduceSub, lc7_0, lc7_1, lc7_2, lc7_3, lc4, lc5, lc6, ax2, inc2, k, decide_eq_true g2]
  rw [gussetlaw07_few.l0_eq]
  by_cases g3 : sh1 t3
  rotate_left
  · rw [decide_eq_false (fun hh => g3 (hh t3 (by simp)))]
    simp (disch := first | exact dD | fail) only [Wd, W2d, W3d, Nat.reduceAdd, Nat.reduceMul, Nat.reduceSub, lc7_0, lc7_1, lc7_2, lc7_3, lc4, lc5, lc6, ax3, inc3, k, decide_eq_false g3]
  simp (disch := first | exact dD | fail) only [Wd, W2d, W3d, Nat.reduceAdd, Nat.reduceMul, Nat.reduceSub, lc7_0, lc7_1, lc7_2, lc7_3, lc4, lc5, lc6, ax3, inc3, k, decide_eq_true g3]
  rw [gussetlaw07_few.l0_eq]
  by_cases g4 : sh1 t4
  rotate_left
  · rw [decide_eq_false (fun hh => g4 (hh t4 (by simp)))]
    simp (disch := first | exact dD | fail) only [Wd, W2d, W3d, Nat.reduceAdd, Nat.reduceMul, Nat.reduceSub, lc7_0, lc7_1, lc7_2, lc7_3, lc4, lc5, lc6, ax4, inc4, k, decide_eq_false g4]
  simp (disch := first | exact dD | fail) only [Wd, W2d, W3d, Nat.reduceAdd, Nat.reduceMul, Nat.reduceSub, lc7_0, lc7_1, lc7_2, lc7_3, lc4, lc5, lc6, ax4, inc4, k, decide_eq_true g4]
  rw [gussetlaw07_few.l0_eq]
  by_cases g5 : sh1 t5
  rotate_left
  · rw [decide_eq_false (fun hh => g5 (hh t5 (by simp)))]
    simp (disch := first | exact dD | fail) only [Wd, W2d, W3d, Nat.reduceAdd, Nat.reduceMul, Nat.reduceSub, lc7_0, lc7_1, lc7_2, lc7_3, lc4, lc5, lc6, ax5, inc5, k, decide_eq_false g5]
  simp (disch := first | exact dD | fail) only [Wd, W2d, W3d, Nat.reduceAdd, Nat.reduceMul, Nat.reduceSub, lc7_0, lc7_1, lc7_2, lc7_3, lc4, lc5, lc6, ax5, inc5, k, decide_eq_true g5]
  rw [gussetlaw07_few.l0_eq]
  simp (disch := first | exact dD | fail) only [Wd, W2d, W3d, Nat.reduceAdd, Nat.reduceMul, Nat.reduceSub, lc7_0, lc7_1, lc7_2, lc7_3, lc4, lc5, lc6]
  rw [gussetlaw07_few.l1_eq]
  by_cases g6 : sh1 a.1
  rotate_left
  · rw [decide_eq_false (fun hh => g6 (hh a.1 (by simp)))]
    simp (disch := first | exact dD | fail) only [Wd, W2d, W3d, Nat.reduceAdd, Nat.reduceMul, Nat.reduceSub, lc7_0, lc7_1, lc7_2, lc7_3, lc4, lc5, lc6, ax0, inc0, k, decide_eq_false g6]
  by_cases g7 : sh1 a.2
  rotate_left
  · rw [decide_eq_false (fun hh => g7 (hh a.2 (by simp)))]
    simp (disch := first | exact dD | fail) only [Wd, W2d, W3d, Nat.reduceAdd, Nat.reduceMul, Nat.reduceSub, lc7_0, lc7_1, lc7_2, lc7_3, lc4, lc5, lc6, ax0, inc0, k, decide_eq_true g6, decide_eq_false g7]
  simp (disch := first | exact dD | fail) only [Wd, W2d, W3d, Nat.reduceAdd, Nat.reduceMul, Nat.reduceSub, lc7_0, lc7_1, lc7_2, lc7_3, lc4, lc5, lc6, ax0, inc0, k, decide_eq_true g6, decide_eq_true g7]
  rw [gussetlaw07_few.l1_eq]
  by_cases g8 : sh1 b.1
  rotate_left
  · rw [decide_eq_false (fun hh => g8 (hh b.1 (by simp)))]
    simp (disch := first | exact dD | fail) only [Wd, W2d, W3d, Nat.reduceAdd, Nat.reduceMul, Nat.reduceSub, lc7_0, lc7_1, lc7_2, lc7_3, lc4, lc5, lc6, ax1, inc1, k, decide_eq_false g8]
  by_cases g9 : sh1 b.2
  rotate_left
  · rw [decide_eq_false (fun hh => g9 (hh b.2 (by simp)))]
    simp (disch := first | exact dD | fail) only [Wd, W2d, W3d, Nat.reduceAdd, Nat.reduceMul, Nat.reduceSub, lc7_0, lc7_1, lc7_2, lc7_3, lc4, lc5, lc6, ax1, inc1, k, decide_eq_true g8, decide_eq_false g9]
  simp (disch := first | exact dD | fail) only [Wd, W2d, W3d, Nat.reduceAdd, Nat.reduceMul, Nat.reduceSub, lc7_0, lc7_1, lc7_2, lc7_3, lc4, lc5, lc6, ax1, inc1, k, decide_eq_true g8, decide_eq_true g9]
  rw [gussetlaw07_few.l1_eq]
  by_cases g10 : sh1 c.1
  rotate_left
  · rw [decide_eq_false (fun hh => g10 (hh c.1 (by simp)))]
    simp (disch := first | exact dD | fail) only [Wd, W2d, W3d, Nat.reduceAdd, Nat.reduceMul, Nat.reduceSub, lc7_0, lc7_1, lc7_2, lc7_3, lc4, lc5, lc6, ax2, inc2, k, decide_eq_false g10]
  by_cases g11 : sh1 c.2
  rotate_left
  · rw [decide_eq_false (fun hh => g11 (hh c.2 (by simp)))]
    simp (disch := first | exact dD | fail) only [Wd, W2d, W3d, Nat.reduceAdd, Nat.reduceMul, Nat.reduceSub, lc7_0, lc7_1, lc7_2, lc7_3, lc4, lc5, lc6, ax2, inc2, k, decide_eq_true g10, decide_eq_false g11]
  simp (disch := first | exact dD | fail) only [Wd, W2d, W3d, Nat.reduceAdd, Nat.reduceMul, Nat.reduceSub, lc7_0, lc7_1, lc7_2, lc7_3, lc4, lc5, lc6, ax2, inc2, k, decide_eq_true g10, decide_eq_true g11]
  rw [gussetlaw07_few.l1_eq]
  have all : fewR [t0, t1, t2, t3, t4, t5, a.1, a.2, b.1, b.2, c.1, c.2] := by
    simp only [fewR_cons]
    exact ⟨g0, g1, g2, g3, g4, g5, g6, g7, g8, g9, g10, g11, fun _ hh => by cases hh⟩
  rw [decide_eq_true all]
  simp (disch := first | exact dD | fail) only [Wd, W2d, W3d, Nat.reduceAdd, Nat.reduceMul, Nat.reduceSub, lc7_0, lc7_1, lc7_2, lc7_3, lc4, lc5, lc6])
/-! ### Small numbers -/
theorem c_at7 {x y : Int} (h1 : -9223372036854775808 ≤ x) (h2 : x ≤ 9223372036854775807) (h3 : -9223372036854775808 ≤ y) (h4 : y ≤ 9223372036854775807) : byVal (callW gp) h fid.gussetlaw07_at [.int .i64 x, .int .i64 y] = some (pa (x : Rat) (y : Rat)) := byVal_imm (imm_L2 (imm_int.mono (by omega)) (imm_int.mono (by omega))) (by
  rw [gussetlaw07_at.eq]
  unfold gussetlaw07_at.f
  simp (disch := first | exact dD | fail) only [Wd, W2d, W3d, Nat.reduceAdd, Nat.reduceMul, Nat.reduceSub, k_3of])
theorem imm_i6 {a b c d e f : Int} : Imm 12 (.agg [.int .i64 a, .int .i64 b, .int .i64 c, .int .i64 d, .int .i64 e, .int .i64 f]) := imm_wc (w := ⟨a, b, c, d, e, f⟩)
theorem c_small7 {a b c d e f : Int} (ha : a.natAbs ≤ 9) (hb : b.natAbs ≤ 9) (hc : c.natAbs ≤ 9) (hd : d.natAbs ≤ 9) (he : e.natAbs ≤ 9) (hf : f.natAbs ≤ 9) : byVal (callW gp) h fid.gussetlaw07_small [.agg [.int .i64 a, .int .i64 b, .int .i64 c, .int .i64 d, .int .i64 e, .int .i64 f]] = some (sa ⟨a, b, c, d, e, f⟩) := byVal_imm (imm_L1 imm_i6) (by
  have o := fun h (z : Int) (hz : z.natAbs ≤ 9) => k_3of (h := h) (z := z) (by omega) (by omega)
  rw [gussetlaw07_small.eq]
  unfold gussetlaw07_small.f sa
  simp only [cells6]
  simp (disch := first | exact dD | fail) only [Wd, W2d, W3d, Nat.reduceAdd, Nat.reduceMul, Nat.reduceSub]
  rw [gussetlaw07_small.l0_eq]
  simp (disch := first | exact dD | fail) only [Wd, W2d, W3d, Nat.reduceAdd, Nat.reduceMul, Nat.reduceSub, lc7_0, lc7_1, lc7_2, lc7_3, lc4, lc5, lc6, ax0, inc0, o]
  rw [gussetlaw07_small.l0_eq]
  simp (disch := first | exact dD | fail) only [Wd, W2d, W3d, Nat.reduceAdd, Nat.reduceMul, Nat.reduceSub, lc7_0, lc7_1, lc7_2, lc7_3, lc4, lc5, lc6, ax1, inc1, o]
  rw [gussetlaw07_small.l0_eq]
  simp (disch := first | exact dD | fail) only [Wd, W2d, W3d, Nat.reduceAdd, Nat.reduceMul, Nat.reduceSub, lc7_0, lc7_1, lc7_2, lc7_3, lc4, lc5, lc6, ax2, inc2, o]
  rw [gussetlaw07_small.l0_eq]
  simp (disch := first | exact dD | fail) only [Wd, W2d, W3d, Nat.reduceAdd, Nat.reduceMul, Nat.reduceSub, lc7_0, lc7_1, lc7_2, lc7_3, lc4, lc5, lc6, ax3, inc3, o]
  rw [gussetlaw07_small.l0_eq]
  simp (disch := first | exact dD | fail) only [Wd, W2d, W3d, Nat.reduceAdd, Nat.reduceMul, Nat.reduceSub, lc7_0, lc7_1, lc7_2, lc7_3, lc4, lc5, lc6, ax4, inc4, o]
  rw [gussetlaw07_small.l0_eq]
  simp (disch := first | exact dD | fail) only [Wd, W2d, W3d, Nat.reduceAdd, Nat.reduceMul, Nat.reduceSub, lc7_0, lc7_1, lc7_2, lc7_3, lc4, lc5, lc6, ax5, inc5, o]
  rw [gussetlaw07_small.l0_eq]
  simp (disch := first | exact dD | fail) only [Wd, W2d, W3d, Nat.reduceAdd, Nat.reduceMul, Nat.reduceSub, lc7_0, lc7_1, lc7_2, lc7_3, lc4, lc5, lc6]
  rfl)
theorem eqa9z : opEqa false [.b, .s, .s, .b, .s, .s, .b, .s, .s] (.agg z9) (.agg z9) = some (.bool true) := by kernel_rfl
theorem eqa9 {r0 r1 r2 : Rat} : opEqa false [.b, .s, .s, .b, .s, .s, .b, .s, .s] (.agg (rtc (rt r0) ++ rtc (rt r1) ++ rtc (rt r2))) (.agg (rtc (rt r0) ++ rtc (rt r1) ++ rtc (rt r2))) = some (.bool true) := by
  rw [eqa_eq rfl rfl]
  unfold rtc rt
  simp only [List.cons_append, List.nil_append]
  rw [eqCells_cons_b, if_pos rfl, eqCells_cons_s (nb_lt _) (nb_lt _), if_pos rfl, eqCells_cons_s (nb_lt _) (nb_lt _), if_pos rfl]; rw [eqCells_cons_b, if_pos rfl, eqCells_cons_s (nb_lt _) (nb_lt _), if_pos rfl, eqCells_cons_s (nb_lt _) (nb_lt _), if_pos rfl]; rw [eqCells_cons_b, if_pos rfl, eqCells_cons_s (nb_lt _) (nb_lt _), if_pos rfl, eqCells_cons_s (nb_lt _) (nb_lt _), if_pos rfl]
  rfl
theorem eqa_same {r : Rat} : opEqa false [.b, .s, .s] (ra r) (ra r) = some (.bool true) := by rw [eqa_r, decide_eq_true rfl]
/-! ### The sizes of what is told -/
theorem wed_rz {f : P6} {ax ay bx b_ cx cy : Rat} {D E : Nat} {w : W6} {z : Int} (s : Szs f ax ay bx b_ cx cy D E) (hw : w.ok) (h1 : 1 ≤ z) (h2 : z ≤ 255) : Rz (wedQ (sixQ f ax ay bx b_ cx cy) w (arQ ax ay bx b_ cx cy) z) 4000 :=
  (Sz_wed s.v hw s.a h1).rz (Nat.mul_pos (Nat.mul_pos s.d0 s.e0) (by omega)) (pw_mul (n := 1) (pw_mul s.dl s.el) (by show z.natAbs < 256; omega)) (by omega)
theorem int_rz {f : P6} {ax ay bx b_ cx cy : Rat} (hf : f.Z 100) (t : Tz ax ay bx b_ cx cy 100) : Rz (intQ (sixQ f ax ay bx b_ cx cy) (arQ ax ay bx b_ cx cy)) 4000 := by
  obtain ⟨D, E, s⟩ := szs hf t
  exact wed_rz s wI_ok (by omega) (by omega)
theorem load_rz {f : P6} {ax ay bx b_ cx cy : Rat} (hf : f.Z 100) (t : Tz ax ay bx b_ cx cy 100) : Rz (loadQ (sixQ f ax ay bx b_ cx cy) (arQ ax ay bx b_ cx cy)).1 4000 ∧ Rz (loadQ (sixQ f ax ay bx b_ cx cy) (arQ ax ay bx b_ cx cy)).2.1 4000 ∧ Rz (loadQ (sixQ f ax ay bx b_ cx cy) (arQ ax ay bx b_ cx cy)).2.2 4000 := by
  obtain ⟨D, E, s⟩ := szs hf t
  exact ⟨wed_rz s wL0_ok (by omega) (by omega), wed_rz s wL1_ok (by omega) (by omega), wed_rz s wL2_ok (by omega) (by omega)⟩
theorem sq_rz {f : P6} {ax ay bx b_ cx cy : Rat} (hf : f.Z 100) (t : Tz ax ay bx b_ cx cy 100) : Rz (sqQ (sixQ f ax ay bx b_ cx cy) (arQ ax ay bx b_ cx cy)) 8000 := by
  obtain ⟨D, E, s⟩ := szs hf t
  have wl : D * E * Int.natAbs 180 < P256 (1802 + 1201 + 1) := pw_mul (pw_mul s.dl s.el) (by decide)
  have w0 : 0 < D * E * Int.natAbs 180 := Nat.mul_pos (Nat.mul_pos s.d0 s.e0) (by decide)
  have pl := pw_mul s.dl wl
  have p0 := Nat.mul_pos s.d0 w0
  have zz : Sz ((0 : Int) : Rat) (D * (D * E * Int.natAbs 180)) 822 := Sz_zero
  have v0 := s.v.z0.mul (Sz_wed s.v wS0_ok s.a (by_ := 180) (by omega))
  have s0 := zz.add (v0.up (show 306 + (306 + 7 + 203) ≤ 822 + 0 by omega))
  have v1 := s.v.z1.mul (Sz_wed s.v wS1_ok s.a (by_ := 180) (by omega))
  have s1 := s0.add (v1.up (show 306 + (306 + 7 + 203) ≤ 822 + 1 by omega))
  have v2 := s.v.z2.mul (Sz_wed s.v wS2_ok s.a (by_ := 180) (by omega))
  have s2 := s1.add (v2.up (show 306 + (306 + 7 + 203) ≤ 822 + 2 by omega))
  have v3 := s.v.z3.mul (Sz_wed s.v wS3_ok s.a (by_ := 180) (by omega))
  have s3 := s2.add (v3.up (show 306 + (306 + 7 + 203) ≤ 822 + 3 by omega))
  have v4 := s.v.z4.mul (Sz_wed s.v wS4_ok s.a (by_ := 180) (by omega))
  have s4 := s3.add (v4.up (show 306 + (306 + 7 + 203) ≤ 822 + 4 by omega))
  have v5 := s.v.z5.mul (Sz_wed s.v wS5_ok s.a (by_ := 180) (by omega))
  have s5 := s4.add (v5.up (show 306 + (306 + 7 + 203) ≤ 822 + 5 by omega))
  exact s5.rz p0 pl (by omega)
/-! ### Where it cannot be told, by numbers -/
section
variable {f : P6} {ax ay bx b_ cx cy : Rat} {e : Int}
theorem c_intEr (hp : ∀ h, byVal (callW gp) h fid.poly_plane [sa f, pa ax ay, pa bx b_, pa cx cy] = some (plE e)) (he : e ≠ 0) : byVal (callW gp) h fid.poly_Integral [sa f, pa ax ay, pa bx b_, pa cx cy] = some (.tup [.agg z3, .int .i64 e]) := c_intE (t := rt6 f) (a := (rt ax, rt ay)) (b := (rt bx, rt b_)) (c := (rt cx, rt cy)) hp he
theorem c_loadEr (hp : ∀ h, byVal (callW gp) h fid.poly_plane [sa f, pa ax ay, pa bx b_, pa cx cy] = some (plE e)) (he : e ≠ 0) : byVal (callW gp) h fid.poly_Loads [sa f, pa ax ay, pa bx b_, pa cx cy] = some (.tup [.agg z9, .int .i64 e]) := c_loadE (t := rt6 f) (a := (rt ax, rt ay)) (b := (rt bx, rt b_)) (c := (rt cx, rt cy)) hp he
theorem c_sqEr (hp : ∀ h, byVal (callW gp) h fid.poly_plane [sa f, pa ax ay, pa bx b_, pa cx cy] = some (plE e)) (he : e ≠ 0) : byVal (callW gp) h fid.poly_Square [sa f, pa ax ay, pa bx b_, pa cx cy] = some (.tup [.agg z3, .int .i64 e]) := c_sqE (t := rt6 f) (a := (rt ax, rt ay)) (b := (rt bx, rt b_)) (c := (rt cx, rt cy)) hp he
end
/-! ### The answers that the document gives -/
set_option maxHeartbeats 1000000 in
theorem live7_by : byVal (callW gp) h fid.gussetlaw07_live [] = some (.bool true) := byVal_imm (fun _ h => by cases h) (by
  have z : ∀ z : Int, -9223372036854775808 ≤ z → z ≤ 9223372036854775807 → Rz (z : Rat) 100 := fun z h1 h2 => (Rz_int h1 h2).mono (by omega)
  have z0 := z 0 (by omega) (by omega)
  have z1 := z 1 (by omega) (by omega)
  have z2 := z 2 (by omega) (by omega)
  have f1 : (⟨((0 : Int) : Rat), ((1 : Int) : Rat), ((0 : Int) : Rat), ((0 : Int) : Rat), ((0 : Int) : Rat), ((0 : Int) : Rat)⟩ : P6).Z 100 := ⟨z0, z1, z0, z0, z0, z0⟩
  have f2 : (⟨((1 : Int) : Rat), ((0 : Int) : Rat), ((0 : Int) : Rat), ((0 : Int) : Rat), ((0 : Int) : Rat), ((0 : Int) : Rat)⟩ : P6).Z 100 := ⟨z1, z0, z0, z0, z0, z0⟩
  have k1 := fun h => k_int (h := h) f1 ⟨z0, z0, z2, z0, z0, z2⟩ (by decide +kernel)
  have k2 := fun h => k_square (h := h) f1 ⟨z0, z0, z1, z0, z0, z1⟩ (by decide +kernel)
  have k3 := fun h => c_loadEr (h := h) (e := 6) (fun h => k_planeE3 (h := h) f2 ⟨z0, z0, z1, z0, z2, z0⟩ (by decide +kernel)) (by omega)
  have v1 : intQ (sixQ ⟨((0 : Int) : Rat), ((1 : Int) : Rat), ((0 : Int) : Rat), ((0 : Int) : Rat), ((0 : Int) : Rat), ((0 : Int) : Rat)⟩ ((0 : Int) : Rat) ((0 : Int) : Rat) ((2 : Int) : Rat) ((0 : Int) : Rat) ((0 : Int) : Rat) ((2 : Int) : Rat)) (arQ ((0 : Int) : Rat) ((0 : Int) : Rat) ((2 : Int) : Rat) ((0 : Int) : Rat) ((0 : Int) : Rat) ((2 : Int) : Rat)) = Rat.divInt 4 3 := by decide +kernel
  have v2 : sqQ (sixQ ⟨((0 : Int) : Rat), ((1 : Int) : Rat), ((0 : Int) : Rat), ((0 : Int) : Rat), ((0 : Int) : Rat), ((0 : Int) : Rat)⟩ ((0 : Int) : Rat) ((0 : Int) : Rat) ((1 : Int) : Rat) ((0 : Int) : Rat) ((0 : Int) : Rat) ((1 : Int) : Rat)) (arQ ((0 : Int) : Rat) ((0 : Int) : Rat) ((1 : Int) : Rat) ((0 : Int) : Rat) ((0 : Int) : Rat) ((1 : Int) : Rat)) = Rat.divInt 1 12 := by decide +kernel
  have s1 := fun h => c_small7 (h := h) (a := 0) (b := 1) (c := 0) (d := 0) (e := 0) (f := 0) (by decide) (by decide) (by decide) (by decide) (by decide) (by decide)
  have s2 := fun h => c_small7 (h := h) (a := 1) (b := 0) (c := 0) (d := 0) (e := 0) (f := 0) (by decide) (by decide) (by decide) (by decide) (by decide) (by decide)
  rw [v1] at k1
  rw [v2] at k2
  rw [gussetlaw07_live.eq]
  unfold gussetlaw07_live.f
  simp (disch := first | exact dD | fail) only [Wd, W2d, W3d, Nat.reduceAdd, Nat.reduceMul, Nat.reduceSub, s1, s2, c_at7, k1, k2, k3, k_3frac, eqa_same])
end
end Go.Proofs.YtcpmkohlmjakmaaGreatDoor.Am