import Derived.Test.YtechbfodaallkaaGreatAmWell12
import Derived.Test.YtechbfodaallkaaGreatAmWell10
import Derived.Test.YtechbfodaallkaaGreatAmV
/- The law of section 10 that both answers are one. -/
set_option linter.unusedVariables false
set_option maxRecDepth 10000
set_option linter.unusedSimpArgs false
namespace Go.Proofs.YtechbfodaallkaaGreat.Am
open Go

/-! ### Few bytes -/
def sh1 (t : RT) : Prop := t.m.length ≤ 30 ∧ t.d.length ≤ 30
instance (t : RT) : Decidable (sh1 t) := by unfold sh1; infer_instance
def sh2 (p : PT) : Prop := sh1 p.1 ∧ sh1 p.2
theorem pt_rat30 {p : PT} (hp : p.ok) (h : sh2 p) (ha : askc p = 0) : ∃ r : Rat × Rat, p = pc r ∧ Rz r.1 30 ∧ Rz r.2 30 := by
  obtain ⟨⟨q1, q2⟩, ⟨q3, q4⟩⟩ := h
  rw [askc_small ⟨by omega, by omega⟩ ⟨by omega, by omega⟩] at ha
  obtain ⟨x, y, e, h1, h2⟩ := PT.ratz hp ha ⟨q1, q2⟩ ⟨q3, q4⟩
  exact ⟨(x, y), e, h1, h2⟩
theorem pts_rat30 : ∀ {l : List PT}, (∀ t ∈ l, t.ok) → (∀ t ∈ l, sh2 t) → firstE (l.map askc) = 0 → ∃ ps : List (Rat × Rat), l = ps.map pc ∧ PsZ ps 30
  | [], _, _, _ => ⟨[], rfl, fun _ h => absurd h List.not_mem_nil⟩
  | t :: l, ho, hs, hf => by
    rw [List.map_cons, firstE] at hf
    by_cases h0 : askc t = 0
    · rw [if_pos h0] at hf
      obtain ⟨r, e, h1, h2⟩ := pt_rat30 (ho t (List.mem_cons_self ..)) (hs t (List.mem_cons_self ..)) h0
      obtain ⟨ps, e', hz⟩ := pts_rat30 (fun t ht => ho t (List.mem_cons_of_mem _ ht)) (fun t ht => hs t (List.mem_cons_of_mem _ ht)) hf
      refine ⟨r :: ps, by rw [e, e']; rfl, fun q hq => ?_⟩
      rcases List.mem_cons.1 hq with rfl | hq
      · exact ⟨h1, h2⟩
      · exact hz q hq
    · rw [if_neg h0] at hf; exact absurd hf h0
theorem PsZ.up {ps : List (Rat × Rat)} {n m : Nat} (h : PsZ ps n) (hm : n ≤ m) : PsZ ps m := fun r hr => ⟨(h r hr).1.mono hm, (h r hr).2.mono hm⟩
section
variable {h : Heap}
theorem c_short10 {t : RT} : byVal (callW gp) h fid.gussetlaw10_short [.agg (rtc t)] = some (.bool (decide (sh1 t))) := byVal_imm (imm_L1 imm_r3) (by
  rw [gussetlaw10_short.eq]
  unfold gussetlaw10_short.f rtc
  by_cases h1 : t.m.length ≤ 30
  · by_cases h2 : t.d.length ≤ 30
    · rw [decide_eq_true (show sh1 t from ⟨h1, h2⟩)]
      have e : decide ((t.d.length : Int) ≤ 30) = true := decide_eq_true (by omega)
      simp (disch := first | exact dD | fail) only [Wd, W2d, W3d, Nat.reduceAdd, Nat.reduceMul, Nat.reduceSub, e]
    · rw [decide_eq_false (show ¬ sh1 t from fun h => h2 h.2)]
      have e : decide ((t.d.length : Int) ≤ 30) = false := decide_eq_false (by omega)
      simp (disch := first | exact dD | fail) only [Wd, W2d, W3d, Nat.reduceAdd, Nat.reduceMul, Nat.reduceSub, e]
  · rw [decide_eq_false (show ¬ sh1 t from fun h => h1 h.1)]
    simp (disch := first | exact dD | fail) only [Wd, W2d, W3d, Nat.reduceAdd, Nat.reduceMul, Nat.reduceSub])
variable {p : Pl}
theorem aidx_r {sz len id o i : Nat} {k : IntKind} (h : i < len) : opAidx sz len (.rp id o) (.int k ((i : Nat) : Int)) = some (.rp id (o + i * sz)) := aidx_n h
theorem small_l2 : ∀ (m i : Nat), i + m = 6 → ∃ b, gussetlaw10_small.l2 (.rp 0 0) (.int .i64 (i : Int)) [some (plc p)] = some (.bool b) := by
  intro m
  induction m with
  | zero =>
    intro i him
    obtain rfl : i = 6 := by omega
    rw [gussetlaw10_small.l2_eq]
    exact ⟨true, by simp (disch := first | exact dD | fail) only [Wd, W2d, W3d, Nat.reduceAdd, Nat.reduceMul, Nat.reduceSub, wl6]⟩
  | succ m ih =>
    intro i him
    obtain ⟨b, g⟩ := ih (i + 1) (by omega)
    have eF : ∃ t, readCells (List.drop (3 + i * 3) (plc p)) (some 3) = some (.agg (rtc t)) := by
      rcases (by omega : i = 0 ∨ i = 1 ∨ i = 2 ∨ i = 3 ∨ i = 4 ∨ i = 5) with rfl | rfl | rfl | rfl | rfl | rfl <;> exact ⟨_, rfl⟩
    have eG : ∃ t, readCells (List.drop (21 + i * 3) (plc p)) (some 3) = some (.agg (rtc t)) := by
      rcases (by omega : i = 0 ∨ i = 1 ∨ i = 2 ∨ i = 3 ∨ i = 4 ∨ i = 5) with rfl | rfl | rfl | rfl | rfl | rfl <;> exact ⟨_, rfl⟩
    obtain ⟨t, eF⟩ := eF
    obtain ⟨u, eG⟩ := eG
    rw [gussetlaw10_small.l2_eq]
    have k := fun h (x : RT) => c_short10 (h := h) (t := x)
    by_cases q1 : sh1 t
    rotate_left
    · exact ⟨false, by simp (disch := first | exact dD | fail) only [Wd, W2d, W3d, Nat.reduceAdd, Nat.reduceMul, Nat.reduceSub, aidx_r, eF, k, decide_eq_false q1]⟩
    by_cases q2 : sh1 u
    rotate_left
    · exact ⟨false, by simp (disch := first | exact dD | fail) only [Wd, W2d, W3d, Nat.reduceAdd, Nat.reduceMul, Nat.reduceSub, aidx_r, eF, eG, k, decide_eq_true q1, decide_eq_false q2]⟩
    refine ⟨b, ?_⟩
    simp (disch := first | exact dD | fail) only [Wd, W2d, W3d, Nat.reduceAdd, Nat.reduceMul, Nat.reduceSub, aidx_r, eF, eG, k, decide_eq_true q1, decide_eq_true q2]
    exact g
theorem small_l1 (hp : p.ok) : ∀ (m i : Nat), i + m = p.holes.length → ∃ b, gussetlaw10_small.l1 (.rp 0 0) (.int .i64 (i : Int)) [some (plc p)] = some (.bool b) ∧ (b = true → ∀ t ∈ p.holes.drop i, sh2 t) := by
  have n3 := hp.n3
  intro m
  induction m with
  | zero =>
    intro i him
    obtain rfl : i = p.holes.length := by omega
    obtain ⟨b, g⟩ := small_l2 (p := p) 6 0 (by omega)
    rw [gussetlaw10_small.l1_eq]
    refine ⟨b, ?_, fun _ t ht => by rw [List.drop_length] at ht; cases ht⟩
    simp (disch := first | exact dD | fail) only [Wd, W2d, W3d, Nat.reduceAdd, Nat.reduceMul, Nat.reduceSub, plc_2]
    exact g
  | succ m ih =>
    intro i him
    obtain ⟨b, g, gb⟩ := ih (i + 1) (by omega)
    have hi : i < p.holes.length := by omega
    have e : (p.holes.flatMap ptc).drop (i * 6) = .bool p.holes[i].1.s :: str p.holes[i].1.m :: str p.holes[i].1.d :: .bool p.holes[i].2.s :: str p.holes[i].2.m :: str p.holes[i].2.d :: (p.holes.drop (i + 1)).flatMap ptc := by
      rw [drop_flatMap ptc_len, List.drop_eq_getElem_cons hi, List.flatMap_cons]; rfl
    have e3 : List.drop (i * 6 + 3) (p.holes.flatMap ptc) = .bool p.holes[i].2.s :: str p.holes[i].2.m :: str p.holes[i].2.d :: (p.holes.drop (i + 1)).flatMap ptc := by rw [← List.drop_drop, e]; rfl
    rw [gussetlaw10_small.l1_eq]
    have k := fun h (x : RT) => c_short10 (h := h) (t := x)
    unfold rtc at k
    by_cases q1 : sh1 p.holes[i].1
    rotate_left
    · exact ⟨false, by simp (disch := first | exact dD | fail) only [Wd, W2d, W3d, Nat.reduceAdd, Nat.reduceMul, Nat.reduceSub, plc_2, e, e3, k, decide_eq_false q1], fun h => by cases h⟩
    by_cases q2 : sh1 p.holes[i].2
    rotate_left
    · exact ⟨false, by simp (disch := first | exact dD | fail) only [Wd, W2d, W3d, Nat.reduceAdd, Nat.reduceMul, Nat.reduceSub, plc_2, e, e3, k, decide_eq_true q1, decide_eq_false q2], fun h => by cases h⟩
    refine ⟨b, ?_, fun hb t ht => ?_⟩
    · simp (disch := first | exact dD | fail) only [Wd, W2d, W3d, Nat.reduceAdd, Nat.reduceMul, Nat.reduceSub, plc_2, e, e3, k, decide_eq_true q1, decide_eq_true q2]
      exact g
    · rw [List.drop_eq_getElem_cons hi] at ht
      rcases List.mem_cons.1 ht with rfl | ht
      · exact ⟨q1, q2⟩
      · exact gb hb t ht
theorem small_l0 (hp : p.ok) : ∀ (m i : Nat), i + m = p.pts.length → ∃ b, gussetlaw10_small.l0 (.rp 0 0) (.int .i64 (i : Int)) [some (plc p)] = some (.bool b) ∧ (b = true → (∀ t ∈ p.pts.drop i, sh2 t) ∧ ∀ t ∈ p.holes, sh2 t) := by
  have n1 := hp.n1
  intro m
  induction m with
  | zero =>
    intro i him
    obtain rfl : i = p.pts.length := by omega
    obtain ⟨b, g, gb⟩ := small_l1 hp p.holes.length 0 (by omega)
    rw [gussetlaw10_small.l0_eq]
    refine ⟨b, ?_, fun hb => ⟨(fun t ht => by rw [List.drop_length] at ht; cases ht), gb hb⟩⟩
    simp (disch := first | exact dD | fail) only [Wd, W2d, W3d, Nat.reduceAdd, Nat.reduceMul, Nat.reduceSub, plc_0]
    exact g
  | succ m ih =>
    intro i him
    obtain ⟨b, g, gb⟩ := ih (i + 1) (by omega)
    have hi : i < p.pts.length := by omega
    have e : (p.pts.flatMap ptc).drop (i * 6) = .bool p.pts[i].1.s :: str p.pts[i].1.m :: str p.pts[i].1.d :: .bool p.pts[i].2.s :: str p.pts[i].2.m :: str p.pts[i].2.d :: (p.pts.drop (i + 1)).flatMap ptc := by
      rw [drop_flatMap ptc_len, List.drop_eq_getElem_cons hi, List.flatMap_cons]; rfl
    have e3 : List.drop (i * 6 + 3) (p.pts.flatMap ptc) = .bool p.pts[i].2.s :: str p.pts[i].2.m :: str p.pts[i].2.d :: (p.pts.drop (i + 1)).flatMap ptc := by rw [← List.drop_drop, e]; rfl
    rw [gussetlaw10_small.l0_eq]
    have k := fun h (x : RT) => c_short10 (h := h) (t := x)
    unfold rtc at k
    by_cases q1 : sh1 p.pts[i].1
    rotate_left
    · exact ⟨false, by simp (disch := first | exact dD | fail) only [Wd, W2d, W3d, Nat.reduceAdd, Nat.reduceMul, Nat.reduceSub, plc_0, e, e3, k, decide_eq_false q1], fun h => by cases h⟩
    by_cases q2 : sh1 p.pts[i].2
    rotate_left
    · exact ⟨false, by simp (disch := first | exact dD | fail) only [Wd, W2d, W3d, Nat.reduceAdd, Nat.reduceMul, Nat.reduceSub, plc_0, e, e3, k, decide_eq_true q1, decide_eq_false q2], fun h => by cases h⟩
    refine ⟨b, ?_, fun hb => ⟨fun t ht => ?_, (gb hb).2⟩⟩
    · simp (disch := first | exact dD | fail) only [Wd, W2d, W3d, Nat.reduceAdd, Nat.reduceMul, Nat.reduceSub, plc_0, e, e3, k, decide_eq_true q1, decide_eq_true q2]
      exact g
    · rw [List.drop_eq_getElem_cons hi] at ht
      rcases List.mem_cons.1 ht with rfl | ht
      · exact ⟨q1, q2⟩
      · exact (gb hb).1 t ht
/-- A plan of any size. -/
structure Pl.wide (p : Pl) : Prop where
  pts : ∀ t ∈ p.pts, t.ok
  holes : ∀ t ∈ p.holes, t.ok
  F : p.F.ok
  G : p.G.ok
theorem k_small (hw : p.wide) : ∃ b, (∀ h, byVal (callW gp) h fid.gussetlaw10_small [.agg (plc p)] = some (.bool b)) ∧ (b = true → p.ok ∧ (p.pts.length ≤ 14 ∧ p.segs.length ≤ 20 ∧ p.holes.length ≤ 4) ∧ (∀ t ∈ p.pts, sh2 t) ∧ ∀ t ∈ p.holes, sh2 t) := by
  by_cases q1 : 14 < p.pts.length
  · exact ⟨false, fun h => byVal_imm (imm_L1 imm_pl) (by
      rw [gussetlaw10_small.eq]
      unfold gussetlaw10_small.f
      simp (disch := first | exact dD | fail) only [Wd, W2d, W3d, Nat.reduceAdd, Nat.reduceMul, Nat.reduceSub, plc_0]), fun h => by cases h⟩
  by_cases q2 : 20 < p.segs.length
  · exact ⟨false, fun h => byVal_imm (imm_L1 imm_pl) (by
      rw [gussetlaw10_small.eq]
      unfold gussetlaw10_small.f
      simp (disch := first | exact dD | fail) only [Wd, W2d, W3d, Nat.reduceAdd, Nat.reduceMul, Nat.reduceSub, plc_0, plc_1]), fun h => by cases h⟩
  by_cases q3 : 4 < p.holes.length
  · exact ⟨false, fun h => byVal_imm (imm_L1 imm_pl) (by
      rw [gussetlaw10_small.eq]
      unfold gussetlaw10_small.f
      simp (disch := first | exact dD | fail) only [Wd, W2d, W3d, Nat.reduceAdd, Nat.reduceMul, Nat.reduceSub, plc_0, plc_1, plc_2]), fun h => by cases h⟩
  have hp : p.ok := ⟨hw.pts, hw.holes, hw.F, hw.G, by omega, by omega, by omega⟩
  obtain ⟨b, g, gb⟩ := small_l0 hp p.pts.length 0 (by omega)
  exact ⟨b, fun h => byVal_imm (imm_L1 imm_pl) (by
      rw [gussetlaw10_small.eq]
      unfold gussetlaw10_small.f
      simp (disch := first | exact dD | fail) only [Wd, W2d, W3d, Nat.reduceAdd, Nat.reduceMul, Nat.reduceSub, plc_0, plc_1, plc_2]
      exact g), fun hb => ⟨hp, ⟨by omega, by omega, by omega⟩, (gb hb).1, (gb hb).2⟩⟩
end
end Go.Proofs.YtechbfodaallkaaGreat.Am
