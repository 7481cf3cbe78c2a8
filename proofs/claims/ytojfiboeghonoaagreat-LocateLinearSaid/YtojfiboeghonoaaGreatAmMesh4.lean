import Derived.Test.YtojfiboeghonoaaGreatAmMesh3
/- Section 12: small meshes that may be. -/
set_option linter.unusedVariables false
set_option maxRecDepth 10000
set_option linter.unusedSimpArgs false
namespace Go.Proofs.YtojfiboeghonoaaGreat.Am
open Go

def sh1 (t : RT) : Prop := t.m.length ≤ 40 ∧ t.d.length ≤ 40
instance (t : RT) : Decidable (sh1 t) := by unfold sh1; infer_instance
def sh2 (p : PT) : Prop := sh1 p.1 ∧ sh1 p.2
theorem pt_rat40 {p : PT} (hp : p.ok) (h : sh2 p) (ha : askc p = 0) : ∃ r : Rat × Rat, p = pc r ∧ Rz r.1 40 ∧ Rz r.2 40 := by
  obtain ⟨⟨q1, q2⟩, ⟨q3, q4⟩⟩ := h
  rw [askc_small ⟨by omega, by omega⟩ ⟨by omega, by omega⟩] at ha
  obtain ⟨x, y, e, h1, h2⟩ := PT.ratz hp ha ⟨q1, q2⟩ ⟨q3, q4⟩
  exact ⟨(x, y), e, h1, h2⟩
theorem pts_rat40 : ∀ {l : List PT}, (∀ t ∈ l, t.ok) → (∀ t ∈ l, sh2 t) → firstE (l.map askc) = 0 → ∃ ps : List (Rat × Rat), l = ps.map pc ∧ PsZ ps 40
  | [], _, _, _ => ⟨[], rfl, fun _ h => absurd h List.not_mem_nil⟩
  | t :: l, ho, hs, hf => by
    rw [List.map_cons, firstE] at hf
    by_cases h0 : askc t = 0
    · rw [if_pos h0] at hf
      obtain ⟨r, e, h1, h2⟩ := pt_rat40 (ho t (List.mem_cons_self ..)) (hs t (List.mem_cons_self ..)) h0
      obtain ⟨ps, e', hz⟩ := pts_rat40 (fun t ht => ho t (List.mem_cons_of_mem _ ht)) (fun t ht => hs t (List.mem_cons_of_mem _ ht)) hf
      refine ⟨r :: ps, by rw [e, e']; rfl, fun q hq => ?_⟩
      rcases List.mem_cons.1 hq with rfl | hq
      · exact ⟨h1, h2⟩
      · exact hz q hq
    · rw [if_neg h0] at hf; exact absurd hf h0
section
variable {h : Heap} {m : Ms}
theorem c_short12 {t : RT} : byVal (callW gp) h fid.zf0b [.agg (rtc t)] = some (.bool (decide (sh1 t))) := byVal_imm (imm_L1 imm_r3) (by
  rw [zf0b.eq]
  unfold zf0b.f rtc
  by_cases h1 : t.m.length ≤ 40
  · by_cases h2 : t.d.length ≤ 40
    · rw [decide_eq_true (show sh1 t from ⟨h1, h2⟩)]
      have e : decide ((t.d.length : Int) ≤ 40) = true := decide_eq_true (by omega)
      simp (disch := first | exact dD | fail) only [Wd, W2d, W3d, Nat.reduceAdd, Nat.reduceMul, Nat.reduceSub, e]
    · rw [decide_eq_false (show ¬ sh1 t from fun h => h2 h.2)]
      have e : decide ((t.d.length : Int) ≤ 40) = false := decide_eq_false (by omega)
      simp (disch := first | exact dD | fail) only [Wd, W2d, W3d, Nat.reduceAdd, Nat.reduceMul, Nat.reduceSub, e]
  · rw [decide_eq_false (show ¬ sh1 t from fun h => h1 h.1)]
    simp (disch := first | exact dD | fail) only [Wd, W2d, W3d, Nat.reduceAdd, Nat.reduceMul, Nat.reduceSub])
theorem k_mcheck (hp : ∀ t ∈ m.pts, t.ok) (hs : ∀ t ∈ m.pts, sh2 t) (n1 : m.pts.length ≤ 30) (n2 : m.tris.length ≤ 45) (n3 : m.segs.length ≤ 45) : ∃ r : Int, (∀ h, byVal (callW gp) h fid.zf0w [.agg (msc m)] = some (.int .i64 r)) ∧ (r = 0 → ∃ q : Mq, q.ok ∧ m = q.ms) := by
  have fa : ∀ k id off, opFaddr k (.rp id off) = some (.rp id (off + k)) := fun _ _ _ => rfl
  have ka := fun h => k_5asked (h := h) (f := false) hp (by omega)
  by_cases ha : firstE (m.pts.map askc) = 0
  rotate_left
  · refine ⟨firstE (m.pts.map askc), fun h => byVal_imm (imm_L1 imm_ms) ?_, fun h => absurd h ha⟩
    have nq := neqT ha
    rw [zf0w.eq]
    unfold zf0w.f
    simp (disch := first | exact dD | fail) only [Wd, W2d, W3d, Nat.reduceAdd, Nat.reduceMul, Nat.reduceSub, fa, ms_0, ms_1, ms_2, ka, nq]
  · rw [ha] at ka
    obtain ⟨ps, e, hz⟩ := pts_rat40 hp hs ha
    obtain ⟨pts, ts, ss⟩ := m
    simp only at e n2 n3 n1
    subst e
    rw [List.length_map] at n1
    obtain ⟨r, g, gr⟩ := chk_l0 (ts := ts) (ss := ss) (hz.up (by omega)) (by omega) (by omega) ts.length 0 (by simp)
    refine ⟨r, fun h => byVal_imm (imm_L1 imm_ms) ?_, fun hr => ⟨⟨ps, ts, ss⟩, ?_, rfl⟩⟩
    · have m0 := @ms_0 ⟨ps.map pc, ts, ss⟩
      have m1 := @ms_1 ⟨ps.map pc, ts, ss⟩
      have m2 := @ms_2 ⟨ps.map pc, ts, ss⟩
      simp only [List.length_map] at m0 m1 m2 ka
      rw [zf0w.eq]
      unfold zf0w.f
      simp (disch := first | exact dD | fail) only [Wd, W2d, W3d, Nat.reduceAdd, Nat.reduceMul, Nat.reduceSub, fa, m0, m1, m2, ka, neqF]
      exact g
    · obtain ⟨f1, f2, f3⟩ := gr hr
      refine ⟨hz, fun i hi => f1 i (Nat.zero_le _) hi, fun i j k l hi hj hk hl he => ?_, fun i hi => ?_, fun i j hj hi hs => ?_, n1, n2, n3⟩
      · have a := f2 i k hi hk
        have b := f2 j l hj hl
        unfold EdF at a b
        rw [show edI ts i k = edI ts j l from he, b] at a
        cases a; exact ⟨rfl, rfl⟩
      · obtain ⟨h1, _⟩ := f3 i hi
        rcases h1 with h1 | h1
        · cases hf : findI ts (gat ss i).a (gat ss i).b ts.length 0 with
          | none => exact absurd hf h1
          | some x =>
            obtain ⟨_, g2, g3, g4⟩ := findI_some hf
            exact ⟨x.1, x.2, by simpa using g2, g3, .inl g4⟩
        · cases hf : findI ts (gat ss i).b (gat ss i).a ts.length 0 with
          | none => exact absurd hf h1
          | some x =>
            obtain ⟨_, g2, g3, g4⟩ := findI_some hf
            exact ⟨x.1, x.2, by simpa using g2, g3, .inr g4⟩
      · obtain ⟨_, h2⟩ := f3 i hi
        obtain ⟨_, _, _, h6⟩ := segI_first h2
        exact h6 j (Nat.zero_le _) hj hs
theorem small_l0 (hp : ∀ t ∈ m.pts, t.ok) (n1 : m.pts.length ≤ 30) (n2 : m.tris.length ≤ 45) (n3 : m.segs.length ≤ 45) : ∀ (k i : Nat), i + k = m.pts.length → (∀ t ∈ m.pts.take i, sh2 t) → ∃ b, zf0a.l0 (.rp 0 0) (.int .i64 (i : Int)) [some (msc m)] = some (.bool b) ∧ (b = true → ∃ q : Mq, q.ok ∧ m = q.ms) := by
  have fa : ∀ k id off, opFaddr k (.rp id off) = some (.rp id (off + k)) := fun _ _ _ => rfl
  intro k
  induction k with
  | zero =>
    intro i hik hs
    obtain rfl : i = m.pts.length := by omega
    rw [List.take_length] at hs
    obtain ⟨r, g, gr⟩ := k_mcheck hp hs n1 n2 n3
    refine ⟨decide (r = 0), ?_, fun h => gr (of_decide_eq_true h)⟩
    rw [zf0a.l0_eq]
    simp (disch := first | exact dD | fail) only [Wd, W2d, W3d, Nat.reduceAdd, Nat.reduceMul, Nat.reduceSub, fa, ms_0, ms_rc, g, eqlTF]
  | succ k ih =>
    intro i hik hs
    have hi : i < m.pts.length := by omega
    have e : (m.pts.flatMap ptc).drop (i * 6) = .bool m.pts[i].1.s :: str m.pts[i].1.m :: str m.pts[i].1.d :: .bool m.pts[i].2.s :: str m.pts[i].2.m :: str m.pts[i].2.d :: (m.pts.drop (i + 1)).flatMap ptc := by
      rw [drop_flatMap ptc_len, List.drop_eq_getElem_cons hi, List.flatMap_cons]; rfl
    have e3 : List.drop (i * 6 + 3) (m.pts.flatMap ptc) = .bool m.pts[i].2.s :: str m.pts[i].2.m :: str m.pts[i].2.d :: (m.pts.drop (i + 1)).flatMap ptc := by rw [← List.drop_drop, e]; rfl
    have ks := fun h (x : RT) => c_short12 (h := h) (t := x)
    unfold rtc at ks
    rw [zf0a.l0_eq]
    by_cases q1 : sh1 m.pts[i].1
    rotate_left
    · exact ⟨false, by simp (disch := first | exact dD | fail) only [Wd, W2d, W3d, Nat.reduceAdd, Nat.reduceMul, Nat.reduceSub, fa, ms_0, e, e3, ks, decide_eq_false q1], fun h => by cases h⟩
    by_cases q2 : sh1 m.pts[i].2
    rotate_left
    · exact ⟨false, by simp (disch := first | exact dD | fail) only [Wd, W2d, W3d, Nat.reduceAdd, Nat.reduceMul, Nat.reduceSub, fa, ms_0, e, e3, ks, decide_eq_true q1, decide_eq_false q2], fun h => by cases h⟩
    obtain ⟨b, g, gb⟩ := ih (i + 1) (by omega) fun t ht => by
      rw [List.take_succ_eq_append_getElem hi] at ht
      rcases List.mem_append.1 ht with ht | ht
      · exact hs t ht
      · rw [List.mem_singleton] at ht; subst ht; exact ⟨q1, q2⟩
    refine ⟨b, ?_, gb⟩
    simp (disch := first | exact dD | fail) only [Wd, W2d, W3d, Nat.reduceAdd, Nat.reduceMul, Nat.reduceSub, fa, ms_0, e, e3, ks, decide_eq_true q1, decide_eq_true q2]
    exact g
theorem k_small12 (hp : ∀ t ∈ m.pts, t.ok) : ∃ b, (∀ h, byVal (callW gp) h fid.zf0a [.agg (msc m)] = some (.bool b)) ∧ (b = true → ∃ q : Mq, q.ok ∧ m = q.ms) := by
  have fa : ∀ k id off, opFaddr k (.rp id off) = some (.rp id (off + k)) := fun _ _ _ => rfl
  by_cases q1 : 30 < m.pts.length
  · exact ⟨false, fun h => byVal_imm (imm_L1 imm_ms) (by
      rw [zf0a.eq]
      unfold zf0a.f
      simp (disch := first | exact dD | fail) only [Wd, W2d, W3d, Nat.reduceAdd, Nat.reduceMul, Nat.reduceSub, fa, ms_0]), fun h => by cases h⟩
  by_cases q2 : 45 < m.tris.length
  · exact ⟨false, fun h => byVal_imm (imm_L1 imm_ms) (by
      rw [zf0a.eq]
      unfold zf0a.f
      simp (disch := first | exact dD | fail) only [Wd, W2d, W3d, Nat.reduceAdd, Nat.reduceMul, Nat.reduceSub, fa, ms_0, ms_1]), fun h => by cases h⟩
  by_cases q3 : 45 < m.segs.length
  · exact ⟨false, fun h => byVal_imm (imm_L1 imm_ms) (by
      rw [zf0a.eq]
      unfold zf0a.f
      simp (disch := first | exact dD | fail) only [Wd, W2d, W3d, Nat.reduceAdd, Nat.reduceMul, Nat.reduceSub, fa, ms_0, ms_1, ms_2]), fun h => by cases h⟩
  obtain ⟨b, g, gb⟩ := small_l0 hp (by omega) (by omega) (by omega) m.pts.length 0 (by omega) (fun t ht => by simp at ht)
  exact ⟨b, fun h => byVal_imm (imm_L1 imm_ms) (by
      rw [zf0a.eq]
      unfold zf0a.f
      simp (disch := first | exact dD | fail) only [Wd, W2d, W3d, Nat.reduceAdd, Nat.reduceMul, Nat.reduceSub, fa, ms_0, ms_1, ms_2]
      exact g), gb⟩
end
end Go.Proofs.YtojfiboeghonoaaGreat.Am
