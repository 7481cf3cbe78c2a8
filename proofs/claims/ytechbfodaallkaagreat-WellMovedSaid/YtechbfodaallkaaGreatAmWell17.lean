import Derived.Test.YtechbfodaallkaaGreatAmWell16
/- The law of section 10 on plans moved and drawn larger. -/
set_option linter.unusedVariables false
set_option maxRecDepth 10000
set_option linter.unusedSimpArgs false
namespace Go.Proofs.YtechbfodaallkaaGreat.Am
open Go

theorem firstQ_e (q : Pq) : (firstQ q).1 ≠ 1 ∧ (firstQ q).1 ≠ 5 := by
  unfold firstQ holesF
  split
  · exact ⟨(by decide : (8 : Int) ≠ 1), (by decide : (8 : Int) ≠ 5)⟩
  split
  · exact ⟨(by decide : (9 : Int) ≠ 1), (by decide : (9 : Int) ≠ 5)⟩
  split
  · exact ⟨(by decide : (9 : Int) ≠ 1), (by decide : (9 : Int) ≠ 5)⟩
  split
  · exact ⟨(by decide : (10 : Int) ≠ 1), (by decide : (10 : Int) ≠ 5)⟩
  split
  · exact ⟨(by decide : (11 : Int) ≠ 1), (by decide : (11 : Int) ≠ 5)⟩
  · exact ⟨(by decide : (0 : Int) ≠ 1), (by decide : (0 : Int) ≠ 5)⟩
theorem eqlF {a b : Int} (h : a ≠ b) : opBin .eql (.int .i64 a) (.int .i64 b) = some (.bool false) := by
  show some (AV.bool (decide (a = b))) = _
  rw [decide_eq_false h]
theorem neqT {a b : Int} (h : a ≠ b) : opBin .neq (.int .i64 a) (.int .i64 b) = some (.bool true) := by
  rw [bin_neq, decide_eq_true h]
theorem neqF {a : Int} : opBin .neq (.int .i64 a) (.int .i64 a) = some (.bool false) := by
  rw [bin_neq, decide_eq_false (fun h => h rfl)]
set_option maxHeartbeats 8000000 in
theorem wellMoved_cv (p : Pl) (t : PT) (k : RT) (hw : p.wide) (ht : t.ok) (hk : k.ok) : cv gp fid.gussetlaw10_WellMoved [.agg (plc p), .agg (ptc t), .agg (rtc k)] = some (.bool true) := by
  obtain ⟨b, kb, hb⟩ := k_small hw
  have lv := fun h => live10_by (h := h)
  have fa : ∀ k id off, opFaddr k (.rp id off) = some (.rp id (off + k)) := fun _ _ _ => rfl
  have ks := fun h (x : RT) => c_short10 (h := h) (t := x)
  have c4 := fun h => c_4check (h := h) ht
  have c3 := fun h => c_3check (h := h) (s := k.s) (m := k.m) (d := k.d) hk.1 hk.2
  have c3 : ∀ h, byVal (callW gp) h fid.gussetref03_Check [.agg (rtc k)] = some (.int .i64 (rchk k.s k.m k.d)) := c3
  rw [gussetlaw10_WellMoved.eq]
  unfold gussetlaw10_WellMoved.f
  cases b with
  | false => simp (disch := first | exact dD | fail) only [Wd, W2d, W3d, Nat.reduceAdd, Nat.reduceMul, Nat.reduceSub, fa, rc39, kb, lv]
  | true =>
  by_cases q1 : sh1 t.1
  rotate_left
  · simp (disch := first | exact dD | fail) only [Wd, W2d, W3d, Nat.reduceAdd, Nat.reduceMul, Nat.reduceSub, fa, rc39, kb, lv, rc_pt0, rc_pt3, rc_pt6, rc_r3, ks, decide_eq_false q1]
  by_cases q2 : sh1 t.2
  rotate_left
  · simp (disch := first | exact dD | fail) only [Wd, W2d, W3d, Nat.reduceAdd, Nat.reduceMul, Nat.reduceSub, fa, rc39, kb, lv, rc_pt0, rc_pt3, rc_pt6, rc_r3, ks, decide_eq_true q1, decide_eq_false q2]
  by_cases q3 : sh1 k
  rotate_left
  · simp (disch := first | exact dD | fail) only [Wd, W2d, W3d, Nat.reduceAdd, Nat.reduceMul, Nat.reduceSub, fa, rc39, kb, lv, rc_pt0, rc_pt3, rc_pt6, rc_r3, ks, decide_eq_true q1, decide_eq_true q2, decide_eq_false q3]
  by_cases q4 : pchk t = 0
  rotate_left
  · simp (disch := first | exact dD | fail) only [Wd, W2d, W3d, Nat.reduceAdd, Nat.reduceMul, Nat.reduceSub, fa, rc39, kb, lv, rc_pt0, rc_pt3, rc_pt6, rc_r3, ks, decide_eq_true q1, decide_eq_true q2, decide_eq_true q3, c4, neqT q4]
  rw [q4] at c4
  by_cases q5 : rchk k.s k.m k.d = 0
  rotate_left
  · simp (disch := first | exact dD | fail) only [Wd, W2d, W3d, Nat.reduceAdd, Nat.reduceMul, Nat.reduceSub, fa, rc39, kb, lv, rc_pt0, rc_pt3, rc_pt6, rc_r3, ks, decide_eq_true q1, decide_eq_true q2, decide_eq_true q3, c4, neqF, c3, neqT q5]
  rw [q5] at c3
  obtain ⟨hp, ⟨l1, l2, l3⟩, s1, s2⟩ := hb rfl
  obtain ⟨⟨p1, p2⟩, ⟨p3, p4⟩⟩ := (⟨q1, q2⟩ : sh2 t)
  obtain ⟨x, y, rfl, z1, z2⟩ := PT.ratz ht q4 ⟨p1, p2⟩ ⟨p3, p4⟩
  obtain ⟨κ, rfl, zk⟩ := RT.ratz hk q5 q3
  have c5 : ∀ h, byVal (callW gp) h fid.gussetref03_Sign [.agg (rtc (rt κ))] = some (.int .i64 (rsgn κ)) := fun h => k_3sign (q := κ)
  by_cases q6 : κ ≤ 0
  · have g : rsgn κ ≤ 0 := rsgn_le.2 q6
    have e6 : opBin .leq (.int .i64 (rsgn κ)) (.int .i64 0) = some (.bool true) := by
      show some (AV.bool (decide (rsgn κ ≤ 0))) = _
      rw [decide_eq_true g]
    simp (disch := first | exact dD | fail) only [Wd, W2d, W3d, Nat.reduceAdd, Nat.reduceMul, Nat.reduceSub, fa, rc39, kb, lv, rc_pt0, rc_pt3, rc_pt6, rc_r3, ks, decide_eq_true q1, decide_eq_true q2, decide_eq_true q3, c4, neqF, c3, c5, e6]
  have kp : 0 < κ := Rat.not_le.1 q6
  have e6 : opBin .leq (.int .i64 (rsgn κ)) (.int .i64 0) = some (.bool false) := by
    show some (AV.bool (decide (rsgn κ ≤ 0))) = _
    rw [decide_eq_false (fun g => q6 (rsgn_le.1 g))]
  by_cases hg : (givenF p).1 = 0
  rotate_left
  · have kf := fun h => k_firstE (h := h) hp hg
    unfold fdt at kf
    rcases given_v p with g | g | g
    · exact absurd g hg
    · rw [g] at kf
      simp (disch := first | exact dD | fail) only [Wd, W2d, W3d, Nat.reduceAdd, Nat.reduceMul, Nat.reduceSub, fa, rc39, kb, lv, rc_pt0, rc_pt3, rc_pt6, rc_r3, ks, decide_eq_true q1, decide_eq_true q2, decide_eq_true q3, c4, neqF, c3, c5, e6, kf, eqli]
    · rw [g] at kf
      simp (disch := first | exact dD | fail) only [Wd, W2d, W3d, Nat.reduceAdd, Nat.reduceMul, Nat.reduceSub, fa, rc39, kb, lv, rc_pt0, rc_pt3, rc_pt6, rc_r3, ks, decide_eq_true q1, decide_eq_true q2, decide_eq_true q3, c4, neqF, c3, c5, e6, kf, eqli, eqlF (show (5 : Int) ≠ 1 by decide)]
  obtain ⟨q, rfl, hq, zp, zh, g0⟩ := plan_rat hp s1 s2 hg
  have kf := fun h => k_firstQ (h := h) hq g0
  obtain ⟨n1, n5⟩ := firstQ_e q
  have bb := mv_both hq zp zh (r := (x, y)) ⟨z1, z2⟩ zk kp g0
  have cc := c_copyG hp [some (plc q.pl), some (ptc (pc (x, y))), some (rtc (rt κ))]
  unfold fdt at kf
  generalize firstQ q = F at *
  obtain ⟨e, i, j⟩ := F
  simp only at kf n1 n5 bb
  have st := st_app1 (h := [some (plc q.pl), some (ptc (pc (x, y))), some (rtc (rt κ))] ++ cpH q.pl 3) (z := [.is 0 true [], .is 0 true [], .is 0 true [], .bool false, .str ⟨#[]⟩, .str ⟨#[]⟩, .bool false, .str ⟨#[]⟩, .str ⟨#[]⟩, .bool false, .str ⟨#[]⟩, .str ⟨#[]⟩, .bool false, .str ⟨#[]⟩, .str ⟨#[]⟩, .bool false, .str ⟨#[]⟩, .str ⟨#[]⟩, .bool false, .str ⟨#[]⟩, .str ⟨#[]⟩, .bool false, .str ⟨#[]⟩, .str ⟨#[]⟩, .bool false, .str ⟨#[]⟩, .str ⟨#[]⟩, .bool false, .str ⟨#[]⟩, .str ⟨#[]⟩, .bool false, .str ⟨#[]⟩, .str ⟨#[]⟩, .bool false, .str ⟨#[]⟩, .str ⟨#[]⟩, .bool false, .str ⟨#[]⟩, .str ⟨#[]⟩]) (v := cpy q.pl 3) (n := 39) rfl (cpv_ok cpR_cell cpR_cell cpR_cell)
  have l3' : ([some (plc q.pl), some (ptc (pc (x, y))), some (rtc (rt κ))] : Heap).length = 3 := rfl
  rw [l3'] at cc
  unfold pc at bb cc st
  have bx0 : ∀ (h : Heap) (cs : List AV), opBox h (.agg cs) = some (.rp h.length 0, h ++ [some cs]) := fun _ _ => rfl
  show ((opBox [] (.agg (plc q.pl))).bind _) = _
  rw [bx0, bind_s, bx0, bind_s, bx0, bind_s]
  simp only [List.nil_append, List.cons_append, List.length_nil, List.length_cons, Nat.zero_add, Nat.reduceAdd]
  generalize hC : ([some (plc q.pl), some (ptc ((rt x, rt y))), some (rtc (rt κ))] ++ cpH q.pl 3 : Heap) = C at *
  have w1 : ∀ h, byVal (callW gp) h fid.gussetlaw10_short [.agg (rtc (rt x))] = some (.bool true) := fun h => by rw [ks, decide_eq_true q1]
  have w2 : ∀ h, byVal (callW gp) h fid.gussetlaw10_short [.agg (rtc (rt y))] = some (.bool true) := fun h => by rw [ks, decide_eq_true q2]
  have w3 : ∀ h, byVal (callW gp) h fid.gussetlaw10_short [.agg (rtc (rt κ))] = some (.bool true) := fun h => by rw [ks, decide_eq_true q3]
  have r0 : readCells (ptc ((rt x, rt y))) (some 3) = some (.agg (rtc (rt x))) := rc_pt0
  have r3 : readCells (List.drop 3 (ptc ((rt x, rt y)))) (some 3) = some (.agg (rtc (rt y))) := rc_pt3
  have r6 : readCells (ptc ((rt x, rt y))) (some 6) = some (.agg (ptc ((rt x, rt y)))) := rc_pt6
  have c4' : ∀ h, byVal (callW gp) h fid.gussetref04_Check [.agg (ptc ((rt x, rt y)))] = some (.int .i64 0) := c4
  simp (disch := first | exact dD | fail) only [Wd, W2d, W3d, Nat.reduceAdd, Nat.reduceMul, Nat.reduceSub, fa, rc39, kb, lv, r0, r3, r6, rc_r3, w1, w2, w3, c4', neqF, c3, c5, e6, kf, eqlF n1, eqlF n5, cc, st]
  exact bb
end Go.Proofs.YtechbfodaallkaaGreat.Am
