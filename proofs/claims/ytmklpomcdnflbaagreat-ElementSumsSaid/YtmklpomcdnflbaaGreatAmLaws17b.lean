import Derived.Test.YtmklpomcdnflbaaGreatAmLaws17
/- The laws of section 17: slopes and jumps. -/
set_option linter.unusedVariables false
set_option maxRecDepth 10000
set_option linter.unusedSimpArgs false
namespace Go.Proofs.YtmklpomcdnflbaaGreat.Am
open Go
theorem aidx_3 {sz len id o : Nat} {k : IntKind} (h : 3 < len) : opAidx sz len (.rp id o) (.int k 3) = some (.rp id (o + 3 * sz)) := by
  show (if 0 ≤ (3 : Int) ∧ (3 : Int) < (len : Int) then some (AV.rp id (o + Int.toNat 3 * sz)) else none) = _
  rw [if_pos ⟨by omega, by omega⟩]; simp
theorem sidx_2 {sz n : Nat} {f : Bool} {cs : List AV} {k : IntKind} (h : 2 < n) : opSidx sz (.is n f cs) (.int k 2) = some (.ip (cs.drop (2 * sz))) := sidx_is (by omega) (by omega)
theorem sidx_3 {sz n : Nat} {f : Bool} {cs : List AV} {k : IntKind} (h : 3 < n) : opSidx sz (.is n f cs) (.int k 3) = some (.ip (cs.drop (3 * sz))) := sidx_is (by omega) (by omega)
theorem ad3 : opBin .add (.int .i64 3) (.int .i64 1) = some (.int .i64 4) := Eq.trans rfl rfl
theorem u3_rat {t : U3} (ht : t.ok) (s1 : sh1 t.1) (s2 : sh1 t.2.1) (s3 : sh1 t.2.2) (h : nume t = 0) : ∃ u0 u1 u2, t = (rt u0, rt u1, rt u2) ∧ Rz u0 30 ∧ Rz u1 30 ∧ Rz u2 30 := by
  obtain ⟨p, q, r⟩ := t
  obtain ⟨hp, hq, hr⟩ := ht
  simp only at hp hq hr s1 s2 s3
  rw [nume_eq] at h
  simp only at h
  by_cases z1 : p.chk = 0
  · rw [if_pos z1] at h
    by_cases z2 : q.chk = 0
    · rw [if_pos z2] at h
      obtain ⟨u0, rfl, r0⟩ := RT.ratz hp z1 s1
      obtain ⟨u1, rfl, r1⟩ := RT.ratz hq z2 s2
      obtain ⟨u2, rfl, r2⟩ := RT.ratz hr h s3
      exact ⟨u0, u1, u2, rfl, r0, r1, r2⟩
    · rw [if_neg z2] at h; exact absurd h z2
  · rw [if_neg z1] at h; exact absurd h z1

theorem elementSlopes_cv (t : T3) (u : U3) (ht : t.ok) (hu : u.ok) : cv gp fid.gussetlaw17_ElementSlopes [.agg (t3c t), .agg (u3c u)] = some (.bool true) := by
  obtain ⟨a, b, c⟩ := t
  obtain ⟨ha, hb, hc⟩ := ht
  simp only at ha hb hc
  rw [gussetlaw17_ElementSlopes.eq]
  unfold gussetlaw17_ElementSlopes.f gussetlaw17_ElementSlopes.j0 gussetlaw17_ElementSlopes.j1
  have fw := fun H => few3 (a := a) (b := b) (c := c) (H := some (ptc a ++ ptc b ++ ptc c) :: H) (x := .rs 6 0 0 3) rfl
  have ak := fun H => ask3 (H := some (ptc a ++ ptc b ++ ptc c) :: H) (x := .rs 6 0 0 3) ha hb hc rfl
  have c0 := fun h => c_short17 (h := h) (t := u.1)
  have c1 := fun h => c_short17 (h := h) (t := u.2.1)
  have c2 := fun h => c_short17 (h := h) (t := u.2.2)
  by_cases hs : fewP [a, b, c]
  rotate_left
  · rw [decide_eq_false hs] at fw
    clear hs ak c0 c1 c2
    unfold t3c u3c ptc rtc at *
    simp only [List.cons_append, List.nil_append] at *
    simp (disch := first | first | exact dD | fail | rfl | with_unfolding_all rfl) only [Wd, W2d, W3d, Nat.reduceAdd, Nat.reduceMul, Nat.reduceSub, lc0, lc1, lc2, lc3, ad0, ad1, ad2, aidx_0, aidx_1, aidx_2, arrs_rp, rc18, rc27, rc9, rc24', fw, live17_by]
  rw [decide_eq_true hs] at fw
  obtain ⟨sa, sb, sc⟩ := few3_iff hs
  clear hs
  by_cases s0 : sh1 u.1
  rotate_left
  · rw [decide_eq_false s0] at c0
    clear ak c1 c2
    unfold t3c u3c ptc rtc at *
    simp only [List.cons_append, List.nil_append] at *
    simp (disch := first | first | exact dD | fail | rfl | with_unfolding_all rfl) only [Wd, W2d, W3d, Nat.reduceAdd, Nat.reduceMul, Nat.reduceSub, lc0, lc1, lc2, lc3, ad0, ad1, ad2, aidx_0, aidx_1, aidx_2, arrs_rp, rc18, rc27, rc9, rc24', fw, c0, live17_by]
  rw [decide_eq_true s0] at c0
  by_cases s1 : sh1 u.2.1
  rotate_left
  · rw [decide_eq_false s1] at c1
    clear ak c2
    unfold t3c u3c ptc rtc at *
    simp only [List.cons_append, List.nil_append] at *
    simp (disch := first | first | exact dD | fail | rfl | with_unfolding_all rfl) only [Wd, W2d, W3d, Nat.reduceAdd, Nat.reduceMul, Nat.reduceSub, lc0, lc1, lc2, lc3, ad0, ad1, ad2, aidx_0, aidx_1, aidx_2, arrs_rp, rc18, rc27, rc9, rc24', fw, c0, c1, live17_by]
  rw [decide_eq_true s1] at c1
  by_cases s2 : sh1 u.2.2
  rotate_left
  · rw [decide_eq_false s2] at c2
    clear ak
    unfold t3c u3c ptc rtc at *
    simp only [List.cons_append, List.nil_append] at *
    simp (disch := first | first | exact dD | fail | rfl | with_unfolding_all rfl) only [Wd, W2d, W3d, Nat.reduceAdd, Nat.reduceMul, Nat.reduceSub, lc0, lc1, lc2, lc3, ad0, ad1, ad2, aidx_0, aidx_1, aidx_2, arrs_rp, rc18, rc27, rc9, rc24', fw, c0, c1, c2, live17_by]
  rw [decide_eq_true s2] at c2
  have nu := fun h => k_17num (h := h) hu ⟨by have := s0.1; omega, by have := s0.2; omega⟩ ⟨by have := s1.1; omega, by have := s1.2; omega⟩ ⟨by have := s2.1; omega, by have := s2.2; omega⟩
  by_cases h0 : asC a b c = 0
  rotate_left
  · have k1 := fun h => k_slopeE (h := h) (t := u) ha hb hc h0
    change ∀ h, _ = some (AV.tup [_, AV.int .i64 (asC a b c)]) at k1
    generalize asC a b c = e at *
    clear nu s0 s1 s2 hu
    unfold t3c u3c ptc rtc at *
    simp only [List.cons_append, List.nil_append] at *
    simp (disch := first | first | exact dD | fail | rfl | with_unfolding_all rfl) only [Wd, W2d, W3d, Nat.reduceAdd, Nat.reduceMul, Nat.reduceSub, lc0, lc1, lc2, lc3, ad0, ad1, ad2, aidx_0, aidx_1, aidx_2, arrs_rp, rc18, rc27, rc9, rc24', fw, ak, c0, c1, c2, k1, live17_by, eqa_z6q]
  rw [h0] at ak
  obtain ⟨z1, z2, z3⟩ := asC_zero h0
  obtain ⟨ax, ay, rfl, h1, h2⟩ := pt_rat ha sa z1
  obtain ⟨bx, b_, rfl, h3, h4⟩ := pt_rat hb sb z2
  obtain ⟨cx, cy, rfl, h5, h6⟩ := pt_rat hc sc z3
  have n1 := h1.mono (m := 100) (by omega)
  have n2 := h2.mono (m := 100) (by omega)
  have n3 := h3.mono (m := 100) (by omega)
  have n4 := h4.mono (m := 100) (by omega)
  have n5 := h5.mono (m := 100) (by omega)
  have n6 := h6.mono (m := 100) (by omega)
  have m1 := h1.mono (m := 2000) (by omega)
  have m2 := h2.mono (m := 2000) (by omega)
  have m3 := h3.mono (m := 2000) (by omega)
  have m4 := h4.mono (m := 2000) (by omega)
  have m5 := h5.mono (m := 2000) (by omega)
  have m6 := h6.mono (m := 2000) (by omega)
  clear sa sb sc z1 z2 z3 h0 ha hb hc
  by_cases hn : nume u = 0
  rotate_left
  · have k1 := fun h => k_slopeN (h := h) n1 n2 n3 n4 n5 n6 hu ⟨by have := s0.1; omega, by have := s0.2; omega⟩ ⟨by have := s1.1; omega, by have := s1.2; omega⟩ ⟨by have := s2.1; omega, by have := s2.2; omega⟩ hn
    generalize nume u = e at *
    clear s0 s1 s2 hu
    unfold t3c u3c ptc rtc rt at *
    simp only [List.cons_append, List.nil_append] at *
    simp (disch := first | first | exact dD | fail | rfl | with_unfolding_all rfl) only [Wd, W2d, W3d, Nat.reduceAdd, Nat.reduceMul, Nat.reduceSub, lc0, lc1, lc2, lc3, ad0, ad1, ad2, aidx_0, aidx_1, aidx_2, arrs_rp, rc18, rc27, rc9, rc24', fw, ak, c0, c1, c2, nu, k1, live17_by, eqa_z6q]
  rw [hn] at nu
  obtain ⟨u0, u1, u2, rfl, g0, g1, g2⟩ := u3_rat hu s0 s1 s2 hn
  have w0 := g0.mono (m := 200) (by omega)
  have w1 := g1.mono (m := 200) (by omega)
  have w2 := g2.mono (m := 200) (by omega)
  clear s0 s1 s2 hu hn
  by_cases q : area ax ay bx b_ cx cy = 0
  · have k1 := fun h => k_slope0 (h := h) n1 n2 n3 n4 n5 n6 w0 w1 w2 q
    have q0 := rsgn_zero.2 q
    clear q
    unfold t3c u3c ptc rtc rt at *
    simp only [List.cons_append, List.nil_append] at *
    simp (disch := first | first | exact dD | fail | rfl | with_unfolding_all rfl) only [Wd, W2d, W3d, Nat.reduceAdd, Nat.reduceMul, Nat.reduceSub, lc0, lc1, lc2, lc3, ad0, ad1, ad2, aidx_0, aidx_1, aidx_2, arrs_rp, rc18, rc27, rc9, rc24', fw, ak, c0, c1, c2, nu, k1, k_5orient, q0, live17_by, eqa_z6q]
  · have k1 := fun h => k_slope (h := h) n1 n2 n3 n4 n5 n6 w0 w1 w2 q
    have k2 := fun h => k_17slope (h := h) n1 n2 n3 n4 n5 n6 w0 w1 w2 q
    have q0 : ¬ rsgn (area ax ay bx b_ cx cy) = 0 := fun h => q (rsgn_zero.1 h)
    clear q
    generalize slX ax ay bx b_ cx cy u0 u1 u2 = X at *
    generalize slY ax ay bx b_ cx cy u0 u1 u2 = Y at *
    unfold corn at k2
    unfold t3c u3c ptc rtc rt at *
    simp only [List.cons_append, List.nil_append] at *
    simp (disch := first | first | exact dD | fail | rfl | with_unfolding_all rfl) only [Wd, W2d, W3d, Nat.reduceAdd, Nat.reduceMul, Nat.reduceSub, lc0, lc1, lc2, lc3, ad0, ad1, ad2, aidx_0, aidx_1, aidx_2, arrs_rp, rc18, rc27, rc9, rc24', fw, ak, c0, c1, c2, nu, k1, k2, k_5orient, q0, live17_by, eqa_p, and_self]

section
variable {h : Heap} {ax ay bx b_ cx cy dx dy : Rat}
theorem k_jump (h1 : Rz ax 100) (h2 : Rz ay 100) (h3 : Rz bx 100) (h4 : Rz b_ 100) (h5 : Rz cx 100) (h6 : Rz cy 100) (h7 : Rz dx 100) (h8 : Rz dy 100) : byVal (callW gp) h fid.element_Jump2 [pa ax ay, pa bx b_, pa cx cy, pa dx dy] = some (.tup [ra (((dx - cx) * (ay - b_) - (dy - cy) * (ax - bx)) * ((dx - cx) * (ay - b_) - (dy - cy) * (ax - bx))), .int .i64 0]) := byVal_imm (imm_L4' imm_pa imm_pa imm_pa imm_pa) (by
  rw [element_Jump2.eq]
  unfold element_Jump2.f
  have g1 := h1.mono (m := 8000) (by omega)
  have g2 := h2.mono (m := 8000) (by omega)
  have g3 := h3.mono (m := 8000) (by omega)
  have g4 := h4.mono (m := 8000) (by omega)
  have g5 := h5.mono (m := 8000) (by omega)
  have g6 := h6.mono (m := 8000) (by omega)
  have g7 := h7.mono (m := 8000) (by omega)
  have g8 := h8.mono (m := 8000) (by omega)
  have d1 := (h7.sub h5).mono (m := 3900) (by omega)
  have d2 := (h2.sub h4).mono (m := 3900) (by omega)
  have d3 := (h8.sub h6).mono (m := 3900) (by omega)
  have d4 := (h1.sub h3).mono (m := 3900) (by omega)
  have d5 : Rz ((dx - cx) * (ay - b_) - (dy - cy) * (ax - bx)) 8000 := (((h7.sub h5).mul (h2.sub h4)).sub ((h8.sub h6).mul (h1.sub h3))).mono (by omega)
  have o1 := fun h => k_orient (h := h) h1 h2 h1 h2 h1 h2
  have o2 := fun h => k_orient (h := h) h3 h4 h3 h4 h3 h4
  have o3 := fun h => k_orient (h := h) h5 h6 h5 h6 h5 h6
  have o4 := fun h => k_orient (h := h) h7 h8 h7 h8 h7 h8
  simp (disch := first | exact dD | fail) only [Wd, W2d, W3d, Nat.reduceAdd, Nat.reduceMul, Nat.reduceSub, lc0, lc1, lc2, lc3, ad0, ad1, ad2, aidx_0, aidx_1, aidx_2, arrs_rp, rc18, rc27, rc9, rc24', sidx_2, sidx_3, ad3]
  rw [element_Jump2.l0_eq]
  simp (disch := first | exact dD | fail) only [Wd, W2d, W3d, Nat.reduceAdd, Nat.reduceMul, Nat.reduceSub, lc0, lc1, lc2, lc3, ad0, ad1, ad2, aidx_0, aidx_1, aidx_2, arrs_rp, rc18, rc27, rc9, rc24', sidx_2, sidx_3, ad3, o1, o2, o3, o4]
  rw [element_Jump2.l0_eq]
  simp (disch := first | exact dD | fail) only [Wd, W2d, W3d, Nat.reduceAdd, Nat.reduceMul, Nat.reduceSub, lc0, lc1, lc2, lc3, ad0, ad1, ad2, aidx_0, aidx_1, aidx_2, arrs_rp, rc18, rc27, rc9, rc24', sidx_2, sidx_3, ad3, o1, o2, o3, o4]
  rw [element_Jump2.l0_eq]
  simp (disch := first | exact dD | fail) only [Wd, W2d, W3d, Nat.reduceAdd, Nat.reduceMul, Nat.reduceSub, lc0, lc1, lc2, lc3, ad0, ad1, ad2, aidx_0, aidx_1, aidx_2, arrs_rp, rc18, rc27, rc9, rc24', sidx_2, sidx_3, ad3, o1, o2, o3, o4]
  rw [element_Jump2.l0_eq]
  simp (disch := first | exact dD | fail) only [Wd, W2d, W3d, Nat.reduceAdd, Nat.reduceMul, Nat.reduceSub, lc0, lc1, lc2, lc3, ad0, ad1, ad2, aidx_0, aidx_1, aidx_2, arrs_rp, rc18, rc27, rc9, rc24', sidx_2, sidx_3, ad3, o1, o2, o3, o4]
  rw [element_Jump2.l0_eq]
  simp (disch := first | exact dD | fail) only [Wd, W2d, W3d, Nat.reduceAdd, Nat.reduceMul, Nat.reduceSub, lc0, lc1, lc2, lc3, ad0, ad1, ad2, aidx_0, aidx_1, aidx_2, arrs_rp, rc18, rc27, rc9, rc24', sidx_2, sidx_3, ad3, c_eminus, k_cross, k_rmul])
theorem k_17jump (h1 : Rz ax 100) (h2 : Rz ay 100) (h3 : Rz bx 100) (h4 : Rz b_ 100) (h5 : Rz cx 100) (h6 : Rz cy 100) (h7 : Rz dx 100) (h8 : Rz dy 100) : byVal (callW gp) h fid.gussetref17_Jump2 [pa ax ay, pa bx b_, pa cx cy, pa dx dy] = some (ra (((dx - cx) * (ay - b_) - (dy - cy) * (ax - bx)) * ((dx - cx) * (ay - b_) - (dy - cy) * (ax - bx)))) := byVal_imm (imm_L4' imm_pa imm_pa imm_pa imm_pa) (by
  rw [gussetref17_Jump2.eq]
  unfold gussetref17_Jump2.f
  have g1 := h1.mono (m := 20000) (by omega)
  have g2 := h2.mono (m := 20000) (by omega)
  have g3 := h3.mono (m := 20000) (by omega)
  have g4 := h4.mono (m := 20000) (by omega)
  have g5 := h5.mono (m := 20000) (by omega)
  have g6 := h6.mono (m := 20000) (by omega)
  have g7 := h7.mono (m := 20000) (by omega)
  have g8 := h8.mono (m := 20000) (by omega)
  have d1 := (h7.sub h5).mono (m := 9000) (by omega)
  have d2 := (h2.sub h4).mono (m := 9000) (by omega)
  have d3 := (h8.sub h6).mono (m := 9000) (by omega)
  have d4 := (h1.sub h3).mono (m := 9000) (by omega)
  have d5 : Rz ((dx - cx) * (ay - b_) - (dy - cy) * (ax - bx)) 20000 := (((h7.sub h5).mul (h2.sub h4)).sub ((h8.sub h6).mul (h1.sub h3))).mono (by omega)
  simp (disch := first | exact dD | fail) only [Wd, W2d, W3d, Nat.reduceAdd, Nat.reduceMul, Nat.reduceSub, lc0, lc1, lc2, lc3, ad0, ad1, ad2, aidx_0, aidx_1, aidx_2, arrs_rp, rc18, rc27, rc9, rc24', sidx_2, sidx_3, ad3, k_4minus, k_4cross, k_3sq])
theorem k_jumpE {a b c d : PT} (ha : a.ok) (hb : b.ok) (hc : c.ok) (hd : d.ok) (hne : asD a b c d ≠ 0) : byVal (callW gp) h fid.element_Jump2 [.agg (ptc a), .agg (ptc b), .agg (ptc c), .agg (ptc d)] = some (.tup [.agg [.bool false, str [], str []], .int .i64 (asD a b c d)]) := byVal_imm (imm_L4' imm_pt imm_pt imm_pt imm_pt) (by
  obtain ⟨y1, o1⟩ := k_orient1 ha
  obtain ⟨y2, o2⟩ := k_orient1 hb
  obtain ⟨y3, o3⟩ := k_orient1 hc
  obtain ⟨y4, o4⟩ := k_orient1 hd
  rw [asD_eq] at hne ⊢
  rw [element_Jump2.eq]
  unfold element_Jump2.f
  generalize askc a = e1 at *
  generalize askc b = e2 at *
  generalize askc c = e3 at *
  generalize askc d = e4 at *
  unfold ptc rtc at *
  simp only [List.cons_append, List.nil_append] at *
  simp (disch := first | exact dD | fail) only [Wd, W2d, W3d, Nat.reduceAdd, Nat.reduceMul, Nat.reduceSub, lc0, lc1, lc2, lc3, ad0, ad1, ad2, aidx_0, aidx_1, aidx_2, arrs_rp, rc18, rc27, rc9, rc24', sidx_2, sidx_3, ad3]
  rw [element_Jump2.l0_eq]
  by_cases q1 : e1 = 0
  rotate_left
  · simp only [if_neg q1]
    simp (disch := first | exact dD | fail) only [Wd, W2d, W3d, Nat.reduceAdd, Nat.reduceMul, Nat.reduceSub, lc0, lc1, lc2, lc3, ad0, ad1, ad2, aidx_0, aidx_1, aidx_2, arrs_rp, rc18, rc27, rc9, rc24', sidx_2, sidx_3, ad3, o1, str_nil]
  simp only [if_pos q1] at hne ⊢
  subst q1
  simp (disch := first | exact dD | fail) only [Wd, W2d, W3d, Nat.reduceAdd, Nat.reduceMul, Nat.reduceSub, lc0, lc1, lc2, lc3, ad0, ad1, ad2, aidx_0, aidx_1, aidx_2, arrs_rp, rc18, rc27, rc9, rc24', sidx_2, sidx_3, ad3, o1]
  rw [element_Jump2.l0_eq]
  by_cases q2 : e2 = 0
  rotate_left
  · simp only [if_neg q2]
    simp (disch := first | exact dD | fail) only [Wd, W2d, W3d, Nat.reduceAdd, Nat.reduceMul, Nat.reduceSub, lc0, lc1, lc2, lc3, ad0, ad1, ad2, aidx_0, aidx_1, aidx_2, arrs_rp, rc18, rc27, rc9, rc24', sidx_2, sidx_3, ad3, o2, str_nil]
  simp only [if_pos q2] at hne ⊢
  subst q2
  simp (disch := first | exact dD | fail) only [Wd, W2d, W3d, Nat.reduceAdd, Nat.reduceMul, Nat.reduceSub, lc0, lc1, lc2, lc3, ad0, ad1, ad2, aidx_0, aidx_1, aidx_2, arrs_rp, rc18, rc27, rc9, rc24', sidx_2, sidx_3, ad3, o2]
  rw [element_Jump2.l0_eq]
  by_cases q3 : e3 = 0
  rotate_left
  · simp only [if_neg q3]
    simp (disch := first | exact dD | fail) only [Wd, W2d, W3d, Nat.reduceAdd, Nat.reduceMul, Nat.reduceSub, lc0, lc1, lc2, lc3, ad0, ad1, ad2, aidx_0, aidx_1, aidx_2, arrs_rp, rc18, rc27, rc9, rc24', sidx_2, sidx_3, ad3, o3, str_nil]
  simp only [if_pos q3] at hne ⊢
  subst q3
  simp (disch := first | exact dD | fail) only [Wd, W2d, W3d, Nat.reduceAdd, Nat.reduceMul, Nat.reduceSub, lc0, lc1, lc2, lc3, ad0, ad1, ad2, aidx_0, aidx_1, aidx_2, arrs_rp, rc18, rc27, rc9, rc24', sidx_2, sidx_3, ad3, o3]
  rw [element_Jump2.l0_eq]
  simp (disch := first | exact dD | fail) only [Wd, W2d, W3d, Nat.reduceAdd, Nat.reduceMul, Nat.reduceSub, lc0, lc1, lc2, lc3, ad0, ad1, ad2, aidx_0, aidx_1, aidx_2, arrs_rp, rc18, rc27, rc9, rc24', sidx_2, sidx_3, ad3, o4, str_nil])
end
theorem elementJumps_cv (t : T4) (ht : t.ok) : cv gp fid.gussetlaw17_ElementJumps [.agg (t4c t)] = some (.bool true) := by
  obtain ⟨a, b, c, d⟩ := t
  obtain ⟨ha, hb, hc, hd⟩ := ht
  simp only at ha hb hc hd
  rw [gussetlaw17_ElementJumps.eq]
  unfold gussetlaw17_ElementJumps.f
  have fw := fun H => few4 (a := a) (b := b) (c := c) (d := d) (H := some (ptc a ++ ptc b ++ ptc c ++ ptc d) :: H) (x := .rs 6 0 0 4) rfl
  have ak := fun H => ask4 (H := some (ptc a ++ ptc b ++ ptc c ++ ptc d) :: H) (x := .rs 6 0 0 4) ha hb hc hd rfl
  by_cases hs : fewP [a, b, c, d]
  rotate_left
  · rw [decide_eq_false hs] at fw
    clear hs ak
    unfold t4c ptc rtc at *
    simp only [List.cons_append, List.nil_append] at *
    simp (disch := first | first | exact dD | fail | rfl | with_unfolding_all rfl) only [Wd, W2d, W3d, Nat.reduceAdd, Nat.reduceMul, Nat.reduceSub, lc0, lc1, lc2, lc3, ad0, ad1, ad2, aidx_0, aidx_1, aidx_2, arrs_rp, rc18, rc27, rc9, rc24', sidx_2, sidx_3, ad3, fw, live17_by]
  rw [decide_eq_true hs] at fw
  obtain ⟨sa, sb, sc, sd⟩ := few4_iff hs
  clear hs
  by_cases h0 : asD a b c d = 0
  rotate_left
  · have k1 := fun h => k_jumpE (h := h) ha hb hc hd h0
    generalize asD a b c d = e at *
    unfold t4c ptc rtc at *
    simp only [List.cons_append, List.nil_append] at *
    simp (disch := first | first | exact dD | fail | rfl | with_unfolding_all rfl) only [Wd, W2d, W3d, Nat.reduceAdd, Nat.reduceMul, Nat.reduceSub, lc0, lc1, lc2, lc3, ad0, ad1, ad2, aidx_0, aidx_1, aidx_2, arrs_rp, rc18, rc27, rc9, rc24', sidx_2, sidx_3, ad3, aidx_3, fw, ak, k1, live17_by, eqa_z3q]
  rw [h0] at ak
  obtain ⟨z1, z2, z3, z4⟩ := asD_zero h0
  obtain ⟨ax, ay, rfl, h1, h2⟩ := pt_rat ha sa z1
  obtain ⟨bx, b_, rfl, h3, h4⟩ := pt_rat hb sb z2
  obtain ⟨cx, cy, rfl, h5, h6⟩ := pt_rat hc sc z3
  obtain ⟨dx, dy, rfl, h7, h8⟩ := pt_rat hd sd z4
  have n1 := h1.mono (m := 100) (by omega)
  have n2 := h2.mono (m := 100) (by omega)
  have n3 := h3.mono (m := 100) (by omega)
  have n4 := h4.mono (m := 100) (by omega)
  have n5 := h5.mono (m := 100) (by omega)
  have n6 := h6.mono (m := 100) (by omega)
  have n7 := h7.mono (m := 100) (by omega)
  have n8 := h8.mono (m := 100) (by omega)
  clear sa sb sc sd z1 z2 z3 z4 h0 ha hb hc hd
  have k1 := fun h => k_jump (h := h) n1 n2 n3 n4 n5 n6 n7 n8
  have k2 := fun h => k_17jump (h := h) n1 n2 n3 n4 n5 n6 n7 n8
  have k3 := fun h => k_jump (h := h) n3 n4 n1 n2 n7 n8 n5 n6
  have e : ((cx - dx) * (b_ - ay) - (cy - dy) * (bx - ax)) * ((cx - dx) * (b_ - ay) - (cy - dy) * (bx - ax)) = ((dx - cx) * (ay - b_) - (dy - cy) * (ax - bx)) * ((dx - cx) * (ay - b_) - (dy - cy) * (ax - bx)) := by grind
  rw [e] at k3
  generalize ((dx - cx) * (ay - b_) - (dy - cy) * (ax - bx)) * ((dx - cx) * (ay - b_) - (dy - cy) * (ax - bx)) = W at *
  clear e
  unfold t4c ptc rtc rt at *
  simp only [List.cons_append, List.nil_append] at *
  simp (disch := first | first | exact dD | fail | rfl | with_unfolding_all rfl) only [Wd, W2d, W3d, Nat.reduceAdd, Nat.reduceMul, Nat.reduceSub, lc0, lc1, lc2, lc3, ad0, ad1, ad2, aidx_0, aidx_1, aidx_2, arrs_rp, rc18, rc27, rc9, rc24', sidx_2, sidx_3, ad3, aidx_3, fw, ak, k1, k2, k3, live17_by, eqa_r]

end Go.Proofs.YtmklpomcdnflbaaGreat.Am