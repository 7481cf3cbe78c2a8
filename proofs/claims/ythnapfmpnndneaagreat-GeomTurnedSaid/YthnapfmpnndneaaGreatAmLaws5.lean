import Derived.Test.YthnapfmpnndneaaGreatAmSm5
/- The laws of layer 5. -/
set_option linter.unusedVariables false
set_option maxRecDepth 10000
set_option linter.unusedSimpArgs false
namespace Go.Proofs.YthnapfmpnndneaaGreat.Am
open Go

theorem eqa_z6p : opEqa false [.b, .s, .s, .b, .s, .s] (.agg [.bool false, str [], str [], .bool false, str [], str []]) (.agg [.bool false, .str ⟨#[]⟩, .str ⟨#[]⟩, .bool false, .str ⟨#[]⟩, .str ⟨#[]⟩]) = some (.bool true) := by kernel_rfl
theorem rsgn_neg {q : Rat} : rsgn (-q) = -(rsgn q) := by
  have h1 := @rsgn_lt q
  have h2 := @rsgn_lt (-q)
  have h3 := @rsgn_zero q
  have h4 := @rsgn_zero (-q)
  have b1 := rsgn_bd q
  have b2 := rsgn_bd (-q)
  rcases (by omega : rsgn q = -1 ∨ rsgn q = 0 ∨ rsgn q = 1) with h | h | h
  · have : ¬ rsgn (-q) < 0 := fun h' => by have := h1.1 (by omega); have := h2.1 h'; grind
    have : ¬ rsgn (-q) = 0 := fun h' => by have := h1.1 (by omega); have := h4.1 h'; grind
    omega
  · rw [h3.1 h]; decide
  · have n1 : ¬ q < 0 := fun h' => by have := h1.2 h'; omega
    have n2 : ¬ q = 0 := fun h' => by have := h3.2 h'; omega
    have : rsgn (-q) < 0 := h2.2 (by grind)
    omega
def asC (a b c : PT) : Int := firstE ([a, b, c].map askc)
def asD (a b c d : PT) : Int := firstE ([a, b, c, d].map askc)
theorem asD_eq {a b c d : PT} : asD a b c d = if asC a b c = 0 then askc d else asC a b c := firstE4
theorem asC_rat {ax ay bx b_ cx cy : Rat} (h1 : Rz ax 100) (h2 : Rz ay 100) (h3 : Rz bx 100) (h4 : Rz b_ 100) (h5 : Rz cx 100) (h6 : Rz cy 100) : asC (rt ax, rt ay) (rt bx, rt b_) (rt cx, rt cy) = 0 := by
  unfold asC; rw [firstE3, askc_rat h1 h2, askc_rat h3 h4, askc_rat h5 h6]; rfl
theorem asC_zero {a b c : PT} (h : asC a b c = 0) : askc a = 0 ∧ askc b = 0 ∧ askc c = 0 := by
  unfold asC at h
  rw [firstE3] at h
  by_cases h1 : askc a = 0 <;> by_cases h2 : askc b = 0 <;> simp [h1, h2] at h ⊢
  exact h
theorem asD_zero {a b c d : PT} (h : asD a b c d = 0) : askc a = 0 ∧ askc b = 0 ∧ askc c = 0 ∧ askc d = 0 := by
  rw [asD_eq] at h
  by_cases h1 : asC a b c = 0
  · rw [if_pos h1] at h
    obtain ⟨q1, q2, q3⟩ := asC_zero h1
    exact ⟨q1, q2, q3, h⟩
  · rw [if_neg h1] at h
    exact absurd h h1
section
variable {h : Heap}
theorem as5_3 {a b c : PT} {f : Bool} (ha : a.ok) (hb : b.ok) (hc : c.ok) : byVal (callW gp) h fid.gussetref05_Asked [.is 3 f (ptc a ++ ptc b ++ ptc c)] = some (.int .i64 (asC a b c)) := by
  have pts := k_5asked (h := h) (xs := [a, b, c]) (f := f) (ok3 ha hb hc) (by simp)
  have e : [a, b, c].flatMap ptc = ptc a ++ ptc b ++ ptc c := by simp
  rw [e] at pts
  exact pts
theorem as5_4 {a b c d : PT} {f : Bool} (ha : a.ok) (hb : b.ok) (hc : c.ok) (hd : d.ok) : byVal (callW gp) h fid.gussetref05_Asked [.is 4 f (ptc a ++ ptc b ++ ptc c ++ ptc d)] = some (.int .i64 (asD a b c d)) := by
  have pts := k_5asked (h := h) (xs := [a, b, c, d]) (f := f) (ok4 ha hb hc hd) (by simp)
  have e : [a, b, c, d].flatMap ptc = ptc a ++ ptc b ++ ptc c ++ ptc d := by simp
  rw [e] at pts
  exact pts
theorem orE {a b c : PT} (ha : a.ok) (hb : b.ok) (hc : c.ok) (h0 : asC a b c ≠ 0) : byVal (callW gp) h fid.geom_Orient [.agg (ptc a), .agg (ptc b), .agg (ptc c)] = some (.tup [.int .i64 0, .int .i64 (asC a b c)]) := k_orientE ha hb hc h0
theorem diE {a b c : PT} (ha : a.ok) (hb : b.ok) (hc : c.ok) (h0 : asC a b c ≠ 0) : byVal (callW gp) h fid.geom_Disc [.agg (ptc a), .agg (ptc b), .agg (ptc c)] = some (.tup [.int .i64 0, .int .i64 (asC a b c)]) := k_gdiscE ha hb hc h0
theorem onE {a b c : PT} (ha : a.ok) (hb : b.ok) (hc : c.ok) (h0 : asC a b c ≠ 0) : byVal (callW gp) h fid.geom_On [.agg (ptc a), .agg (ptc b), .agg (ptc c)] = some (.tup [.bool false, .int .i64 (asC a b c)]) := k_gOnE ha hb hc h0
theorem meE {a b c d : PT} (ha : a.ok) (hb : b.ok) (hc : c.ok) (hd : d.ok) (h0 : asD a b c d ≠ 0) : byVal (callW gp) h fid.geom_Meet [.agg (ptc a), .agg (ptc b), .agg (ptc c), .agg (ptc d)] = some (.tup [.int .i64 0, .int .i64 (asD a b c d)]) := k_gmeetE ha hb hc hd h0
theorem crE {a b c d : PT} (ha : a.ok) (hb : b.ok) (hc : c.ok) (hd : d.ok) (h0 : asD a b c d ≠ 0) : byVal (callW gp) h fid.geom_Crossing [.agg (ptc a), .agg (ptc b), .agg (ptc c), .agg (ptc d)] = some (.tup [.agg [.bool false, str [], str [], .bool false, str [], str []], .int .i64 (asD a b c d)]) := k_gcrossingE ha hb hc hd h0
theorem wiE {a b c d : PT} (ha : a.ok) (hb : b.ok) (hc : c.ok) (hd : d.ok) (h0 : asD a b c d ≠ 0) : byVal (callW gp) h fid.geom_Within [.agg (ptc a), .agg (ptc b), .agg (ptc c), .agg (ptc d)] = some (.tup [.int .i64 0, .int .i64 (asD a b c d)]) := k_gwithinE ha hb hc hd h0
theorem ciE {a b c d : PT} (ha : a.ok) (hb : b.ok) (hc : c.ok) (hd : d.ok) (h0 : asD a b c d ≠ 0) : byVal (callW gp) h fid.geom_Circle [.agg (ptc a), .agg (ptc b), .agg (ptc c), .agg (ptc d)] = some (.tup [.int .i64 0, .int .i64 (asD a b c d)]) := k_circleE ha hb hc hd h0
theorem rc_24 {a0 a1 a2 a3 a4 a5 a6 a7 a8 a9 b0 b1 b2 b3 b4 b5 b6 b7 b8 b9 c0 c1 c2 c3 : AV} {l : List AV} : readCells (a0 :: a1 :: a2 :: a3 :: a4 :: a5 :: a6 :: a7 :: a8 :: a9 :: b0 :: b1 :: b2 :: b3 :: b4 :: b5 :: b6 :: b7 :: b8 :: b9 :: c0 :: c1 :: c2 :: c3 :: l) (some 24) = some (.agg [a0, a1, a2, a3, a4, a5, a6, a7, a8, a9, b0, b1, b2, b3, b4, b5, b6, b7, b8, b9, c0, c1, c2, c3]) := Eq.trans rfl rfl
end



theorem geomMeets_cv (t : T4) (ht : t.ok) : cv gp fid.gussetlaw05_GeomMeets [.agg (t4c t)] = some (.bool true) := by
  obtain ⟨a, b, c, d⟩ := t
  obtain ⟨ha, hb, hc, hd⟩ := ht
  simp only at ha hb hc hd
  rw [gussetlaw05_GeomMeets.eq]
  unfold gussetlaw05_GeomMeets.f
  have sm := fun h => c_small5 (h := h) (t := (a, b, c, d))
  by_cases hs : sm8 (a, b, c, d)
  rotate_left
  · rw [decide_eq_false hs] at sm
    clear hs
    unfold t4c ptc rtc at *
    simp only [List.cons_append, List.nil_append] at *
    simp (disch := first | exact dD | fail) only [Wd, W2d, W3d, Nat.reduceAdd, Nat.reduceMul, Nat.reduceSub, rc_24, sm, live5_by]
  rw [decide_eq_true hs] at sm
  obtain ⟨sa, sb, sc, sd⟩ := hs
  simp only at sa sb sc sd
  have ak := fun h f => as5_4 (h := h) (f := f) ha hb hc hd
  by_cases h0 : asD a b c d = 0
  rotate_left
  · have k1 := fun h => meE (h := h) ha hb hc hd h0
    have k2 := fun h => crE (h := h) ha hb hc hd h0
    generalize asD a b c d = e at *
    unfold t4c ptc rtc at *
    simp only [List.cons_append, List.nil_append] at *
    simp (disch := first | exact dD | fail) only [Wd, W2d, W3d, Nat.reduceAdd, Nat.reduceMul, Nat.reduceSub, rc_24, sm, live5_by, ak, k1, k2, eqa_z6p]
  rw [h0] at ak
  obtain ⟨z1, z2, z3, z4⟩ := asD_zero h0
  obtain ⟨ax, ay, rfl, h1, h2⟩ := pt_rat ha sa z1
  obtain ⟨bx, b_, rfl, h3, h4⟩ := pt_rat hb sb z2
  obtain ⟨cx, cy, rfl, h5, h6⟩ := pt_rat hc sc z3
  obtain ⟨dx, dy, rfl, h7, h8⟩ := pt_rat hd sd z4
  have n1 := h1.mono (m := 100) (by omega)
  have n2 := h2.mono (m := 100) (by omega)
  have n3 := h3.mono (m := 100) (by omega)
  have n4 := h4.mono (m := 100) (by omega)
  have n5 := h5.mono (m := 100) (by omega)
  have n6 := h6.mono (m := 100) (by omega)
  have n7 := h7.mono (m := 100) (by omega)
  have n8 := h8.mono (m := 100) (by omega)
  have m1 := h1.mono (m := 2000) (by omega)
  have m2 := h2.mono (m := 2000) (by omega)
  have m3 := h3.mono (m := 2000) (by omega)
  have m4 := h4.mono (m := 2000) (by omega)
  have m5 := h5.mono (m := 2000) (by omega)
  have m6 := h6.mono (m := 2000) (by omega)
  have m7 := h7.mono (m := 2000) (by omega)
  have m8 := h8.mono (m := 2000) (by omega)
  clear sa sb sc sd z1 z2 z3 z4 h0 ha hb hc hd
  by_cases q : (bx - ax) * (dy - cy) - (b_ - ay) * (dx - cx) = 0
  all_goals unfold t4c ptc rtc rt at *
  all_goals simp only [List.cons_append, List.nil_append] at *
  · simp (disch := first | exact dD | fail) only [Wd, W2d, W3d, Nat.reduceAdd, Nat.reduceMul, Nat.reduceSub, rc_24, sm, live5_by, ak, k_gmeet, k_gcrossing0, k_5crossing0, k_5meet, eqa_z6p]
  · simp (disch := first | exact dD | fail) only [Wd, W2d, W3d, Nat.reduceAdd, Nat.reduceMul, Nat.reduceSub, rc_24, sm, live5_by, ak, k_gmeet, k_gcrossing, k_5crossing, k_5meet, eqa_p, and_self]

theorem geomSigns_cv (t : T4) (ht : t.ok) : cv gp fid.gussetlaw05_GeomSigns [.agg (t4c t)] = some (.bool true) := by
  obtain ⟨a, b, c, d⟩ := t
  obtain ⟨ha, hb, hc, hd⟩ := ht
  simp only at ha hb hc hd
  rw [gussetlaw05_GeomSigns.eq]
  unfold gussetlaw05_GeomSigns.f
  have sm := fun h => c_small5 (h := h) (t := (a, b, c, d))
  by_cases hs : sm8 (a, b, c, d)
  rotate_left
  · rw [decide_eq_false hs] at sm
    clear hs
    unfold t4c ptc rtc at *
    simp only [List.cons_append, List.nil_append] at *
    simp (disch := first | exact dD | fail) only [Wd, W2d, W3d, Nat.reduceAdd, Nat.reduceMul, Nat.reduceSub, rc_24, sm, live5_by]
  rw [decide_eq_true hs] at sm
  obtain ⟨sa, sb, sc, sd⟩ := hs
  simp only at sa sb sc sd
  have ak := fun h f => as5_3 (h := h) (f := f) ha hb hc
  have al := fun h f => as5_4 (h := h) (f := f) ha hb hc hd
  by_cases h3 : asC a b c = 0
  rotate_left
  · have e4 : asD a b c d = asC a b c := by rw [asD_eq, if_neg h3]
    have h4 : asD a b c d ≠ 0 := by rw [e4]; exact h3
    have k1 := fun h => orE (h := h) ha hb hc h3
    have k2 := fun h => diE (h := h) ha hb hc h3
    have k3 := fun h => ciE (h := h) ha hb hc hd h4
    rw [e4] at al k3 h4
    clear e4
    generalize asC a b c = e at *
    unfold gussetlaw05_GeomSigns.j0
    unfold t4c ptc rtc at *
    simp only [List.cons_append, List.nil_append] at *
    simp (disch := first | exact dD | fail) only [Wd, W2d, W3d, Nat.reduceAdd, Nat.reduceMul, Nat.reduceSub, rc_24, sm, live5_by, ak, al, k1, k2, k3]
  rw [h3] at ak
  obtain ⟨z1, z2, z3⟩ := asC_zero h3
  obtain ⟨ax, ay, rfl, h1, h2⟩ := pt_rat ha sa z1
  obtain ⟨bx, b_, rfl, h3', h4'⟩ := pt_rat hb sb z2
  obtain ⟨cx, cy, rfl, h5, h6⟩ := pt_rat hc sc z3
  have n1 := h1.mono (m := 100) (by omega)
  have n2 := h2.mono (m := 100) (by omega)
  have n3 := h3'.mono (m := 100) (by omega)
  have n4 := h4'.mono (m := 100) (by omega)
  have n5 := h5.mono (m := 100) (by omega)
  have n6 := h6.mono (m := 100) (by omega)
  have m1 := h1.mono (m := 2000) (by omega)
  have m2 := h2.mono (m := 2000) (by omega)
  have m3 := h3'.mono (m := 2000) (by omega)
  have m4 := h4'.mono (m := 2000) (by omega)
  have m5 := h5.mono (m := 2000) (by omega)
  have m6 := h6.mono (m := 2000) (by omega)
  unfold gussetlaw05_GeomSigns.j0
  by_cases h4 : asD (rt ax, rt ay) (rt bx, rt b_) (rt cx, rt cy) d = 0
  rotate_left
  · have k3 := fun h => ciE (h := h) ha hb hc hd h4
    generalize asD (rt ax, rt ay) (rt bx, rt b_) (rt cx, rt cy) d = e at *
    clear sa sb sc sd z1 z2 z3 h3 ha hb hc hd
    unfold t4c ptc rtc rt at *
    simp only [List.cons_append, List.nil_append] at *
    simp (disch := first | exact dD | fail) only [Wd, W2d, W3d, Nat.reduceAdd, Nat.reduceMul, Nat.reduceSub, rc_24, sm, live5_by, ak, al, k_orient, k_gdisc, k3, k_5orient, k_5disc]
  rw [h4] at al
  have z4 := (asD_zero h4).2.2.2
  obtain ⟨dx, dy, rfl, h7, h8⟩ := pt_rat hd sd z4
  have n7 := h7.mono (m := 100) (by omega)
  have n8 := h8.mono (m := 100) (by omega)
  clear sa sb sc sd z1 z2 z3 z4 h3 h4 ha hb hc hd
  by_cases q : area ax ay bx b_ cx cy = 0
  · have q0 := rsgn_zero.2 q
    unfold t4c ptc rtc rt at *
    simp only [List.cons_append, List.nil_append] at *
    simp (disch := first | exact dD | fail) only [Wd, W2d, W3d, Nat.reduceAdd, Nat.reduceMul, Nat.reduceSub, rc_24, sm, live5_by, ak, al, k_orient, k_gdisc, k_circle0, k_5orient, k_5disc, q0]
  · have q0 : ¬ rsgn (area ax ay bx b_ cx cy) = 0 := fun h => q (rsgn_zero.1 h)
    unfold t4c ptc rtc rt at *
    simp only [List.cons_append, List.nil_append] at *
    simp (disch := first | exact dD | fail) only [Wd, W2d, W3d, Nat.reduceAdd, Nat.reduceMul, Nat.reduceSub, rc_24, sm, live5_by, ak, al, k_orient, k_gdisc, k_circle, k_5orient, k_5disc, k_5circle, q0]

theorem geomWithin_cv (t : T4) (ht : t.ok) : cv gp fid.gussetlaw05_GeomWithin [.agg (t4c t)] = some (.bool true) := by
  obtain ⟨a, b, c, d⟩ := t
  obtain ⟨ha, hb, hc, hd⟩ := ht
  simp only at ha hb hc hd
  rw [gussetlaw05_GeomWithin.eq]
  unfold gussetlaw05_GeomWithin.f
  have sm := fun h => c_small5 (h := h) (t := (a, b, c, d))
  by_cases hs : sm8 (a, b, c, d)
  rotate_left
  · rw [decide_eq_false hs] at sm
    clear hs
    unfold t4c ptc rtc at *
    simp only [List.cons_append, List.nil_append] at *
    simp (disch := first | exact dD | fail) only [Wd, W2d, W3d, Nat.reduceAdd, Nat.reduceMul, Nat.reduceSub, rc_24, sm, live5_by]
  rw [decide_eq_true hs] at sm
  obtain ⟨sa, sb, sc, sd⟩ := hs
  simp only at sa sb sc sd
  unfold gussetlaw05_GeomWithin.j0
  have ak := fun h f => as5_3 (h := h) (f := f) ha hb hd
  have al := fun h f => as5_4 (h := h) (f := f) ha hb hc hd
  by_cases h0 : asD a b c d = 0
  rotate_left
  · have k2 := fun h => wiE (h := h) ha hb hc hd h0
    by_cases h9 : asC a b d = 0
    rotate_left
    · have k1 := fun h => onE (h := h) ha hb hd h9
      generalize asC a b d = e at *
      generalize asD a b c d = f at *
      unfold t4c ptc rtc at *
      simp only [List.cons_append, List.nil_append] at *
      simp (disch := first | exact dD | fail) only [Wd, W2d, W3d, Nat.reduceAdd, Nat.reduceMul, Nat.reduceSub, rc_24, sm, live5_by, ak, al, k1, k2]
    · rw [h9] at ak
      obtain ⟨z1, z2, z4⟩ := asC_zero h9
      obtain ⟨ax, ay, rfl, h1, h2⟩ := pt_rat ha sa z1
      obtain ⟨bx, b_, rfl, h3, h4⟩ := pt_rat hb sb z2
      obtain ⟨dx, dy, rfl, h7, h8⟩ := pt_rat hd sd z4
      have n1 := h1.mono (m := 100) (by omega)
      have n2 := h2.mono (m := 100) (by omega)
      have n3 := h3.mono (m := 100) (by omega)
      have n4 := h4.mono (m := 100) (by omega)
      have n7 := h7.mono (m := 100) (by omega)
      have n8 := h8.mono (m := 100) (by omega)
      have m1 := h1.mono (m := 2000) (by omega)
      have m2 := h2.mono (m := 2000) (by omega)
      have m3 := h3.mono (m := 2000) (by omega)
      have m4 := h4.mono (m := 2000) (by omega)
      have m7 := h7.mono (m := 2000) (by omega)
      have m8 := h8.mono (m := 2000) (by omega)
      generalize asD (rt ax, rt ay) (rt bx, rt b_) c (rt dx, rt dy) = f at *
      clear sa sb sc sd z1 z2 z4 h9 ha hb hc hd
      unfold t4c ptc rtc rt at *
      simp only [List.cons_append, List.nil_append] at *
      by_cases o : onP ax ay bx b_ dx dy
      · have o' := decide_eq_true o
        simp (disch := first | exact dD | fail) only [Wd, W2d, W3d, Nat.reduceAdd, Nat.reduceMul, Nat.reduceSub, rc_24, sm, live5_by, ak, al, k_gOn, k5on, o', beq_t, bne_t, k2]
      · have o' := decide_eq_false o
        simp (disch := first | exact dD | fail) only [Wd, W2d, W3d, Nat.reduceAdd, Nat.reduceMul, Nat.reduceSub, rc_24, sm, live5_by, ak, al, k_gOn, k5on, o', beq_t, bne_f, k2]
  rw [h0] at al
  obtain ⟨z1, z2, z3, z4⟩ := asD_zero h0
  obtain ⟨ax, ay, rfl, h1, h2⟩ := pt_rat ha sa z1
  obtain ⟨bx, b_, rfl, h3, h4⟩ := pt_rat hb sb z2
  obtain ⟨cx, cy, rfl, h5, h6⟩ := pt_rat hc sc z3
  obtain ⟨dx, dy, rfl, h7, h8⟩ := pt_rat hd sd z4
  have n1 := h1.mono (m := 100) (by omega)
  have n2 := h2.mono (m := 100) (by omega)
  have n3 := h3.mono (m := 100) (by omega)
  have n4 := h4.mono (m := 100) (by omega)
  have n5 := h5.mono (m := 100) (by omega)
  have n6 := h6.mono (m := 100) (by omega)
  have n7 := h7.mono (m := 100) (by omega)
  have n8 := h8.mono (m := 100) (by omega)
  have m1 := h1.mono (m := 2000) (by omega)
  have m2 := h2.mono (m := 2000) (by omega)
  have m3 := h3.mono (m := 2000) (by omega)
  have m4 := h4.mono (m := 2000) (by omega)
  have m5 := h5.mono (m := 2000) (by omega)
  have m6 := h6.mono (m := 2000) (by omega)
  have m7 := h7.mono (m := 2000) (by omega)
  have m8 := h8.mono (m := 2000) (by omega)
  rw [asC_rat n1 n2 n3 n4 n7 n8] at ak
  clear sa sb sc sd z1 z2 z3 z4 h0 ha hb hc hd
  unfold t4c ptc rtc rt at *
  simp only [List.cons_append, List.nil_append] at *
  by_cases q : area ax ay bx b_ cx cy = 0
  · have q0 := rsgn_zero.2 q
    by_cases o : onP ax ay bx b_ dx dy
    · have o' := decide_eq_true o
      simp (disch := first | exact dD | fail) only [Wd, W2d, W3d, Nat.reduceAdd, Nat.reduceMul, Nat.reduceSub, rc_24, sm, live5_by, ak, al, k_gOn, k5on, o', beq_t, bne_t, k_gwithin0, k_5orient, q0]
    · have o' := decide_eq_false o
      simp (disch := first | exact dD | fail) only [Wd, W2d, W3d, Nat.reduceAdd, Nat.reduceMul, Nat.reduceSub, rc_24, sm, live5_by, ak, al, k_gOn, k5on, o', beq_t, bne_f, k_gwithin0, k_5orient, q0]
  · have q0 : ¬ rsgn (area ax ay bx b_ cx cy) = 0 := fun h => q (rsgn_zero.1 h)
    by_cases o : onP ax ay bx b_ dx dy
    · have o' := decide_eq_true o
      simp (disch := first | exact dD | fail) only [Wd, W2d, W3d, Nat.reduceAdd, Nat.reduceMul, Nat.reduceSub, rc_24, sm, live5_by, ak, al, k_gOn, k5on, o', beq_t, bne_t, k_gwithin, k_5within, k_5orient, q0]
    · have o' := decide_eq_false o
      simp (disch := first | exact dD | fail) only [Wd, W2d, W3d, Nat.reduceAdd, Nat.reduceMul, Nat.reduceSub, rc_24, sm, live5_by, ak, al, k_gOn, k5on, o', beq_t, bne_f, k_gwithin, k_5within, k_5orient, q0]

theorem cir_turn {ax ay bx b_ cx cy dx dy : Rat} : cirD cx cy ax ay bx b_ dx dy = cirD ax ay bx b_ cx cy dx dy := by rw [cir_eq, cir_eq]; unfold cir5; grind
theorem cir_swap {ax ay bx b_ cx cy dx dy : Rat} : cirD bx b_ ax ay cx cy dx dy = -cirD ax ay bx b_ cx cy dx dy := by rw [cir_eq, cir_eq]; unfold cir5; grind
theorem area_turn {ax ay bx b_ cx cy : Rat} : area bx b_ cx cy ax ay = area ax ay bx b_ cx cy := by unfold area; grind
theorem area_turn2 {ax ay bx b_ cx cy : Rat} : area cx cy ax ay bx b_ = area ax ay bx b_ cx cy := by unfold area; grind
theorem area_swap {ax ay bx b_ cx cy : Rat} : area bx b_ ax ay cx cy = -area ax ay bx b_ cx cy := by unfold area; grind

theorem geomTurned_cv (t : T4) (ht : t.ok) : cv gp fid.gussetlaw05_GeomTurned [.agg (t4c t)] = some (.bool true) := by
  obtain ⟨a, b, c, d⟩ := t
  obtain ⟨ha, hb, hc, hd⟩ := ht
  simp only at ha hb hc hd
  rw [gussetlaw05_GeomTurned.eq]
  unfold gussetlaw05_GeomTurned.f
  have sm := fun h => c_small5 (h := h) (t := (a, b, c, d))
  by_cases hs : sm8 (a, b, c, d)
  rotate_left
  · rw [decide_eq_false hs] at sm
    clear hs
    unfold t4c ptc rtc at *
    simp only [List.cons_append, List.nil_append] at *
    simp (disch := first | exact dD | fail) only [Wd, W2d, W3d, Nat.reduceAdd, Nat.reduceMul, Nat.reduceSub, rc_24, sm, live5_by]
  rw [decide_eq_true hs] at sm
  obtain ⟨sa, sb, sc, sd⟩ := hs
  simp only at sa sb sc sd
  have al := fun h f => as5_4 (h := h) (f := f) ha hb hc hd
  by_cases h0 : asD a b c d = 0
  rotate_left
  · generalize asD a b c d = f at *
    unfold t4c ptc rtc at *
    simp only [List.cons_append, List.nil_append] at *
    simp (disch := first | exact dD | fail) only [Wd, W2d, W3d, Nat.reduceAdd, Nat.reduceMul, Nat.reduceSub, rc_24, sm, live5_by, al]
  rw [h0] at al
  obtain ⟨z1, z2, z3, z4⟩ := asD_zero h0
  obtain ⟨ax, ay, rfl, h1, h2⟩ := pt_rat ha sa z1
  obtain ⟨bx, b_, rfl, h3, h4⟩ := pt_rat hb sb z2
  obtain ⟨cx, cy, rfl, h5, h6⟩ := pt_rat hc sc z3
  obtain ⟨dx, dy, rfl, h7, h8⟩ := pt_rat hd sd z4
  have n1 := h1.mono (m := 100) (by omega)
  have n2 := h2.mono (m := 100) (by omega)
  have n3 := h3.mono (m := 100) (by omega)
  have n4 := h4.mono (m := 100) (by omega)
  have n5 := h5.mono (m := 100) (by omega)
  have n6 := h6.mono (m := 100) (by omega)
  have n7 := h7.mono (m := 100) (by omega)
  have n8 := h8.mono (m := 100) (by omega)
  have o1 := fun h => k_orient (h := h) n1 n2 n3 n4 n5 n6
  have o2 := fun h => k_orient (h := h) n3 n4 n5 n6 n1 n2
  have o3 := fun h => k_orient (h := h) n3 n4 n1 n2 n5 n6
  rw [area_turn] at o2
  rw [area_swap, rsgn_neg] at o3
  have hb9 := rsgn_bd (area ax ay bx b_ cx cy)
  clear sa sb sc sd z1 z2 z3 z4 h0 ha hb hc hd
  by_cases q : area ax ay bx b_ cx cy = 0
  · have c1 := fun h => k_circle0 (h := h) n1 n2 n3 n4 n5 n6 n7 n8 q
    have c2 := fun h => k_circle0 (h := h) n5 n6 n1 n2 n3 n4 n7 n8 (by rw [area_turn2]; exact q)
    have c3 := fun h => k_circle0 (h := h) n3 n4 n1 n2 n5 n6 n7 n8 (by rw [area_swap, q]; grind)
    generalize rsgn (area ax ay bx b_ cx cy) = s at *
    clear q
    unfold t4c ptc rtc rt at *
    simp only [List.cons_append, List.nil_append] at *
    simp (disch := first | exact dD | fail) only [Wd, W2d, W3d, Nat.reduceAdd, Nat.reduceMul, Nat.reduceSub, rc_24, sm, live5_by, al, o1, o2, o3, c1, c2, c3, un_neg]
  · have c1 := fun h => k_circle (h := h) h1 h2 h3 h4 h5 h6 h7 h8 q
    have c2 := fun h => k_circle (h := h) h5 h6 h1 h2 h3 h4 h7 h8 (by rw [area_turn2]; exact q)
    have c3 := fun h => k_circle (h := h) h3 h4 h1 h2 h5 h6 h7 h8 (by rw [area_swap]; grind)
    rw [area_turn2, cir_turn] at c2
    rw [area_swap, cir_swap, rsgn_neg, rsgn_neg, Int.neg_mul_neg] at c3
    generalize rsgn (area ax ay bx b_ cx cy) * rsgn (cirD ax ay bx b_ cx cy dx dy) = w at *
    generalize rsgn (area ax ay bx b_ cx cy) = s at *
    clear q
    unfold t4c ptc rtc rt at *
    simp only [List.cons_append, List.nil_append] at *
    simp (disch := first | exact dD | fail) only [Wd, W2d, W3d, Nat.reduceAdd, Nat.reduceMul, Nat.reduceSub, rc_24, sm, live5_by, al, o1, o2, o3, c1, c2, c3, un_neg]
end Go.Proofs.YthnapfmpnndneaaGreat.Am