import Derived.Test.YtmklpomcdnflbaaGreatAmSm17
/- The laws of section 17. -/
set_option linter.unusedVariables false
set_option maxRecDepth 10000
set_option linter.unusedSimpArgs false
namespace Go.Proofs.YtmklpomcdnflbaaGreat.Am
open Go
theorem arrs_rp {H : Heap} {sz len id off : Nat} (hl : (live H id).map (fun cs => decide (off + len * sz ≤ cs.length)) = some true) : opArrs H sz len (.rp id off) = some (.rs sz id off len) := by
  show ((live H id).bind fun cs => if off + len * sz ≤ cs.length then some (AV.rs sz id off len) else none) = _
  cases hv : live H id with
  | none => rw [hv] at hl; cases hl
  | some cs =>
    rw [hv] at hl
    simp only [Option.map_some, Option.some.injEq, decide_eq_true_eq] at hl
    rw [Option.bind_some, if_pos hl]
theorem rc24' {a0 a1 a2 a3 a4 a5 a6 a7 a8 a9 b0 b1 b2 b3 b4 b5 b6 b7 b8 b9 c0 c1 c2 c3 : AV} {l : List AV} : readCells (a0 :: a1 :: a2 :: a3 :: a4 :: a5 :: a6 :: a7 :: a8 :: a9 :: b0 :: b1 :: b2 :: b3 :: b4 :: b5 :: b6 :: b7 :: b8 :: b9 :: c0 :: c1 :: c2 :: c3 :: l) (some 24) = some (.agg [a0, a1, a2, a3, a4, a5, a6, a7, a8, a9, b0, b1, b2, b3, b4, b5, b6, b7, b8, b9, c0, c1, c2, c3]) := Eq.trans rfl rfl
theorem eqa_z27 : opEqa false [.b, .s, .s, .b, .s, .s, .b, .s, .s, .b, .s, .s, .b, .s, .s, .b, .s, .s, .b, .s, .s, .b, .s, .s, .b, .s, .s] (.agg [AV.bool false, .str ⟨#[]⟩, .str ⟨#[]⟩, AV.bool false, .str ⟨#[]⟩, .str ⟨#[]⟩, AV.bool false, .str ⟨#[]⟩, .str ⟨#[]⟩, AV.bool false, .str ⟨#[]⟩, .str ⟨#[]⟩, AV.bool false, .str ⟨#[]⟩, .str ⟨#[]⟩, AV.bool false, .str ⟨#[]⟩, .str ⟨#[]⟩, AV.bool false, .str ⟨#[]⟩, .str ⟨#[]⟩, AV.bool false, .str ⟨#[]⟩, .str ⟨#[]⟩, AV.bool false, .str ⟨#[]⟩, .str ⟨#[]⟩]) (.agg [AV.bool false, .str ⟨#[]⟩, .str ⟨#[]⟩, AV.bool false, .str ⟨#[]⟩, .str ⟨#[]⟩, AV.bool false, .str ⟨#[]⟩, .str ⟨#[]⟩, AV.bool false, .str ⟨#[]⟩, .str ⟨#[]⟩, AV.bool false, .str ⟨#[]⟩, .str ⟨#[]⟩, AV.bool false, .str ⟨#[]⟩, .str ⟨#[]⟩, AV.bool false, .str ⟨#[]⟩, .str ⟨#[]⟩, AV.bool false, .str ⟨#[]⟩, .str ⟨#[]⟩, AV.bool false, .str ⟨#[]⟩, .str ⟨#[]⟩]) = some (.bool true) := by kernel_rfl
theorem eqa_z6q : opEqa false [.b, .s, .s, .b, .s, .s] (.agg [.bool false, str [], str [], .bool false, str [], str []]) (.agg [.bool false, .str ⟨#[]⟩, .str ⟨#[]⟩, .bool false, .str ⟨#[]⟩, .str ⟨#[]⟩]) = some (.bool true) := by kernel_rfl
theorem eqa_z3q : opEqa false [.b, .s, .s] (.agg [.bool false, str [], str []]) (.agg [.bool false, .str ⟨#[]⟩, .str ⟨#[]⟩]) = some (.bool true) := by kernel_rfl
theorem eqa_9 {r0 r1 r2 r3 r4 r5 r6 r7 r8 : Rat} : opEqa false [.b, .s, .s, .b, .s, .s, .b, .s, .s, .b, .s, .s, .b, .s, .s, .b, .s, .s, .b, .s, .s, .b, .s, .s, .b, .s, .s] (.agg (rtc (rt r0) ++ rtc (rt r1) ++ rtc (rt r2) ++ rtc (rt r3) ++ rtc (rt r4) ++ rtc (rt r5) ++ rtc (rt r6) ++ rtc (rt r7) ++ rtc (rt r8))) (.agg (rtc (rt r0) ++ rtc (rt r1) ++ rtc (rt r2) ++ rtc (rt r3) ++ rtc (rt r4) ++ rtc (rt r5) ++ rtc (rt r6) ++ rtc (rt r7) ++ rtc (rt r8))) = some (.bool true) := by
  rw [eqa_eq rfl rfl]
  unfold rtc rt
  simp only [List.cons_append, List.nil_append]
  rw [eqCells_cons_b, if_pos rfl, eqCells_cons_s (nb_lt _) (nb_lt _), if_pos rfl, eqCells_cons_s (nb_lt _) (nb_lt _), if_pos rfl]; rw [eqCells_cons_b, if_pos rfl, eqCells_cons_s (nb_lt _) (nb_lt _), if_pos rfl, eqCells_cons_s (nb_lt _) (nb_lt _), if_pos rfl]; rw [eqCells_cons_b, if_pos rfl, eqCells_cons_s (nb_lt _) (nb_lt _), if_pos rfl, eqCells_cons_s (nb_lt _) (nb_lt _), if_pos rfl]; rw [eqCells_cons_b, if_pos rfl, eqCells_cons_s (nb_lt _) (nb_lt _), if_pos rfl, eqCells_cons_s (nb_lt _) (nb_lt _), if_pos rfl]; rw [eqCells_cons_b, if_pos rfl, eqCells_cons_s (nb_lt _) (nb_lt _), if_pos rfl, eqCells_cons_s (nb_lt _) (nb_lt _), if_pos rfl]; rw [eqCells_cons_b, if_pos rfl, eqCells_cons_s (nb_lt _) (nb_lt _), if_pos rfl, eqCells_cons_s (nb_lt _) (nb_lt _), if_pos rfl]; rw [eqCells_cons_b, if_pos rfl, eqCells_cons_s (nb_lt _) (nb_lt _), if_pos rfl, eqCells_cons_s (nb_lt _) (nb_lt _), if_pos rfl]; rw [eqCells_cons_b, if_pos rfl, eqCells_cons_s (nb_lt _) (nb_lt _), if_pos rfl, eqCells_cons_s (nb_lt _) (nb_lt _), if_pos rfl]; rw [eqCells_cons_b, if_pos rfl, eqCells_cons_s (nb_lt _) (nb_lt _), if_pos rfl, eqCells_cons_s (nb_lt _) (nb_lt _), if_pos rfl]
  rfl
def asC (a b c : PT) : Int := firstE ([a, b, c].map askc)
def asD (a b c d : PT) : Int := firstE ([a, b, c, d].map askc)
theorem asC_zero {a b c : PT} (h : asC a b c = 0) : askc a = 0 ∧ askc b = 0 ∧ askc c = 0 := by
  unfold asC at h
  rw [firstE3] at h
  by_cases h1 : askc a = 0 <;> by_cases h2 : askc b = 0 <;> simp [h1, h2] at h ⊢
  exact h
theorem asD_eq {a b c d : PT} : asD a b c d = if askc a = 0 then (if askc b = 0 then (if askc c = 0 then askc d else askc c) else askc b) else askc a := by
  show (if askc a = 0 then (if askc b = 0 then (if askc c = 0 then (if askc d = 0 then 0 else askc d) else askc c) else askc b) else askc a) = _
  by_cases h : askc d = 0 <;> simp [h]
theorem asD_zero {a b c d : PT} (h : asD a b c d = 0) : askc a = 0 ∧ askc b = 0 ∧ askc c = 0 ∧ askc d = 0 := by
  rw [asD_eq] at h
  by_cases h1 : askc a = 0 <;> by_cases h2 : askc b = 0 <;> by_cases h3 : askc c = 0 <;> simp [h1, h2, h3] at h ⊢
  exact h
theorem few3 {a b c : PT} {H : Heap} {x : AV} (hx : freeze H x = some (.is 3 false (ptc a ++ ptc b ++ ptc c))) : byVal (callW gp) H fid.gussetlaw17_few [x] = some (.bool (decide (fewP [a, b, c]))) :=
  c_few (xs := [a, b, c]) (by simp) (by rw [show [a, b, c].flatMap ptc = ptc a ++ ptc b ++ ptc c by simp]; exact hx)
theorem few4 {a b c d : PT} {H : Heap} {x : AV} (hx : freeze H x = some (.is 4 false (ptc a ++ ptc b ++ ptc c ++ ptc d))) : byVal (callW gp) H fid.gussetlaw17_few [x] = some (.bool (decide (fewP [a, b, c, d]))) :=
  c_few (xs := [a, b, c, d]) (by simp) (by rw [show [a, b, c, d].flatMap ptc = ptc a ++ ptc b ++ ptc c ++ ptc d by simp]; exact hx)
theorem ask3 {a b c : PT} {H : Heap} {x : AV} (ha : a.ok) (hb : b.ok) (hc : c.ok) (hx : freeze H x = some (.is 3 false (ptc a ++ ptc b ++ ptc c))) : byVal (callW gp) H fid.gussetref05_Asked [x] = some (.int .i64 (asC a b c)) :=
  c_asked17 (xs := [a, b, c]) (ok3 ha hb hc) (by simp) (by rw [show [a, b, c].flatMap ptc = ptc a ++ ptc b ++ ptc c by simp]; exact hx)
theorem ask4 {a b c d : PT} {H : Heap} {x : AV} (ha : a.ok) (hb : b.ok) (hc : c.ok) (hd : d.ok) (hx : freeze H x = some (.is 4 false (ptc a ++ ptc b ++ ptc c ++ ptc d))) : byVal (callW gp) H fid.gussetref05_Asked [x] = some (.int .i64 (asD a b c d)) :=
  c_asked17 (xs := [a, b, c, d]) (fun t ht => by
    simp only [List.mem_cons, List.not_mem_nil, or_false] at ht
    rcases ht with rfl | rfl | rfl | rfl <;> assumption) (by simp) (by rw [show [a, b, c, d].flatMap ptc = ptc a ++ ptc b ++ ptc c ++ ptc d by simp]; exact hx)
theorem few3_iff {a b c : PT} (h : fewP [a, b, c]) : sh2 a ∧ sh2 b ∧ sh2 c := ⟨h a (by simp), h b (by simp), h c (by simp)⟩
theorem few4_iff {a b c d : PT} (h : fewP [a, b, c, d]) : sh2 a ∧ sh2 b ∧ sh2 c ∧ sh2 d := ⟨h a (by simp), h b (by simp), h c (by simp), h d (by simp)⟩

theorem elementStiff_cv (t : T3) (ht : t.ok) : cv gp fid.gussetlaw17_ElementStiff [.agg (t3c t)] = some (.bool true) := by
  obtain ⟨a, b, c⟩ := t
  obtain ⟨ha, hb, hc⟩ := ht
  simp only at ha hb hc
  rw [gussetlaw17_ElementStiff.eq]
  unfold gussetlaw17_ElementStiff.f gussetlaw17_ElementStiff.j0
  have fw := fun H => few3 (a := a) (b := b) (c := c) (H := some (ptc a ++ ptc b ++ ptc c) :: H) (x := .rs 6 0 0 3) rfl
  have ak := fun H => ask3 (H := some (ptc a ++ ptc b ++ ptc c) :: H) (x := .rs 6 0 0 3) ha hb hc rfl
  by_cases hs : fewP [a, b, c]
  rotate_left
  · rw [decide_eq_false hs] at fw
    clear hs ak
    unfold t3c ptc rtc at *
    simp only [List.cons_append, List.nil_append] at *
    simp (disch := first | first | exact dD | fail | rfl | with_unfolding_all rfl) only [Wd, W2d, W3d, Nat.reduceAdd, Nat.reduceMul, Nat.reduceSub, lc0, lc1, lc2, lc3, ad0, ad1, ad2, aidx_0, aidx_1, aidx_2, arrs_rp, rc18, rc27, rc9, rc24', fw, live17_by]
  rw [decide_eq_true hs] at fw
  obtain ⟨sa, sb, sc⟩ := few3_iff hs
  clear hs
  by_cases h0 : asC a b c = 0
  rotate_left
  · have k1 := fun h => k_stiffE (h := h) ha hb hc h0
    change ∀ h, _ = some (AV.tup [_, AV.int .i64 (asC a b c)]) at k1
    generalize asC a b c = e at *
    unfold t3c ptc rtc at *
    simp only [List.cons_append, List.nil_append] at *
    simp (disch := first | first | exact dD | fail | rfl | with_unfolding_all rfl) only [Wd, W2d, W3d, Nat.reduceAdd, Nat.reduceMul, Nat.reduceSub, lc0, lc1, lc2, lc3, ad0, ad1, ad2, aidx_0, aidx_1, aidx_2, arrs_rp, rc18, rc27, rc9, rc24', fw, ak, k1, live17_by, eqa_z27]
  rw [h0] at ak
  obtain ⟨z1, z2, z3⟩ := asC_zero h0
  obtain ⟨ax, ay, rfl, h1, h2⟩ := pt_rat ha sa z1
  obtain ⟨bx, b_, rfl, h3, h4⟩ := pt_rat hb sb z2
  obtain ⟨cx, cy, rfl, h5, h6⟩ := pt_rat hc sc z3
  have n1 := h1.mono (m := 100) (by omega)
  have n2 := h2.mono (m := 100) (by omega)
  have n3 := h3.mono (m := 100) (by omega)
  have n4 := h4.mono (m := 100) (by omega)
  have n5 := h5.mono (m := 100) (by omega)
  have n6 := h6.mono (m := 100) (by omega)
  have m1 := h1.mono (m := 2000) (by omega)
  have m2 := h2.mono (m := 2000) (by omega)
  have m3 := h3.mono (m := 2000) (by omega)
  have m4 := h4.mono (m := 2000) (by omega)
  have m5 := h5.mono (m := 2000) (by omega)
  have m6 := h6.mono (m := 2000) (by omega)
  clear sa sb sc z1 z2 z3 h0 ha hb hc
  by_cases q : area ax ay bx b_ cx cy = 0
  · have k1 := fun h => k_stiff0 (h := h) n1 n2 n3 n4 n5 n6 q
    have q0 := rsgn_zero.2 q
    clear q
    unfold t3c ptc rtc rt at *
    simp only [List.cons_append, List.nil_append] at *
    simp (disch := first | first | exact dD | fail | rfl | with_unfolding_all rfl) only [Wd, W2d, W3d, Nat.reduceAdd, Nat.reduceMul, Nat.reduceSub, lc0, lc1, lc2, lc3, ad0, ad1, ad2, aidx_0, aidx_1, aidx_2, arrs_rp, rc18, rc27, rc9, rc24', fw, ak, k1, k_5orient, q0, live17_by, eqa_z27]
  · have k1 := fun h => k_stiff (h := h) n1 n2 n3 n4 n5 n6 q
    have k2 := fun h => k_17stiff (h := h) n1 n2 n3 n4 n5 n6 q
    have q0 : ¬ rsgn (area ax ay bx b_ cx cy) = 0 := fun h => q (rsgn_zero.1 h)
    clear q
    unfold stiffC at k1 k2
    generalize stQ (area ax ay bx b_ cx cy) ((cx - bx) * (cx - bx) + (cy - b_) * (cy - b_)) = q00 at *
    generalize stQ (area ax ay bx b_ cx cy) ((cx - bx) * (ax - cx) + (cy - b_) * (ay - cy)) = q01 at *
    generalize stQ (area ax ay bx b_ cx cy) ((cx - bx) * (bx - ax) + (cy - b_) * (b_ - ay)) = q02 at *
    generalize stQ (area ax ay bx b_ cx cy) ((ax - cx) * (cx - bx) + (ay - cy) * (cy - b_)) = q10 at *
    generalize stQ (area ax ay bx b_ cx cy) ((ax - cx) * (ax - cx) + (ay - cy) * (ay - cy)) = q11 at *
    generalize stQ (area ax ay bx b_ cx cy) ((ax - cx) * (bx - ax) + (ay - cy) * (b_ - ay)) = q12 at *
    generalize stQ (area ax ay bx b_ cx cy) ((bx - ax) * (cx - bx) + (b_ - ay) * (cy - b_)) = q20 at *
    generalize stQ (area ax ay bx b_ cx cy) ((bx - ax) * (ax - cx) + (b_ - ay) * (ay - cy)) = q21 at *
    generalize stQ (area ax ay bx b_ cx cy) ((bx - ax) * (bx - ax) + (b_ - ay) * (b_ - ay)) = q22 at *
    have e9 := @eqa_9 q00 q01 q02 q10 q11 q12 q20 q21 q22
    unfold corn at k2
    unfold t3c ptc rtc rt at *
    simp only [List.cons_append, List.nil_append] at *
    simp (disch := first | first | exact dD | fail | rfl | with_unfolding_all rfl) only [Wd, W2d, W3d, Nat.reduceAdd, Nat.reduceMul, Nat.reduceSub, lc0, lc1, lc2, lc3, ad0, ad1, ad2, aidx_0, aidx_1, aidx_2, arrs_rp, rc18, rc27, rc9, rc24', fw, ak, k1, k2, k_5orient, q0, live17_by, e9]

end Go.Proofs.YtmklpomcdnflbaaGreat.Am