import Derived.Test.YtojfiboeghonoaaGreatAmLaws12b
/- Section 12: middles and corners of triangles. -/
set_option linter.unusedVariables false
set_option maxRecDepth 10000
set_option linter.unusedSimpArgs false
namespace Go.Proofs.YtojfiboeghonoaaGreat.Am
open Go

section
theorem rsgn_z : rsgn 0 = 0 := rfl
theorem third3 : 3 * Rat.divInt 1 3 = 1 := by decide +kernel
theorem third_pos : 0 < Rat.divInt 1 3 := by decide +kernel
theorem third_z : Rz (Rat.divInt 1 3) 1 := by
  have e1 : (Rat.divInt 1 3).num = 1 := by decide +kernel
  have e2 : (Rat.divInt 1 3).den = 3 := by decide +kernel
  constructor
  · unfold isz; rw [e1]; show (nb 1).length ≤ 1; rw [nb_one]; simp
  · rw [e2]; decide +kernel
section
variable {ax ay bx b_ cx cy t : Rat}
theorem area_mid (h : 3 * t = 1) : area ax ay bx b_ ((ax + (bx + cx)) * t) ((ay + (b_ + cy)) * t) = area ax ay bx b_ cx cy * t ∧ area bx b_ cx cy ((ax + (bx + cx)) * t) ((ay + (b_ + cy)) * t) = area ax ay bx b_ cx cy * t ∧ area cx cy ax ay ((ax + (bx + cx)) * t) ((ay + (b_ + cy)) * t) = area ax ay bx b_ cx cy * t := by
  unfold area
  refine ⟨?_, ?_, ?_⟩ <;> grind
theorem within_mid (hA : 0 < area ax ay bx b_ cx cy) : withinQ ax ay bx b_ cx cy ((ax + (bx + cx)) * Rat.divInt 1 3) ((ay + (b_ + cy)) * Rat.divInt 1 3) = 1 := by
  obtain ⟨e1, e2, e3⟩ := area_mid (ax := ax) (ay := ay) (bx := bx) (b_ := b_) (cx := cx) (cy := cy) third3
  unfold withinQ
  rw [e1, e2, e3, rsgn_one hA, rsgn_one (Rat.mul_pos hA third_pos)]
  rfl
theorem within_cor (hA : 0 < area ax ay bx b_ cx cy) : withinQ ax ay bx b_ cx cy ax ay = 0 := by
  have e1 : area ax ay bx b_ ax ay = 0 := by unfold area; grind
  have e2 : area bx b_ cx cy ax ay = area ax ay bx b_ cx cy := by unfold area; grind
  have e3 : area cx cy ax ay ax ay = 0 := by unfold area; grind
  unfold withinQ
  rw [e1, e2, e3, rsgn_one hA, rsgn_z]
  rfl
end
theorem atI_upto {ps : List (Rat × Rat)} {ts : List Tr} {x y : Rat} {i : Nat} (hi : i < ts.length) (hw : 0 ≤ wT ps (tat ts i) x y) : ∃ j, atI ps ts x y ts.length 0 = some j ∧ j ≤ i := by
  cases h : atI ps ts x y ts.length 0 with
  | none => have := atI_none h i (Nat.zero_le _) (by omega); omega
  | some j =>
    obtain ⟨_, _, _, h4⟩ := atI_some h
    refine ⟨j, rfl, ?_⟩
    by_cases hj : j ≤ i
    · exact hj
    · have := h4 i (Nat.zero_le _) (by omega); omega
end
section
set_option maxHeartbeats 32000000 in
theorem locateHome_cv (m : Ms) (t : Int) (hm : ∀ p ∈ m.pts, p.ok) (ht : -9223372036854775808 ≤ t ∧ t ≤ 9223372036854775807) : cv gp fid.gussetlaw12_LocateHome [.agg (msc m), .int .i64 t] = some (.bool true) := by
  have fa : ∀ k id off, opFaddr k (.rp id off) = some (.rp id (off + k)) := fun _ _ _ => rfl
  have kl := fun h => c_live12 (h := h)
  obtain ⟨b, ks, hb⟩ := k_small12 hm
  rw [gussetlaw12_LocateHome.eq]
  unfold gussetlaw12_LocateHome.f
  cases b with
  | false => simp (disch := first | exact dD | fail) only [Wd, W2d, W3d, Nat.reduceAdd, Nat.reduceMul, Nat.reduceSub, ms_rc, ks, notT, notF, kl]
  | true =>
    obtain ⟨q, hq, rfl⟩ := hb rfl
    have n2 := hq.n2
    have ki := fun h => k_is (h := h) (z := t) hq
    by_cases hr : InR q.ts.length t
    rotate_left
    · rw [decide_eq_false hr] at ki
      simp (disch := first | exact dD | fail) only [Wd, W2d, W3d, Nat.reduceAdd, Nat.reduceMul, Nat.reduceSub, ms_rc, ks, ki, notT, notF, kl]
    rw [decide_eq_true hr] at ki
    obtain ⟨t0, t1⟩ := hr
    obtain ⟨i, rfl⟩ := Int.eq_ofNat_of_zero_le t0
    have hi : i < q.ts.length := by omega
    have kc := fun h => k_cnr (h := h) hq hi
    unfold cnr at kc
    obtain ⟨⟨⟨a0, a1⟩, ⟨b0, b1⟩, ⟨c0, c1⟩⟩, hA⟩ := hq.tr i hi
    have hzp := hq.zp
    have za := hzp.x (i := (tat q.ts i).1.toNat) (by omega)
    have zb := hzp.x (i := (tat q.ts i).2.1.toNat) (by omega)
    have zc := hzp.x (i := (tat q.ts i).2.2.toNat) (by omega)
    have wm := within_mid hA
    have wc := within_cor hA
    have um := fun h => atI_upto (ps := q.ps) (x := (ipx q.ps (tat q.ts i).1 + (ipx q.ps (tat q.ts i).2.1 + ipx q.ps (tat q.ts i).2.2)) * Rat.divInt 1 3) (y := (ipy q.ps (tat q.ts i).1 + (ipy q.ps (tat q.ts i).2.1 + ipy q.ps (tat q.ts i).2.2)) * Rat.divInt 1 3) hi h
    obtain ⟨j, hj, hji⟩ := um (by unfold wT; rw [wm]; decide)
    obtain ⟨l, hl, hli⟩ := atI_upto (ps := q.ps) (x := ipx q.ps (tat q.ts i).1) (y := ipy q.ps (tat q.ts i).1) hi (by unfold wT; rw [wc]; exact Int.le_refl _)
    have wjm : j = i → wT q.ps (tat q.ts j) ((ipx q.ps (tat q.ts i).1 + (ipx q.ps (tat q.ts i).2.1 + ipx q.ps (tat q.ts i).2.2)) * Rat.divInt 1 3) ((ipy q.ps (tat q.ts i).1 + (ipy q.ps (tat q.ts i).2.1 + ipy q.ps (tat q.ts i).2.2)) * Rat.divInt 1 3) = 1 := fun e => by rw [e]; exact wm
    have wlc : l = i → wT q.ps (tat q.ts l) (ipx q.ps (tat q.ts i).1) (ipy q.ps (tat q.ts i).1) = 0 := fun e => by rw [e]; exact wc
    change Rz (ipx q.ps _) 40 ∧ Rz (ipy q.ps _) 40 at za zb zc
    have ka1 := fun h hx hy => k_lAt (h := h) (x := (ipx q.ps (tat q.ts i).1 + (ipx q.ps (tat q.ts i).2.1 + ipx q.ps (tat q.ts i).2.2)) * Rat.divInt 1 3) (y := (ipy q.ps (tat q.ts i).1 + (ipy q.ps (tat q.ts i).2.1 + ipy q.ps (tat q.ts i).2.2)) * Rat.divInt 1 3) hq hx hy
    have ka2 := fun h => k_lAt (h := h) hq (za.1.mono (by omega)) (za.2.mono (by omega))
    rw [hl] at ka2
    simp only [hj] at ka1
    unfold atT atW at ka1 ka2
    simp only [] at ka1 ka2
    generalize wT q.ps (tat q.ts j) ((ipx q.ps (tat q.ts i).1 + (ipx q.ps (tat q.ts i).2.1 + ipx q.ps (tat q.ts i).2.2)) * Rat.divInt 1 3) ((ipy q.ps (tat q.ts i).1 + (ipy q.ps (tat q.ts i).2.1 + ipy q.ps (tat q.ts i).2.2)) * Rat.divInt 1 3) = W1 at *
    generalize wT q.ps (tat q.ts l) (ipx q.ps (tat q.ts i).1) (ipy q.ps (tat q.ts i).1) = W2 at *
    clear wm wc um hj hl hA a0 a1 b0 b1 c0 c1
    generalize ipx q.ps (tat q.ts i).1 = ax at *
    generalize ipy q.ps (tat q.ts i).1 = ay at *
    generalize ipx q.ps (tat q.ts i).2.1 = bx at *
    generalize ipy q.ps (tat q.ts i).2.1 = b_ at *
    generalize ipx q.ps (tat q.ts i).2.2 = cx at *
    generalize ipy q.ps (tat q.ts i).2.2 = cy at *
    have kf := fun h => k_3frac (h := h) (z := 1) (d := 3) (by decide) (by decide) (by decide) (by decide) (by decide)
    have s1 := fun h => k_3sum (h := h) (zb.1.mono (by omega)) (zc.1.mono (by omega))
    have s2 := fun h => k_3sum (h := h) (za.1.mono (by omega)) ((zb.1.add zc.1).mono (by omega))
    have s3 := fun h => k_3mul (h := h) ((za.1.add (zb.1.add zc.1)).mono (by omega)) (third_z.mono (by omega))
    have s4 := fun h => k_3sum (h := h) (zb.2.mono (by omega)) (zc.2.mono (by omega))
    have s5 := fun h => k_3sum (h := h) (za.2.mono (by omega)) ((zb.2.add zc.2).mono (by omega))
    have s6 := fun h => k_3mul (h := h) ((za.2.add (zb.2.add zc.2)).mono (by omega)) (third_z.mono (by omega))
    have zx : Rz ((ax + (bx + cx)) * Rat.divInt 1 3) 20000 := ((za.1.add (zb.1.add zc.1)).mul third_z).mono (by omega)
    have zy : Rz ((ay + (b_ + cy)) * Rat.divInt 1 3) 20000 := ((za.2.add (zb.2.add zc.2)).mul third_z).mono (by omega)
    generalize (ax + (bx + cx)) * Rat.divInt 1 3 = X at *
    generalize (ay + (b_ + cy)) * Rat.divInt 1 3 = Y at *
    have rd6 : ∀ {a b c d e f : AV} , readCells [a, b, c, d, e, f] (some 6) = some (.agg [a, b, c, d, e, f]) := Eq.trans rfl rfl
    simp (disch := first | exact dD | fail) only [Wd, W2d, W3d, Nat.reduceAdd, Nat.reduceMul, Nat.reduceSub, ms_rc, ks, ki, notT, notF, kc, kf, s1, s2, s3, s4, s5, s6, fa]
    by_cases g1 : (100 : Int) < ((nb X.num.natAbs).length : Int)
    · rw [decide_eq_true g1]
      simp (disch := first | exact dD | fail) only [Wd, W2d, W3d, Nat.reduceAdd, Nat.reduceMul, Nat.reduceSub, kl]
    rw [decide_eq_false g1]
    by_cases g2 : (100 : Int) < ((nb X.den).length : Int)
    · rw [decide_eq_true g2]
      simp (disch := first | exact dD | fail) only [Wd, W2d, W3d, Nat.reduceAdd, Nat.reduceMul, Nat.reduceSub, kl]
    rw [decide_eq_false g2]
    by_cases g3 : (100 : Int) < ((nb Y.num.natAbs).length : Int)
    · rw [decide_eq_true g3]
      simp (disch := first | exact dD | fail) only [Wd, W2d, W3d, Nat.reduceAdd, Nat.reduceMul, Nat.reduceSub, kl]
    rw [decide_eq_false g3]
    by_cases g4 : (100 : Int) < ((nb Y.den).length : Int)
    · rw [decide_eq_true g4]
      simp (disch := first | exact dD | fail) only [Wd, W2d, W3d, Nat.reduceAdd, Nat.reduceMul, Nat.reduceSub, kl]
    rw [decide_eq_false g4]
    have hX : Rz X 100 := ⟨by unfold isz; omega, by omega⟩
    have hY : Rz Y 100 := ⟨by unfold isz; omega, by omega⟩
    have ka1 := fun h => ka1 h hX hY
    have e1 : opBin .geq (.int .i64 (j : Int)) (.int .i64 0) = some (.bool true) := geqT (by omega)
    have e2 : opBin .leq (.int .i64 (j : Int)) (.int .i64 (i : Int)) = some (.bool true) := by rw [bin_leq, decide_eq_true (by omega)]
    have e3 : opBin .geq (.int .i64 (l : Int)) (.int .i64 0) = some (.bool true) := geqT (by omega)
    have e4 : opBin .leq (.int .i64 (l : Int)) (.int .i64 (i : Int)) = some (.bool true) := by rw [bin_leq, decide_eq_true (by omega)]
    have e0 : opBin .eql (.int .i64 0) (.int .i64 0) = some (.bool true) := rfl
    have e5 : opBin .eql (.int .i64 1) (.int .i64 1) = some (.bool true) := rfl
    rcases Nat.lt_or_eq_of_le hji with h1 | h1 <;> rcases Nat.lt_or_eq_of_le hli with h2 | h2
    · have c1 : opBin .lss (.int .i64 (j : Int)) (.int .i64 (i : Int)) = some (.bool true) := lssT (by omega)
      have c2 : opBin .lss (.int .i64 (l : Int)) (.int .i64 (i : Int)) = some (.bool true) := lssT (by omega)
      simp (disch := first | exact dD | fail) only [Wd, W2d, W3d, Nat.reduceAdd, Nat.reduceMul, Nat.reduceSub, ka1, ka2, e0, e1, e2, e3, e4, e5, c1, c2, kl]
    · have c1 : opBin .lss (.int .i64 (j : Int)) (.int .i64 (i : Int)) = some (.bool true) := lssT (by omega)
      have c2 : opBin .lss (.int .i64 (l : Int)) (.int .i64 (i : Int)) = some (.bool false) := lssF (by omega)
      rw [wlc h2] at ka2
      simp (disch := first | exact dD | fail) only [Wd, W2d, W3d, Nat.reduceAdd, Nat.reduceMul, Nat.reduceSub, ka1, ka2, e0, e1, e2, e3, e4, e5, c1, c2, kl]
    · have c1 : opBin .lss (.int .i64 (j : Int)) (.int .i64 (i : Int)) = some (.bool false) := lssF (by omega)
      have c2 : opBin .lss (.int .i64 (l : Int)) (.int .i64 (i : Int)) = some (.bool true) := lssT (by omega)
      rw [wjm h1] at ka1
      simp (disch := first | exact dD | fail) only [Wd, W2d, W3d, Nat.reduceAdd, Nat.reduceMul, Nat.reduceSub, ka1, ka2, e0, e1, e2, e3, e4, e5, c1, c2, kl]
    · have c1 : opBin .lss (.int .i64 (j : Int)) (.int .i64 (i : Int)) = some (.bool false) := lssF (by omega)
      have c2 : opBin .lss (.int .i64 (l : Int)) (.int .i64 (i : Int)) = some (.bool false) := lssF (by omega)
      rw [wjm h1] at ka1
      rw [wlc h2] at ka2
      simp (disch := first | exact dD | fail) only [Wd, W2d, W3d, Nat.reduceAdd, Nat.reduceMul, Nat.reduceSub, ka1, ka2, e0, e1, e2, e3, e4, e5, c1, c2, kl]
end
end Go.Proofs.YtojfiboeghonoaaGreat.Am
