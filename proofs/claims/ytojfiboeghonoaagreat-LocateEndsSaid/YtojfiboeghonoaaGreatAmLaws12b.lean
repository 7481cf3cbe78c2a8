import Derived.Test.YtojfiboeghonoaaGreatAmLaws12
import Derived.Test.YtojfiboeghonoaaGreatAmLoc10
/- Section 12: where a point lies, what a function is there, where ways end. -/
set_option linter.unusedVariables false
set_option maxRecDepth 10000
set_option linter.unusedSimpArgs false
namespace Go.Proofs.YtojfiboeghonoaaGreat.Am
open Go

section
/-! ### Ways end -/
theorem rsgn_one {q : Rat} (h : 0 < q) : rsgn q = 1 := by
  have h5 := @rsgn_le q
  have h6 := rsgn_bd q
  have : ¬ rsgn q ≤ 0 := fun hh => by have := h5.1 hh; grind
  omega
theorem min3_nn {x y z : Int} (h1 : 0 ≤ x) (h2 : 0 ≤ y) (h3 : 0 ≤ z) : 0 ≤ min3 x y z := by unfold min3; split <;> (try split) <;> omega
theorem over_within {q : Mq} {i : Nat} {x y : Rat} (hq : q.ok) (hi : i < q.ts.length) (h : overI q.ps q.ts i x y = none) : 0 ≤ wT q.ps (tat q.ts i) x y := by
  obtain ⟨_, hA⟩ := hq.tr i hi
  unfold overI at h
  by_cases c0 : sE q.ps (edI q.ts i 0) x y < 0
  · rw [if_pos c0] at h; cases h
  by_cases c1 : sE q.ps (edI q.ts i 1) x y < 0
  · rw [if_neg c0, if_pos c1] at h; cases h
  by_cases c2 : sE q.ps (edI q.ts i 2) x y < 0
  · rw [if_neg c0, if_neg c1, if_pos c2] at h; cases h
  unfold wT withinQ
  have e := rsgn_one hA
  unfold areaT at e
  rw [e, Int.one_mul, Int.one_mul, Int.one_mul]
  exact min3_nn (Int.not_lt.1 c0) (Int.not_lt.1 c1) (Int.not_lt.1 c2)
/-- What a way is. -/
theorem wkI_ends {q : Mq} {x y : Rat} (hq : q.ok) : ∀ {m : Nat} {t : Int} {w l : List Int}, wkI q x y m t w = some l → (t < 0 ∨ InR q.ts.length t) → ∃ l' z, l = w ++ l' ++ [z] ∧ l'.length ≤ m ∧ (z = -1 ∨ ∃ i : Nat, z = (i : Int) ∧ i < q.ts.length ∧ 0 ≤ wT q.ps (tat q.ts i) x y) ∧ (0 ≤ t → (l' ++ [z]).head? = some t)
  | 0, t, w, l, h, ht => by
    unfold wkI at h
    split at h
    · cases h; exact ⟨[], -1, by simp, by simp, .inl rfl, fun h => by omega⟩
    · cases h
  | m + 1, t, w, l, h, ht => by
    unfold wkI at h
    split at h
    · cases h; exact ⟨[], -1, by simp, by simp, .inl rfl, fun h => by omega⟩
    rename_i hn
    rcases ht with ht | ⟨t0, t1⟩
    · exact absurd ht hn
    obtain ⟨i, rfl⟩ := Int.eq_ofNat_of_zero_le t0
    have hi : i < q.ts.length := by omega
    split at h
    · rename_i ho
      cases h
      exact ⟨[], (i : Int), by simp, by simp, .inr ⟨i, rfl, hi, over_within hq hi ho⟩, fun _ => rfl⟩
    · rename_i k ho
      obtain ⟨l', z, e, h1, h2, h3⟩ := wkI_ends hq h acr_in
      refine ⟨(i : Int) :: l', z, by rw [e]; simp, by simp; omega, h2, fun _ => rfl⟩
set_option maxHeartbeats 16000000 in
theorem locateEnds_cv (m : Ms) (t : Int) (p : PT) (hm : ∀ p ∈ m.pts, p.ok) (ht : -9223372036854775808 ≤ t ∧ t ≤ 9223372036854775807) (hp : p.ok) : cv gp fid.gussetlaw12_LocateEnds [.agg (msc m), .int .i64 t, .agg (ptc p)] = some (.bool true) := by
  have fa : ∀ k id off, opFaddr k (.rp id off) = some (.rp id (off + k)) := fun _ _ _ => rfl
  have kl := fun h => c_live12 (h := h)
  have r6 : readCells (ptc p) (some 6) = some (.agg (ptc p)) := Eq.trans rfl rfl
  obtain ⟨b, ks, hb⟩ := k_small12 hm
  have k1 := fun h => c_short12 (h := h) (t := p.1)
  have k2 := fun h => c_short12 (h := h) (t := p.2)
  have r1 : readCells (ptc p) (some 3) = some (.agg (rtc p.1)) := Eq.trans rfl rfl
  have r2 : readCells (List.drop 3 (ptc p)) (some 3) = some (.agg (rtc p.2)) := Eq.trans rfl rfl
  rw [gussetlaw12_LocateEnds.eq]
  unfold gussetlaw12_LocateEnds.f
  cases b with
  | false => simp (disch := first | exact dD | fail) only [Wd, W2d, W3d, Nat.reduceAdd, Nat.reduceMul, Nat.reduceSub, ms_rc, ks, notT, notF, kl]
  | true =>
    obtain ⟨q, hq, rfl⟩ := hb rfl
    have n2 := hq.n2
    by_cases h1 : sh1 p.1
    rotate_left
    · rw [decide_eq_false h1] at k1
      simp (disch := first | exact dD | fail) only [Wd, W2d, W3d, Nat.reduceAdd, Nat.reduceMul, Nat.reduceSub, ms_rc, ks, notT, notF, fa, r1, k1, kl]
    by_cases h2 : sh1 p.2
    rotate_left
    · rw [decide_eq_true h1] at k1
      rw [decide_eq_false h2] at k2
      simp (disch := first | exact dD | fail) only [Wd, W2d, W3d, Nat.reduceAdd, Nat.reduceMul, Nat.reduceSub, ms_rc, ks, notT, notF, fa, r1, r2, k1, k2, kl]
    rw [decide_eq_true h1] at k1
    rw [decide_eq_true h2] at k2
    by_cases hr : InR q.ts.length t
    rotate_left
    · have kw := fun h => k_lWalkB (h := h) hq hr hp
      have nq := neqT (show (1 : Int) ≠ 0 by decide)
      simp (disch := first | exact dD | fail) only [Wd, W2d, W3d, Nat.reduceAdd, Nat.reduceMul, Nat.reduceSub, ms_rc, ks, notT, notF, fa, r1, r2, k1, k2, r6, kw, nq, kl, eqlTF, decide_true]
    by_cases ha : askc p = 0
    rotate_left
    · have kw := fun h => k_lWalkE (h := h) hq hr hp ha
      have nq := neqT ha
      simp (disch := first | exact dD | fail) only [Wd, W2d, W3d, Nat.reduceAdd, Nat.reduceMul, Nat.reduceSub, ms_rc, ks, notT, notF, fa, r1, r2, k1, k2, r6, kw, nq, kl, eqlTF, decide_true]
    obtain ⟨⟨x, y⟩, rfl, hx, hy⟩ := pt_rat40 hp ⟨h1, h2⟩ ha
    have kw : ∀ h, byVal (callW gp) h fid.locate_Walk [.agg (msc q.ms), .int .i64 t, .agg (ptc (pc (x, y)))] = _ := fun h => k_lWalk (h := h) hq hr (x := x) (y := y) (hx.mono (by omega)) (hy.mono (by omega))
    cases hw : wkI q x y q.ts.length t [] with
    | none =>
      rw [hw] at kw
      unfold wkV at kw
      have nq := neqT (show (7 : Int) ≠ 0 by decide)
      simp (disch := first | exact dD | fail) only [Wd, W2d, W3d, Nat.reduceAdd, Nat.reduceMul, Nat.reduceSub, ms_rc, ks, notT, notF, fa, r1, r2, k1, k2, r6, kw, nq, kl, eqlTF, decide_true]
    | some l =>
      rw [hw] at kw
      unfold wkV at kw
      obtain ⟨l', z, e, hl', hz, hh⟩ := wkI_ends hq hw (.inr hr)
      rw [List.nil_append] at e
      have hh := hh hr.1
      rw [← e] at hh
      have hlen : l.length = l'.length + 1 := by rw [e]; simp
      have lp : 0 < l.length := by omega
      have hd : readCells (ints l) none = some (.int .i64 t) := by
        cases l with
        | nil => simp at lp
        | cons a l => simp at hh; subst hh; rfl
      have lst : readCells (List.drop (l.length - 1) (ints l)) none = some (.int .i64 z) := by
        have : l.length - 1 = l'.length := by omega
        rw [this, e]
        have e2 : ints (l' ++ [z]) = ints l' ++ [.int .i64 z] := by simp [ints]
        rw [e2, show l'.length = (ints l').length from (ints_len l').symm, List.drop_left]
        rfl
      have s0 : opSidx 1 (.is l.length false (ints l)) (.int .i64 0) = some (.ip (ints l)) := sidx_is0 lp
      have s1 : opSidx 1 (.is l.length false (ints l)) (.int .i64 ((l.length : Int) - 1)) = some (.ip ((ints l).drop (l.length - 1))) := by
        have := sidx_is (sz := 1) (n := l.length) (f := false) (cs := ints l) (k := .i64) (z := (l.length : Int) - 1) (by omega) (by omega)
        rw [this]
        congr 3
        omega
      have sb1 : opBin .sub (.int .i64 (l.length : Int)) (.int .i64 1) = some (.int .i64 ((l.length : Int) - 1)) := by rw [int_sub (by omega) (by omega)]
      have c1 : opBin .eql (.int .i64 (l.length : Int)) (.int .i64 0) = some (.bool false) := eqlN (by omega)
      have c2 : opBin .neq (.int .i64 t) (.int .i64 t) = some (.bool false) := by rw [bin_neq]; exact congrArg (fun b => some (AV.bool b)) (decide_eq_false (by simp))
      have c3 : opBin .gtr (.int .i64 (l.length : Int)) (.int .i64 ((q.ts.length + 1 : Nat) : Int)) = some (.bool false) := by rw [gtrD, decide_eq_false (by omega)]
      rcases hz with rfl | ⟨i, rfl, hi, hw⟩
      · have c4 : opBin .lss (.int .i64 (-1)) (.int .i64 0) = some (.bool true) := rfl
        simp (disch := first | exact dD | fail) only [Wd, W2d, W3d, Nat.reduceAdd, Nat.reduceMul, Nat.reduceSub, ms_rc, ks, notT, notF, fa, mq_1, r1, r2, k1, k2, r6, kw, neqF, kl, s0, s1, hd, lst, sb1, c1, c2, c3, c4, eqlTF, decide_true]
      · have c4 : opBin .lss (.int .i64 (i : Int)) (.int .i64 0) = some (.bool false) := lssF (by omega)
        have c5 : opBin .geq (.int .i64 (i : Int)) (.int .i64 (q.ts.length : Int)) = some (.bool false) := geqF (by omega)
        have kc := fun h => k_cnr (h := h) hq hi
        unfold cnr at kc
        obtain ⟨⟨⟨a0, a1⟩, ⟨b0, b1⟩, ⟨c0, c1⟩⟩, hA⟩ := hq.tr i hi
        have hzp := hq.zp
        have za := hzp.x (i := (tat q.ts i).1.toNat) (by omega)
        have zb := hzp.x (i := (tat q.ts i).2.1.toNat) (by omega)
        have zc := hzp.x (i := (tat q.ts i).2.2.toNat) (by omega)
        have kw5 := fun h => k_5within (h := h) (za.1.mono (by omega)) (za.2.mono (by omega)) (zb.1.mono (by omega)) (zb.2.mono (by omega)) (zc.1.mono (by omega)) (zc.2.mono (by omega)) (hx.mono (by omega)) (hy.mono (by omega))
        have kw5 : ∀ h, byVal (callW gp) h fid.gussetref05_Within [pa (ipx q.ps (tat q.ts i).1) (ipy q.ps (tat q.ts i).1), pa (ipx q.ps (tat q.ts i).2.1) (ipy q.ps (tat q.ts i).2.1), pa (ipx q.ps (tat q.ts i).2.2) (ipy q.ps (tat q.ts i).2.2), .agg (ptc (pc (x, y)))] = some (.int .i64 (wT q.ps (tat q.ts i) x y)) := kw5
        simp (disch := first | exact dD | fail) only [Wd, W2d, W3d, Nat.reduceAdd, Nat.reduceMul, Nat.reduceSub, ms_rc, ks, notT, notF, fa, mq_1, r1, r2, k1, k2, r6, kw, neqF, kl, s0, s1, hd, lst, sb1, c1, c2, c3, c4, c5, kc, kw5, geqT hw, eqlTF, decide_true]
end
end Go.Proofs.YtojfiboeghonoaaGreat.Am
