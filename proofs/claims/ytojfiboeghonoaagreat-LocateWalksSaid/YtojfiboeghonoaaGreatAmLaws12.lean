import Derived.Test.YtojfiboeghonoaaGreatAmLoc9
/- Section 12: the laws that need no corners. -/
set_option linter.unusedVariables false
set_option maxRecDepth 10000
set_option linter.unusedSimpArgs false
namespace Go.Proofs.YtojfiboeghonoaaGreat.Am
open Go

theorem wkI_len {q : Mq} {x y : Rat} : ∀ {m : Nat} {t : Int} {w l : List Int}, wkI q x y m t w = some l → l.length ≤ w.length + m + 1
  | 0, t, w, l, h => by
    unfold wkI at h
    split at h
    · cases h; simp
    · cases h
  | m + 1, t, w, l, h => by
    unfold wkI at h
    split at h
    · cases h; simp
    split at h
    · cases h; simp
    · have := wkI_len h
      simp at this
      omega
theorem notT : opUn .not (.bool true) = some (.bool false) := Eq.trans rfl rfl
theorem notF : opUn .not (.bool false) = some (.bool true) := Eq.trans rfl rfl
section
set_option maxHeartbeats 8000000 in
theorem locateWalks_cv (m : Ms) (t : Int) (p : PT) (hm : ∀ p ∈ m.pts, p.ok) (ht : -9223372036854775808 ≤ t ∧ t ≤ 9223372036854775807) (hp : p.ok) : cv gp fid.gussetlaw12_LocateWalks [.agg (msc m), .int .i64 t, .agg (ptc p)] = some (.bool true) := by
  have fa : ∀ k id off, opFaddr k (.rp id off) = some (.rp id (off + k)) := fun _ _ _ => rfl
  have kl := fun h => c_live12 (h := h)
  have r6 : readCells (ptc p) (some 6) = some (.agg (ptc p)) := Eq.trans rfl rfl
  obtain ⟨b, ks, hb⟩ := k_small12 hm
  have k1 := fun h => c_short12 (h := h) (t := p.1)
  have k2 := fun h => c_short12 (h := h) (t := p.2)
  have r1 : readCells (ptc p) (some 3) = some (.agg (rtc p.1)) := Eq.trans rfl rfl
  have r2 : readCells (List.drop 3 (ptc p)) (some 3) = some (.agg (rtc p.2)) := Eq.trans rfl rfl
  have ka := fun h => k_5asked (h := h) (f := true) (xs := [p]) (fun t ht => by rw [List.mem_singleton] at ht; subst ht; exact hp) (by simp)
  have ea : firstE ([p].map askc) = askc p := by
    show (if askc p = 0 then 0 else askc p) = askc p
    split
    · exact (Eq.symm ‹_›)
    · rfl
  rw [ea] at ka
  have bs : opBslc 6 1 [.bool false, .str ⟨#[]⟩, .str ⟨#[]⟩, .bool false, .str ⟨#[]⟩, .str ⟨#[]⟩] [(0, .agg (ptc p))] = some (.is 1 true ([p].flatMap ptc)) := Eq.trans rfl rfl
  have ka : ∀ h, byVal (callW gp) h fid.gussetref05_Asked [.is 1 true ([p].flatMap ptc)] = some (.int .i64 (askc p)) := ka
  rw [gussetlaw12_LocateWalks.eq]
  unfold gussetlaw12_LocateWalks.f
  cases b with
  | false => simp (disch := first | exact dD | fail) only [Wd, W2d, W3d, Nat.reduceAdd, Nat.reduceMul, Nat.reduceSub, ms_rc, ks, notT, notF, kl]
  | true =>
    obtain ⟨q, hq, rfl⟩ := hb rfl
    by_cases h1 : sh1 p.1
    rotate_left
    · rw [decide_eq_false h1] at k1
      simp (disch := first | exact dD | fail) only [Wd, W2d, W3d, Nat.reduceAdd, Nat.reduceMul, Nat.reduceSub, ms_rc, ks, notT, notF, fa, r1, k1, kl]
    by_cases h2 : sh1 p.2
    rotate_left
    · rw [decide_eq_true h1] at k1
      rw [decide_eq_false h2] at k2
      simp (disch := first | exact dD | fail) only [Wd, W2d, W3d, Nat.reduceAdd, Nat.reduceMul, Nat.reduceSub, ms_rc, ks, notT, notF, fa, r1, r2, k1, k2, kl]
    rw [decide_eq_true h1] at k1
    rw [decide_eq_true h2] at k2
    by_cases hr : InR q.ts.length t
    rotate_left
    · have kw := fun h => k_lWalkB (h := h) hq hr hp
      have ki := fun h => k_is (h := h) (z := t) hq
      rw [decide_eq_false hr] at ki
      simp (disch := first | exact dD | fail) only [Wd, W2d, W3d, Nat.reduceAdd, Nat.reduceMul, Nat.reduceSub, ms_rc, ks, notT, notF, fa, r1, r2, k1, k2, r6, kw, ki, kl, eqlTF, decide_true]
    have ki := fun h => k_is (h := h) (z := t) hq
    rw [decide_eq_true hr] at ki
    by_cases ha : askc p = 0
    rotate_left
    · have kw := fun h => k_lWalkE (h := h) hq hr hp ha
      have nq := neqT ha
      simp (disch := first | exact dD | fail) only [Wd, W2d, W3d, Nat.reduceAdd, Nat.reduceMul, Nat.reduceSub, ms_rc, ks, notT, notF, fa, r1, r2, k1, k2, r6, kw, ki, bs, ka, nq, kl, eqlTF, decide_true]
    obtain ⟨⟨x, y⟩, rfl, hx, hy⟩ := pt_rat40 hp ⟨h1, h2⟩ ha
    rw [ha] at ka
    have kw : ∀ h, byVal (callW gp) h fid.locate_Walk [.agg (msc q.ms), .int .i64 t, .agg (ptc (pc (x, y)))] = _ := fun h => k_lWalk (h := h) hq hr (x := x) (y := y) (hx.mono (by omega)) (hy.mono (by omega))
    have kr : ∀ h, byVal (callW gp) h fid.gussetref12_Walk [.agg (msc q.ms), .int .i64 t, .agg (ptc (pc (x, y)))] = _ := fun h => k_rWalk (h := h) hq hr (x := x) (y := y) (hx.mono (by omega)) (hy.mono (by omega))
    generalize hw : wkI q x y q.ts.length t [] = w at kw kr
    cases w with
    | none =>
      unfold wkV at kw kr
      have sm : ∀ h, byVal (callW gp) h fid.gussetref09_SameInts [.is 0 false [], .is 0 false []] = some (.bool true) := fun h => k_same (h := h) (l := []) (m := []) (by decide) (by decide)
      simp (disch := first | exact dD | fail) only [Wd, W2d, W3d, Nat.reduceAdd, Nat.reduceMul, Nat.reduceSub, ms_rc, ks, notT, notF, fa, r1, r2, k1, k2, r6, kw, kr, ki, bs, ka, neqF, kl, sm, eqlTF, decide_true]
    | some l =>
      have hl : l.length ≤ 1000 := by
        have := wkI_len hw
        have n2 := hq.n2
        simp at this
        omega
      unfold wkV at kw kr
      have sm := fun h => k_same (h := h) (l := l) (m := l) (by omega) (by omega)
      rw [decide_eq_true rfl] at sm
      simp (disch := first | exact dD | fail) only [Wd, W2d, W3d, Nat.reduceAdd, Nat.reduceMul, Nat.reduceSub, ms_rc, ks, notT, notF, fa, r1, r2, k1, k2, r6, kw, kr, ki, bs, ka, neqF, kl, sm, eqlTF, decide_true]
end
end Go.Proofs.YtojfiboeghonoaaGreat.Am
