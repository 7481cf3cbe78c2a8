import Derived.Test.YtojfiboeghonoaaGreatAmLoc9
/- Section 12: the laws that need no corners. -/
set_option linter.unusedVariables false
set_option maxRecDepth 10000
set_option linter.unusedSimpArgs false
namespace Go.Proofs.YtojfiboeghonoaaGreat.Am
open Go

theorem notT : opUn .not (.bool true) = some (.bool false) := Eq.trans rfl rfl
theorem notF : opUn .not (.bool false) = some (.bool true) := Eq.trans rfl rfl
section
set_option maxHeartbeats 8000000 in
theorem locateFans_cv (m : Ms) (v : Int) (hm : ∀ p ∈ m.pts, p.ok) (hv : -9223372036854775808 ≤ v ∧ v ≤ 9223372036854775807) : cv gp fid.gussetlaw12_LocateFans [.agg (msc m), .int .i64 v] = some (.bool true) := by
  have fa : ∀ k id off, opFaddr k (.rp id off) = some (.rp id (off + k)) := fun _ _ _ => rfl
  have kl := fun h => c_live12 (h := h)
  obtain ⟨b, ks, hb⟩ := k_small12 hm
  rw [gussetlaw12_LocateFans.eq]
  unfold gussetlaw12_LocateFans.f
  cases b with
  | false => simp (disch := first | exact dD | fail) only [Wd, W2d, W3d, Nat.reduceAdd, Nat.reduceMul, Nat.reduceSub, ms_rc, ks, notT, notF, kl]
  | true =>
    obtain ⟨q, hq, rfl⟩ := hb rfl
    by_cases hr : InR q.ps.length v
    · have kf := fun h => k_lFan (h := h) hq hr
      have kr := fun h => k_rFan (h := h) (v := v) hq
      obtain ⟨v0, v1⟩ := hr
      have n2 := hq.n2
      have fl := @fanI_len q.ts v q.ts.length 0
      have sm := fun h => k_same (h := h) (l := fanI q.ts v q.ts.length 0) (m := fanI q.ts v q.ts.length 0) (by omega) (by omega)
      rw [decide_eq_true rfl] at sm
      simp (disch := first | exact dD | fail) only [Wd, W2d, W3d, Nat.reduceAdd, Nat.reduceMul, Nat.reduceSub, ms_rc, ks, notT, notF, kf, lssF (show ¬ v < 0 by omega), fa, mq_0, geqF (show ¬ (q.ps.length : Int) ≤ v by omega)]
      unfold gussetlaw12_LocateFans.j0
      simp (disch := first | exact dD | fail) only [Wd, W2d, W3d, Nat.reduceAdd, Nat.reduceMul, Nat.reduceSub, ms_rc, kr, sm, kl, eqlTF, decide_true]
    · have kf := fun h => k_lFanE (h := h) hq hr
      by_cases h0 : v < 0
      · simp (disch := first | exact dD | fail) only [Wd, W2d, W3d, Nat.reduceAdd, Nat.reduceMul, Nat.reduceSub, ms_rc, ks, notT, notF, kf, lssT h0]
        unfold gussetlaw12_LocateFans.j0
        simp (disch := first | exact dD | fail) only [Wd, W2d, W3d, Nat.reduceAdd, Nat.reduceMul, Nat.reduceSub, kl, eqlTF, decide_true]
      · have h1 : (q.ps.length : Int) ≤ v := by unfold InR at hr; omega
        simp (disch := first | exact dD | fail) only [Wd, W2d, W3d, Nat.reduceAdd, Nat.reduceMul, Nat.reduceSub, ms_rc, ks, notT, notF, kf, lssF h0, fa, mq_0, geqT h1]
        unfold gussetlaw12_LocateFans.j0
        simp (disch := first | exact dD | fail) only [Wd, W2d, W3d, Nat.reduceAdd, Nat.reduceMul, Nat.reduceSub, kl, eqlTF, decide_true]
end
end Go.Proofs.YtojfiboeghonoaaGreat.Am
