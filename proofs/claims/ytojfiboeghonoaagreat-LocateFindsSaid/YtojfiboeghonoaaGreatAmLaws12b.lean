import Derived.Test.YtojfiboeghonoaaGreatAmLaws12
import Derived.Test.YtojfiboeghonoaaGreatAmLoc10
/- Section 12: where a point lies, what a function is there, where ways end. -/
set_option linter.unusedVariables false
set_option maxRecDepth 10000
set_option linter.unusedSimpArgs false
namespace Go.Proofs.YtojfiboeghonoaaGreat.Am
open Go

section
theorem asked1 {h : Heap} {p : PT} (hp : p.ok) : byVal (callW gp) h fid.gussetref05_Asked [.is 1 true ([p].flatMap ptc)] = some (.int .i64 (askc p)) := by
  have ka := k_5asked (h := h) (f := true) (xs := [p]) (fun t ht => by rw [List.mem_singleton] at ht; subst ht; exact hp) (by simp)
  have ea : firstE ([p].map askc) = askc p := by
    show (if askc p = 0 then 0 else askc p) = askc p
    split
    · exact (Eq.symm ‹_›)
    · rfl
  rw [ea] at ka
  exact ka
theorem bslp {p : PT} : opBslc 6 1 [.bool false, .str ⟨#[]⟩, .str ⟨#[]⟩, .bool false, .str ⟨#[]⟩, .str ⟨#[]⟩] [(0, .agg (ptc p))] = some (.is 1 true ([p].flatMap ptc)) := Eq.trans rfl rfl
set_option maxHeartbeats 8000000 in
theorem locateFinds_cv (m : Ms) (p : PT) (hm : ∀ p ∈ m.pts, p.ok) (hp : p.ok) : cv gp fid.gussetlaw12_LocateFinds [.agg (msc m), .agg (ptc p)] = some (.bool true) := by
  have fa : ∀ k id off, opFaddr k (.rp id off) = some (.rp id (off + k)) := fun _ _ _ => rfl
  have kl := fun h => c_live12 (h := h)
  have r6 : readCells (ptc p) (some 6) = some (.agg (ptc p)) := Eq.trans rfl rfl
  obtain ⟨b, ks, hb⟩ := k_small12 hm
  have k1 := fun h => c_short12 (h := h) (t := p.1)
  have k2 := fun h => c_short12 (h := h) (t := p.2)
  have r1 : readCells (ptc p) (some 3) = some (.agg (rtc p.1)) := Eq.trans rfl rfl
  have r2 : readCells (List.drop 3 (ptc p)) (some 3) = some (.agg (rtc p.2)) := Eq.trans rfl rfl
  have bs := bslp (p := p)
  have ka := fun h => asked1 (h := h) hp
  rw [gussetlaw12_LocateFinds.eq]
  unfold gussetlaw12_LocateFinds.f
  cases b with
  | false => simp (disch := first | exact dD | fail) only [Wd, W2d, W3d, Nat.reduceAdd, Nat.reduceMul, Nat.reduceSub, ms_rc, ks, notT, notF, kl]
  | true =>
    obtain ⟨q, hq, rfl⟩ := hb rfl
    by_cases h1 : sh1 p.1
    rotate_left
    · rw [decide_eq_false h1] at k1
      simp (disch := first | exact dD | fail) only [Wd, W2d, W3d, Nat.reduceAdd, Nat.reduceMul, Nat.reduceSub, ms_rc, ks, notT, notF, fa, r1, k1, kl]
    by_cases h2 : sh1 p.2
    rotate_left
    · rw [decide_eq_true h1] at k1
      rw [decide_eq_false h2] at k2
      simp (disch := first | exact dD | fail) only [Wd, W2d, W3d, Nat.reduceAdd, Nat.reduceMul, Nat.reduceSub, ms_rc, ks, notT, notF, fa, r1, r2, k1, k2, kl]
    rw [decide_eq_true h1] at k1
    rw [decide_eq_true h2] at k2
    by_cases ha : askc p = 0
    rotate_left
    · have kw := fun h => k_lAtE (h := h) hq hp ha
      have nq := neqT ha
      simp (disch := first | exact dD | fail) only [Wd, W2d, W3d, Nat.reduceAdd, Nat.reduceMul, Nat.reduceSub, ms_rc, ks, notT, notF, fa, r1, r2, k1, k2, r6, kw, bs, ka, nq, kl, eqlTF, decide_true]
    obtain ⟨⟨x, y⟩, rfl, hx, hy⟩ := pt_rat40 hp ⟨h1, h2⟩ ha
    rw [ha] at ka
    have kw : ∀ h, byVal (callW gp) h fid.locate_At [.agg (msc q.ms), .agg (ptc (pc (x, y)))] = _ := fun h => k_lAt (h := h) hq (x := x) (y := y) (hx.mono (by omega)) (hy.mono (by omega))
    have kr : ∀ h, byVal (callW gp) h fid.gussetref12_At [.agg (msc q.ms), .agg (ptc (pc (x, y)))] = _ := fun h => k_rAt (h := h) hq (x := x) (y := y) (hx.mono (by omega)) (hy.mono (by omega))
    simp (disch := first | exact dD | fail) only [Wd, W2d, W3d, Nat.reduceAdd, Nat.reduceMul, Nat.reduceSub, ms_rc, ks, notT, notF, fa, r1, r2, k1, k2, r6, kw, kr, bs, ka, neqF, kl, eqlTF, decide_true]
/-! ### Ways end -/
end
end Go.Proofs.YtojfiboeghonoaaGreat.Am
