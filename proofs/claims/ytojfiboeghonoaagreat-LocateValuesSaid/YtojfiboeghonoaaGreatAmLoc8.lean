import Derived.Test.YtojfiboeghonoaaGreatAmLoc7
/- Where points lie in a mesh: Value, called. -/
set_option linter.unusedVariables false
set_option maxRecDepth 10000
set_option linter.unusedSimpArgs false
namespace Go.Proofs.YtojfiboeghonoaaGreat.Am
open Go

theorem imm_rcs {n : Nat} {us : List Rat} : Imm 12 (.is n false (rcs us)) := Imm.mono (imm_is (imm_flat imm_rtc _)) (by omega)
theorem imm_rts {n : Nat} {xs : List RT} : Imm 12 (.is n false (xs.flatMap rtc)) := Imm.mono (imm_is (imm_flat imm_rtc _)) (by omega)
section
variable {q : Mq} {i : Nat} {x y : Rat} {us : List Rat} {xs : List RT} {h : Heap}
theorem k_lValue (hq : q.ok) (hx : Rz x 40) (hy : Rz y 40) (hu : us.length = q.ps.length) (hus : UsZ us 300) : byVal (callW gp) h fid.zf0m [.agg (msc q.ms), .is us.length false (rcs us), pa x y] = some (valR q us x y (atI q.ps q.ts x y q.ts.length 0)) := byVal_imm (imm_L3' imm_ms imm_rcs imm_pa) (by
  have fa : ∀ k id off, opFaddr k (.rp id off) = some (.rp id (off + k)) := fun _ _ _ => rfl
  have m1 := hq.n1
  have kc := fun h => k_check (h := h) hq
  have nq : opBin .neq (.int .i64 (us.length : Int)) (.int .i64 (q.ps.length : Int)) = some (.bool false) := by rw [bin_neq]; exact congrArg (fun b => some (AV.bool b)) (decide_eq_false (by omega))
  have g := lval_l0 (f := false) hus (by omega) (y3 := .rp 0 0) (y5 := .rp 1 0) (y6 := .rp 2 0) us.length 0 [some (msc q.ms), some (ptc (pc (x, y))), some z3] (by omega) fun H' h1 h2 =>
    lval_main hq hx hy hu hus (H := H') (by rw [h2 0 (by simp)]; rfl) (by rw [h2 1 (by simp)]; rfl) (z := z3) (by rw [h2 2 (by simp)]; rfl) rfl
  rw [zf0m.eq]
  unfold zf0m.f
  simp (disch := first | exact dD | fail) only [Wd, W2d, W3d, Nat.reduceAdd, Nat.reduceMul, Nat.reduceSub, fa, ms_rc, kc, neqF, mq_0, nq]
  exact g)
theorem k_lValueA (hq : q.ok) {p : PT} (hu : xs.length ≠ q.ps.length) (hn : xs.length ≤ 1000) : byVal (callW gp) h fid.zf0m [.agg (msc q.ms), .is xs.length false (xs.flatMap rtc), .agg (ptc p)] = some (.tup [.agg z3, .bool false, .int .i64 1]) := byVal_imm (imm_L3' imm_ms imm_rts imm_pt) (by
  have fa : ∀ k id off, opFaddr k (.rp id off) = some (.rp id (off + k)) := fun _ _ _ => rfl
  have m1 := hq.n1
  have kc := fun h => k_check (h := h) hq
  have nq : opBin .neq (.int .i64 (xs.length : Int)) (.int .i64 (q.ps.length : Int)) = some (.bool true) := by rw [bin_neq]; exact congrArg (fun b => some (AV.bool b)) (decide_eq_true (by omega))
  have st := st_set3 (H := [some (msc q.ms), some (ptc p), some z3]) (id := 2) (z := z3) (a := .bool false) (b := .str ⟨#[]⟩) (c := .str ⟨#[]⟩) rfl rfl rfl
  have rz : readCells z3 (some 3) = some (.agg z3) := Eq.trans rfl rfl
  rw [zf0m.eq]
  unfold zf0m.f
  simp (disch := first | exact dD | fail) only [Wd, W2d, W3d, Nat.reduceAdd, Nat.reduceMul, Nat.reduceSub, fa, ms_rc, kc, neqF, mq_0, nq, st, rz]
  exact fzz)
theorem k_lValueN (hq : q.ok) {p : PT} (hok : ∀ t ∈ xs, t.ok) (hu : xs.length = q.ps.length) (hne : firstE (xs.map RT.chk) ≠ 0) : byVal (callW gp) h fid.zf0m [.agg (msc q.ms), .is xs.length false (xs.flatMap rtc), .agg (ptc p)] = some (.tup [.agg z3, .bool false, .int .i64 (firstE (xs.map RT.chk))]) := byVal_imm (imm_L3' imm_ms imm_rts imm_pt) (by
  have fa : ∀ k id off, opFaddr k (.rp id off) = some (.rp id (off + k)) := fun _ _ _ => rfl
  have m1 := hq.n1
  have kc := fun h => k_check (h := h) hq
  have nq : opBin .neq (.int .i64 (xs.length : Int)) (.int .i64 (q.ps.length : Int)) = some (.bool false) := by rw [bin_neq]; exact congrArg (fun b => some (AV.bool b)) (decide_eq_false (by omega))
  have g := lval_l0E (f := false) hok (by omega) (y3 := .rp 0 0) (y5 := .rp 1 0) xs.length 0 [some (msc q.ms), some (ptc p), some z3] (by omega) rfl hne
  rw [List.drop_zero] at g
  rw [zf0m.eq]
  unfold zf0m.f
  simp (disch := first | exact dD | fail) only [Wd, W2d, W3d, Nat.reduceAdd, Nat.reduceMul, Nat.reduceSub, fa, ms_rc, kc, neqF, mq_0, nq]
  exact g)
theorem k_lValueP (hq : q.ok) {p : PT} (hp : p.ok) (hu : us.length = q.ps.length) (hus : UsZ us 300) (ha : askc p ≠ 0) : byVal (callW gp) h fid.zf0m [.agg (msc q.ms), .is us.length false (rcs us), .agg (ptc p)] = some (.tup [.agg z3, .bool false, .int .i64 (askc p)]) := byVal_imm (imm_L3' imm_ms imm_rcs imm_pt) (by
  have fa : ∀ k id off, opFaddr k (.rp id off) = some (.rp id (off + k)) := fun _ _ _ => rfl
  have m1 := hq.n1
  have kc := fun h => k_check (h := h) hq
  have ka := fun h => k_lasked (h := h) hq hp
  have r6 : readCells (ptc p) (some 6) = some (.agg (ptc p)) := Eq.trans rfl rfl
  have nqa := neqT ha
  have nq : opBin .neq (.int .i64 (us.length : Int)) (.int .i64 (q.ps.length : Int)) = some (.bool false) := by rw [bin_neq]; exact congrArg (fun b => some (AV.bool b)) (decide_eq_false (by omega))
  have g := lval_l0 (f := false) hus (by omega) (y3 := .rp 0 0) (y5 := .rp 1 0) (y6 := .rp 2 0) us.length 0 [some (msc q.ms), some (ptc p), some z3] (RR := some (.tup [.agg z3, .bool false, .int .i64 (askc p)])) (by omega) fun H' h1 h2 => by
    have h0' : live H' 0 = some (msc q.ms) := by rw [h2 0 (by simp)]; rfl
    have h1' : live H' 1 = some (ptc p) := by rw [h2 1 (by simp)]; rfl
    have h2' : live H' 2 = some z3 := by rw [h2 2 (by simp)]; rfl
    have lk : opBin .lss (.int .i64 (us.length : Int)) (.int .i64 (us.length : Int)) = some (.bool false) := lssF (by omega)
    have st := st_set3 (H := H') (id := 2) (z := z3) (a := .bool false) (b := .str ⟨#[]⟩) (c := .str ⟨#[]⟩) rfl h2' rfl
    have rz : readCells z3 (some 3) = some (.agg z3) := Eq.trans rfl rfl
    have g2 := live_set_self (cs := z3) h2'
    rw [zf0m.l0_eq]
    simp (disch := first | exact dD | fail) only [Wd, W2d, W3d, Nat.reduceAdd, Nat.reduceMul, Nat.reduceSub, fa, lk, h0', h1', ms_rc, r6, ka, nqa, st, g2, rz]
    exact fzz
  rw [zf0m.eq]
  unfold zf0m.f
  simp (disch := first | exact dD | fail) only [Wd, W2d, W3d, Nat.reduceAdd, Nat.reduceMul, Nat.reduceSub, fa, ms_rc, kc, neqF, mq_0, nq]
  exact g)
end
end Go.Proofs.YtojfiboeghonoaaGreat.Am
