import Derived.Test.YtojfiboeghonoaaGreatAmLoc7
/- Where points lie in a mesh: Value, called. -/
set_option linter.unusedVariables false
set_option maxRecDepth 10000
set_option linter.unusedSimpArgs false
namespace Go.Proofs.YtojfiboeghonoaaGreat.Am
open Go

theorem imm_rcs {n : Nat} {us : List Rat} : Imm 12 (.is n false (rcs us)) := Imm.mono (imm_is (imm_flat imm_rtc _)) (by omega)
section
variable {q : Mq} {i : Nat} {x y : Rat} {us : List Rat} {xs : List RT} {h : Heap}
theorem k_lValue (hq : q.ok) (hx : Rz x 40) (hy : Rz y 40) (hu : us.length = q.ps.length) (hus : UsZ us 300) : byVal (callW gp) h fid.locate_Value [.agg (msc q.ms), .is us.length false (rcs us), pa x y] = some (valR q us x y (atI q.ps q.ts x y q.ts.length 0)) := byVal_imm (imm_L3' imm_ms imm_rcs imm_pa) (by
  have fa : ∀ k id off, opFaddr k (.rp id off) = some (.rp id (off + k)) := fun _ _ _ => rfl
  have m1 := hq.n1
  have kc := fun h => k_check (h := h) hq
  have nq : opBin .neq (.int .i64 (us.length : Int)) (.int .i64 (q.ps.length : Int)) = some (.bool false) := by rw [bin_neq]; exact congrArg (fun b => some (AV.bool b)) (decide_eq_false (by omega))
  have g := lval_l0 (f := false) hus (by omega) (y3 := .rp 0 0) (y5 := .rp 1 0) (y6 := .rp 2 0) us.length 0 [some (msc q.ms), some (ptc (pc (x, y))), some z3] (by omega) fun H' h1 h2 =>
    lval_main hq hx hy hu hus (H := H') (by rw [h2 0 (by simp)]; rfl) (by rw [h2 1 (by simp)]; rfl) (z := z3) (by rw [h2 2 (by simp)]; rfl) rfl
  rw [locate_Value.eq]
  unfold locate_Value.f
  simp (disch := first | exact dD | fail) only [Wd, W2d, W3d, Nat.reduceAdd, Nat.reduceMul, Nat.reduceSub, fa, ms_rc, kc, neqF, mq_0, nq]
  exact g)
end
end Go.Proofs.YtojfiboeghonoaaGreat.Am
