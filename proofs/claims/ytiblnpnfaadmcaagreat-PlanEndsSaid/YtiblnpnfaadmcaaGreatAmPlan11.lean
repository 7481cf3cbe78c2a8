import Derived.Test.YtiblnpnfaadmcaaGreatAmPlan10
/- Section 09: PlanEnds, PlanApart. -/
set_option linter.unusedVariables false
set_option maxRecDepth 10000
set_option linter.unusedSimpArgs false
namespace Go.Proofs.YtiblnpnfaadmcaaGreat.Am
open Go

theorem planEnds_cv (xs : List Sg) (v : Int) (hn : xs.length ≤ 5864062014634) : cv gp fid.zf07 [.is xs.length false (xs.flatMap sgc), .int .i64 v] = some (.bool true) := by
  have k1 := fun h => k_pat (h := h) (xs := xs) (v := v) (by omega)
  have k2 := fun h => k_rat9 (h := h) (xs := xs) (v := v) (by omega)
  have hl : (atL xs v xs.length 0).length ≤ 5900000000000 := by have := @atL_len xs v xs.length 0; omega
  have k3 := fun h => k_same (h := h) (l := atL xs v xs.length 0) (m := atL xs v xs.length 0) hl hl
  rw [decide_eq_true rfl] at k3
  have kl := fun h => c_live9 (h := h)
  rw [zf07.eq]
  unfold zf07.f
  generalize atL xs v xs.length 0 = L at *
  simp (disch := first | exact dD | fail) only [Wd, W2d, W3d, Nat.reduceAdd, Nat.reduceMul, Nat.reduceSub, k1, k2, k3, kl]
abbrev T4 := PT × PT × PT × PT
def T4.ok (t : T4) : Prop := t.1.ok ∧ t.2.1.ok ∧ t.2.2.1.ok ∧ t.2.2.2.ok
section
variable {h : Heap} {ax ay bx b_ cx cy dx dy : Rat}
end
end Go.Proofs.YtiblnpnfaadmcaaGreat.Am
