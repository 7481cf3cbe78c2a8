import Derived.Test.YtiblnpnfaadmcaaGreatAmPlan13
/- Section 09: PlanLeast. -/
set_option linter.unusedVariables false
set_option maxRecDepth 10000
set_option linter.unusedSimpArgs false
namespace Go.Proofs.YtiblnpnfaadmcaaGreat.Am
open Go

theorem CpR.hd {c c' : List AV} {T : Heap} {y : AV} {sz n : Nat} {cs : List AV} (h : CpR (some c :: T) y sz n cs) (hj : ∀ id, y = .rs sz id 0 n → id ≠ 0) : CpR (some c' :: T) y sz n cs := CpR.set h hj (some c') (by simp)
theorem byVal_own {h : Heap} {f : Nat} {args xs : List AV} {v : AV} (ha : args.mapM (freeze h) = some xs) (hx : ∀ x ∈ xs, Imm 12 x) (hb : byVal (callW gp) h f xs = some v) (hf : flatV v = true) : byVal (callW gp) h f args = some v := by
  rw [byVal_cv] at hb
  have h1 : xs.mapM (freeze h) = some xs := imm_mapM hx (Nat.le_refl _) h
  have h2 : xs.all noRef = true := imm_all hx (Nat.le_refl _)
  rw [h1] at hb
  simp only [Option.bind_some, h2, Bool.true_or, if_true] at hb
  refine byVal_flat ha ?_ hf
  cases hc : cv gp f xs with
  | none => rw [hc] at hb; cases hb
  | some w => rw [hc] at hb; exact hb
end Go.Proofs.YtiblnpnfaadmcaaGreat.Am
