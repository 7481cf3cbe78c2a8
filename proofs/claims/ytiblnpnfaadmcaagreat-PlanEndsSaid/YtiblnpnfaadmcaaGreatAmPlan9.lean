import Derived.Test.YtiblnpnfaadmcaaGreatAmPlan8
/- Section 09: small points, and the answers that the document gives. -/
set_option linter.unusedVariables false
set_option maxRecDepth 10000
set_option linter.unusedSimpArgs false
namespace Go.Proofs.YtiblnpnfaadmcaaGreat.Am
open Go

def sh1 (t : RT) : Prop := t.m.length ≤ 30 ∧ t.d.length ≤ 30
instance (t : RT) : Decidable (sh1 t) := by unfold sh1; infer_instance
def sh2 (p : PT) : Prop := sh1 p.1 ∧ sh1 p.2
instance (p : PT) : Decidable (sh2 p) := by unfold sh2; infer_instance
def fewP (l : List PT) : Prop := ∀ p ∈ l, sh2 p
instance (l : List PT) : Decidable (fewP l) := by unfold fewP; infer_instance
theorem byVal_via {h : Heap} {f : Nat} {args xs : List AV} {r : Option AV} (ha : args.mapM (freeze h) = some xs) (hn : args.all noRef = true) (hx : ∀ x ∈ xs, Imm 12 x) (hb : byVal (callW gp) h f xs = r) : byVal (callW gp) h f args = r := by
  rw [byVal_cv] at hb ⊢
  have h1 : xs.mapM (freeze h) = some xs := imm_mapM hx (Nat.le_refl _) h
  have h2 : xs.all noRef = true := imm_all hx (Nat.le_refl _)
  rw [h1] at hb
  rw [ha]
  simp only [Option.bind_some, hn, h2, Bool.true_or, if_true] at hb ⊢
  exact hb
section
variable {h : Heap}
def smlP (xs : List PT) (m : Nat) : Prop := xs.length ≤ m ∧ fewP xs
instance (xs : List PT) (m : Nat) : Decidable (smlP xs m) := by unfold smlP; infer_instance
theorem frz_isP {H : Heap} {xs : List PT} {n : Nat} {f : Bool} : freeze H (.is n f (xs.flatMap ptc)) = some (.is n false (xs.flatMap ptc)) := by
  show freezeN 12 H _ = _
  show ((xs.flatMap ptc).mapM (freezeN 11 H)).map (AV.is n false) = _
  rw [imm_mapM (imm_flat imm_ptc xs) (by omega)]
  rfl
theorem frz_isS {H : Heap} {xs : List Sg} {n : Nat} {f : Bool} : freeze H (.is n f (xs.flatMap sgc)) = some (.is n false (xs.flatMap sgc)) := by
  show freezeN 12 H _ = _
  show ((xs.flatMap sgc).mapM (freezeN 11 H)).map (AV.is n false) = _
  rw [imm_mapM (imm_flat imm_sgc xs) (by omega)]
  rfl
theorem nr_isP {xs : List PT} {n : Nat} {f : Bool} : noRef (.is n f (xs.flatMap ptc)) = true := imm_all (n := 11) (imm_flat imm_ptc xs) (by omega)
theorem nr_isS {xs : List Sg} {n : Nat} {f : Bool} : noRef (.is n f (xs.flatMap sgc)) = true := imm_all (n := 11) (imm_flat imm_sgc xs) (by omega)
end
end Go.Proofs.YtiblnpnfaadmcaaGreat.Am
