import Derived.Test.YtiblnpnfaadmcaaGreatRows
import Derived.Test.YtiblnpnfaadmcaaGreatAmRow
import Derived.Test.YtiblnpnfaadmcaaGreatAmPlan18
import Derived.Test.YtiblnpnfaadmcaaGreatAmRowIn
/- The row of the statement PlanScaled. -/
namespace Go.Proofs.YtiblnpnfaadmcaaGreat
open Go
namespace Am
set_option maxRecDepth 100000 in
theorem planScaled_law (xs : List AV) (h : Dats Tryz.prog 9 Tryz.f8.params.toList xs) : cv gp 8 xs = some (.bool true) := by
  have hp : Tryz.f8.params.toList = [22, 47, 3] := by kernel_rfl
  rw [hp] at h
  obtain ⟨x0, x1, x2, rfl, h0, h1, h2⟩ := dats3 h
  obtain ⟨a0, rfl, p0⟩ := pts_in (pt := 31) (by kernel_rfl) (by kernel_rfl) (by kernel_rfl) h0
  obtain ⟨a1, rfl⟩ := sgs_in (sg := 70) (by kernel_rfl) (by kernel_rfl) (by kernel_rfl) h1
  obtain ⟨a2, rfl, p2⟩ := int_in (k := 8) (by kernel_rfl) h2
  exact planScaled_cv a0 a1 a2 p0 p2
end Am
set_option maxRecDepth 100000 in
theorem planScaled_lifted (os : Os) (started : os.Started) (H : Type) (enc : TypeId × Value → H) :
    ReturnsInHanded {} Tryz.checked os 8 .any (Rows.planScaledSpec.pre6 enc Tryz.prog Tryz.f8 Rows.planScaledRow.domain false) (Rows.planScaledSpec.post enc Tryz.prog Tryz.f8 false true false false) :=
  Am.lift_law (fun _ h => by cases h) (fun _ => rfl) (C := Tryz.checked) (s := Rows.planScaledSpec) (k := 9) (rt := 4) (by kernel_rfl) started (by kernel_rfl) Tryz.func8
    (ChangeSpec.witness6 (enc := enc) (C := Tryz.checked) false ⟨#[], #[.slice none 0 0, .slice none 0 0, .int .i64 0], []⟩ 8 (by kernel_rfl) (by kernel_rfl) (by kernel_rfl) (by kernel_rfl))
    (by kernel_rfl) (by kernel_rfl) (by kernel_rfl) (by kernel_rfl) rfl (fun ds h => by match ds, h with | [_, _, _], _ => rfl) (by kernel_rfl) (by kernel_rfl) Am.planScaled_law
theorem planScaled_holds : Rows.PlanScaledSaid :=
  OpenClaim.holds_of_wide 8 Tryz.f8 rfl rfl rfl rfl rfl rfl rfl ⟨rfl, rfl, rfl, rfl, rfl⟩ rfl rfl rfl rfl rfl (by kernel_rfl) Tryz.func8 (by kernel_rfl)
    (of_decide_eq_true (by kernel_rfl)) (by unfold Func.isWrapper; first | (rw [if_pos (by decide +kernel)]; kernel_rfl) | (rw [if_neg (by decide +kernel)]; exact ⟨rfl, rfl⟩))
    (fun os started H enc _ => planScaled_lifted os started H enc)
end Go.Proofs.YtiblnpnfaadmcaaGreat
