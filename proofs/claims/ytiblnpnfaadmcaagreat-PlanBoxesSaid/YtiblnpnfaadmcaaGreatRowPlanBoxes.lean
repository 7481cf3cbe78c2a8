import Derived.Test.YtiblnpnfaadmcaaGreatRows
import Derived.Test.YtiblnpnfaadmcaaGreatAmRow
import Derived.Test.YtiblnpnfaadmcaaGreatAmPlan21
import Derived.Test.YtiblnpnfaadmcaaGreatAmRowIn
/- The row of the statement PlanBoxes. -/
namespace Go.Proofs.YtiblnpnfaadmcaaGreat
open Go
namespace Am
set_option maxRecDepth 100000 in
theorem planBoxes_law (xs : List AV) (h : Dats Tryz.prog 9 Tryz.f3.params.toList xs) : cv gp 3 xs = some (.bool true) := by
  have hp : Tryz.f3.params.toList = [22] := by kernel_rfl
  rw [hp] at h
  obtain ⟨x0, rfl, h0⟩ := dats1 h
  obtain ⟨a0, rfl, p0⟩ := pts_in (pt := 31) (by kernel_rfl) (by kernel_rfl) (by kernel_rfl) h0
  exact planBoxes_cv a0 p0
end Am
set_option maxRecDepth 100000 in
theorem planBoxes_lifted (os : Os) (started : os.Started) (H : Type) (enc : TypeId × Value → H) :
    ReturnsInHanded {} Tryz.checked os 3 .any (Rows.planBoxesSpec.pre6 enc Tryz.prog Tryz.f3 Rows.planBoxesRow.domain false) (Rows.planBoxesSpec.post enc Tryz.prog Tryz.f3 false true false false) :=
  Am.lift_law (fun _ h => by cases h) (fun _ => rfl) (C := Tryz.checked) (s := Rows.planBoxesSpec) (k := 9) (rt := 4) (by kernel_rfl) started (by kernel_rfl) Tryz.func3
    (ChangeSpec.witness6 (enc := enc) (C := Tryz.checked) false ⟨#[], #[.slice none 0 0], []⟩ 8 (by kernel_rfl) (by kernel_rfl) (by kernel_rfl) (by kernel_rfl))
    (by kernel_rfl) (by kernel_rfl) (by kernel_rfl) (by kernel_rfl) rfl (fun ds h => by match ds, h with | [_], _ => rfl) (by kernel_rfl) (by kernel_rfl) Am.planBoxes_law
theorem planBoxes_holds : Rows.PlanBoxesSaid :=
  OpenClaim.holds_of_wide 3 Tryz.f3 rfl rfl rfl rfl rfl rfl rfl ⟨rfl, rfl, rfl, rfl, rfl⟩ rfl rfl rfl rfl rfl (by kernel_rfl) Tryz.func3 (by kernel_rfl)
    (of_decide_eq_true (by kernel_rfl)) (by unfold Func.isWrapper; first | (rw [if_pos (by decide +kernel)]; kernel_rfl) | (rw [if_neg (by decide +kernel)]; exact ⟨rfl, rfl⟩))
    (fun os started H enc _ => planBoxes_lifted os started H enc)
end Go.Proofs.YtiblnpnfaadmcaaGreat
