import Derived.Test.YtiblnpnfaadmcaaGreatRows
import Derived.Test.YtiblnpnfaadmcaaGreatAmRow
import Derived.Test.YtiblnpnfaadmcaaGreatAmPlan15
import Derived.Test.YtiblnpnfaadmcaaGreatAmRowIn
/- The row of the statement PlanLeast. -/
namespace Go.Proofs.YtiblnpnfaadmcaaGreat
open Go
namespace Am
set_option maxRecDepth 100000 in
theorem planLeast_law (xs : List AV) (h : Dats Tryz.prog 9 Tryz.f5.params.toList xs) : cv gp 5 xs = some (.bool true) := by
 have hp : Tryz.f5.params.toList = [22, 47] := by kernel_rfl
 rw [hp] at h
 obtain ⟨x0, x1, rfl, h0, h1⟩ := dats2 h
 obtain ⟨a0, rfl, p0⟩ := pts_in (pt := 31) (by kernel_rfl) (by kernel_rfl) (by kernel_rfl) h0
 obtain ⟨a1, rfl⟩ := sgs_in (sg := 70) (by kernel_rfl) (by kernel_rfl) (by kernel_rfl) h1
 exact zye5 a0 a1 p0
end Am
set_option maxRecDepth 100000 in
theorem planLeast_lifted (os : Os) (started : os.Started) (H : Type) (enc : TypeId × Value → H) :
  ReturnsInHanded {} Tryz.checked os 5 .any (Rows.planLeastSpec.pre6 enc Tryz.prog Tryz.f5 Rows.planLeastRow.domain false) (Rows.planLeastSpec.post enc Tryz.prog Tryz.f5 false true false false) :=
 Am.lift_law (fun _ h => by cases h) (fun _ => rfl) (C := Tryz.checked) (s := Rows.planLeastSpec) (k := 9) (rt := 4) (by kernel_rfl) started (by kernel_rfl) Tryz.func5
  (ChangeSpec.witness6 (enc := enc) (C := Tryz.checked) false ⟨#[], #[.slice none 0 0, .slice none 0 0], []⟩ 8 (by kernel_rfl) (by kernel_rfl) (by kernel_rfl) (by kernel_rfl))
  (by kernel_rfl) (by kernel_rfl) (by kernel_rfl) (by kernel_rfl) rfl (fun ds h => by match ds, h with | [_, _], _ => rfl) (by kernel_rfl) (by kernel_rfl) Am.planLeast_law
theorem planLeast_holds : Rows.PlanLeastSaid :=
 OpenClaim.holds_of_wide 5 Tryz.f5 rfl rfl rfl rfl rfl rfl rfl ⟨rfl, rfl, rfl, rfl, rfl⟩ rfl rfl rfl rfl rfl (by kernel_rfl) Tryz.func5 (by kernel_rfl)
  (of_decide_eq_true (by kernel_rfl)) (by unfold Func.isWrapper; first | (rw [if_pos (by decide +kernel)]; kernel_rfl) | (rw [if_neg (by decide +kernel)]; exact ⟨rfl, rfl⟩))
  (fun os started H enc _ => planLeast_lifted os started H enc)
end Go.Proofs.YtiblnpnfaadmcaaGreat
