import Derived.Test.YtiblnpnfaadmcaaGreatRows
import Derived.Test.YtiblnpnfaadmcaaGreatAmRow
import Derived.Test.YtiblnpnfaadmcaaGreatAmPlan11
import Derived.Test.YtiblnpnfaadmcaaGreatAmRowIn
/- The row of the statement PlanEnds. -/
namespace Go.Proofs.YtiblnpnfaadmcaaGreat
open Go
namespace Am
set_option maxRecDepth 100000 in
theorem planEnds_law (xs : List AV) (h : Dats Tryz.prog 9 Tryz.f7.params.toList xs) (hs : SzOk Tryz.prog Tryz.f7.params.toList xs) : cv gp 7 xs = some (.bool true) := by
  have hp : Tryz.f7.params.toList = [47, 3] := by kernel_rfl
  rw [hp] at h hs
  obtain ⟨x0, x1, rfl, h0, h1⟩ := dats2 h
  obtain ⟨a0, rfl⟩ := sgs_in (sg := 70) (by kernel_rfl) (by kernel_rfl) (by kernel_rfl) h0
  obtain ⟨a1, rfl, p1⟩ := int_in (k := 8) (by kernel_rfl) h1
  have hb : Tryz.prog.bytesOf 70 = 24 := by kernel_rfl
  have hu : Tryz.prog.underlying 47 = some (.slice 70) := by kernel_rfl
  have hz := hs.1 70 _ _ _ hu rfl
  rw [hb] at hz
  have hr : reachBytes = 140737488351232 := by decide
  exact planEnds_cv a0 a1 (by omega)
end Am
set_option maxRecDepth 100000 in
theorem planEnds_lifted (os : Os) (started : os.Started) (H : Type) (enc : TypeId × Value → H) :
    ReturnsInHanded {} Tryz.checked os 7 .any (Rows.planEndsSpec.pre6 enc Tryz.prog Tryz.f7 Rows.planEndsRow.domain false) (Rows.planEndsSpec.post enc Tryz.prog Tryz.f7 false true false false) :=
  Am.lift_law_sz (fun _ h => by cases h) (fun _ => rfl) (C := Tryz.checked) (s := Rows.planEndsSpec) (k := 9) (rt := 4) (by kernel_rfl) started (by kernel_rfl) Tryz.func7
    (ChangeSpec.witness6 (enc := enc) (C := Tryz.checked) false ⟨#[], #[.slice none 0 0, .int .i64 0], []⟩ 8 (by kernel_rfl) (by kernel_rfl) (by kernel_rfl) (by kernel_rfl))
    (by kernel_rfl) (by kernel_rfl) (by kernel_rfl) (by kernel_rfl) rfl (fun ds h => by match ds, h with | [_, _], _ => rfl) (by kernel_rfl) (by kernel_rfl) Am.planEnds_law
theorem planEnds_holds : Rows.PlanEndsSaid :=
  OpenClaim.holds_of_wide 7 Tryz.f7 rfl rfl rfl rfl rfl rfl rfl ⟨rfl, rfl, rfl, rfl, rfl⟩ rfl rfl rfl rfl rfl (by kernel_rfl) Tryz.func7 (by kernel_rfl)
    (of_decide_eq_true (by kernel_rfl)) (by unfold Func.isWrapper; first | (rw [if_pos (by decide +kernel)]; kernel_rfl) | (rw [if_neg (by decide +kernel)]; exact ⟨rfl, rfl⟩))
    (fun os started H enc _ => planEnds_lifted os started H enc)
end Go.Proofs.YtiblnpnfaadmcaaGreat
