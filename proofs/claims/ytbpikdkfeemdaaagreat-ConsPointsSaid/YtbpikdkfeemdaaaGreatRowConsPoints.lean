import Derived.Test.YtbpikdkfeemdaaaGreatRows
import Derived.Test.YtbpikdkfeemdaaaGreatAmRow
import Derived.Test.YtbpikdkfeemdaaaGreatAmLaws6
/- The row of the statement ConsPoints. -/
namespace Go.Proofs.YtbpikdkfeemdaaaGreat
open Go
namespace Am
set_option maxRecDepth 100000 in
theorem consPoints_law (xs : List AV) (h : Dats Tryz.prog 9 Tryz.f8.params.toList xs) : cv gp 8 xs = some (.bool true) := by
  have hp : Tryz.f8.params.toList = [30] := by kernel_rfl
  rw [hp] at h
  obtain ⟨x0, rfl, h0⟩ := dats1 h
  obtain ⟨a0, rfl, p0⟩ := pt3_in (by kernel_rfl) (by kernel_rfl) h0
  exact consPoints_cv a0 p0
end Am
set_option maxRecDepth 100000 in
theorem consPoints_lifted (os : Os) (started : os.Started) (H : Type) (enc : TypeId × Value → H) :
    ReturnsInHanded {} Tryz.checked os 8 .any (Rows.consPointsSpec.pre6 enc Tryz.prog Tryz.f8 Rows.consPointsRow.domain false) (Rows.consPointsSpec.post enc Tryz.prog Tryz.f8 false true false false) :=
  Am.lift_law (C := Tryz.checked) (s := Rows.consPointsSpec) (k := 9) (rt := 4) (by kernel_rfl) started (by kernel_rfl) Tryz.func8
    (ChangeSpec.witness6 (enc := enc) (C := Tryz.checked) false ⟨#[], #[.agg #[.bool false, .string ⟨#[]⟩, .string ⟨#[]⟩, .bool false, .string ⟨#[]⟩, .string ⟨#[]⟩, .bool false, .string ⟨#[]⟩, .string ⟨#[]⟩, .bool false, .string ⟨#[]⟩, .string ⟨#[]⟩, .bool false, .string ⟨#[]⟩, .string ⟨#[]⟩, .bool false, .string ⟨#[]⟩, .string ⟨#[]⟩]], []⟩ 8 (by kernel_rfl) (by kernel_rfl) (by kernel_rfl) (by kernel_rfl))
    (by kernel_rfl) (by kernel_rfl) (by kernel_rfl) (by kernel_rfl) rfl (fun ds h => by match ds, h with | [_], _ => rfl) (by kernel_rfl) (by kernel_rfl) Am.consPoints_law
theorem consPoints_holds : Rows.ConsPointsSaid :=
  OpenClaim.holds_of_wide 8 Tryz.f8 rfl rfl rfl rfl rfl rfl rfl ⟨rfl, rfl, rfl, rfl, rfl⟩ rfl rfl rfl rfl rfl (by kernel_rfl) Tryz.func8 (by kernel_rfl)
    (of_decide_eq_true (by kernel_rfl)) (by unfold Func.isWrapper; first | (rw [if_pos (by decide +kernel)]; kernel_rfl) | (rw [if_neg (by decide +kernel)]; exact ⟨rfl, rfl⟩))
    (fun os started H enc _ => consPoints_lifted os started H enc)
end Go.Proofs.YtbpikdkfeemdaaaGreat