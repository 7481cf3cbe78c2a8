import Derived.Test.YthnapfmpnndneaaGreatRows
import Derived.Test.YthnapfmpnndneaaGreatAmRow
import Derived.Test.YthnapfmpnndneaaGreatAmLaws5
/- The row of the statement GeomMeets. -/
namespace Go.Proofs.YthnapfmpnndneaaGreat
open Go
namespace Am
set_option maxRecDepth 100000 in
theorem geomMeets_law (xs : List AV) (h : Dats Tryz.prog 9 Tryz.f6.params.toList xs) : cv gp 6 xs = some (.bool true) := by
  have hp : Tryz.f6.params.toList = [30] := by kernel_rfl
  rw [hp] at h
  obtain ⟨x0, rfl, h0⟩ := dats1 h
  obtain ⟨a0, rfl, p0⟩ := pt4_in (by kernel_rfl) (by kernel_rfl) h0
  exact geomMeets_cv a0 p0
end Am
set_option maxRecDepth 100000 in
theorem geomMeets_lifted (os : Os) (started : os.Started) (H : Type) (enc : TypeId × Value → H) :
    ReturnsInHanded {} Tryz.checked os 6 .any (Rows.geomMeetsSpec.pre6 enc Tryz.prog Tryz.f6 Rows.geomMeetsRow.domain false) (Rows.geomMeetsSpec.post enc Tryz.prog Tryz.f6 false true false false) :=
  Am.lift_law (fun _ h => by cases h) (fun _ => rfl) (C := Tryz.checked) (s := Rows.geomMeetsSpec) (k := 9) (rt := 4) (by kernel_rfl) started (by kernel_rfl) Tryz.func6
    (ChangeSpec.witness6 (enc := enc) (C := Tryz.checked) false ⟨#[], #[.agg #[.bool false, .string ⟨#[]⟩, .string ⟨#[]⟩, .bool false, .string ⟨#[]⟩, .string ⟨#[]⟩, .bool false, .string ⟨#[]⟩, .string ⟨#[]⟩, .bool false, .string ⟨#[]⟩, .string ⟨#[]⟩, .bool false, .string ⟨#[]⟩, .string ⟨#[]⟩, .bool false, .string ⟨#[]⟩, .string ⟨#[]⟩, .bool false, .string ⟨#[]⟩, .string ⟨#[]⟩, .bool false, .string ⟨#[]⟩, .string ⟨#[]⟩]], []⟩ 8 (by kernel_rfl) (by kernel_rfl) (by kernel_rfl) (by kernel_rfl))
    (by kernel_rfl) (by kernel_rfl) (by kernel_rfl) (by kernel_rfl) rfl (fun ds h => by match ds, h with | [_], _ => rfl) (by kernel_rfl) (by kernel_rfl) Am.geomMeets_law
theorem geomMeets_holds : Rows.GeomMeetsSaid :=
  OpenClaim.holds_of_wide 6 Tryz.f6 rfl rfl rfl rfl rfl rfl rfl ⟨rfl, rfl, rfl, rfl, rfl⟩ rfl rfl rfl rfl rfl (by kernel_rfl) Tryz.func6 (by kernel_rfl)
    (of_decide_eq_true (by kernel_rfl)) (by unfold Func.isWrapper; first | (rw [if_pos (by decide +kernel)]; kernel_rfl) | (rw [if_neg (by decide +kernel)]; exact ⟨rfl, rfl⟩))
    (fun os started H enc _ => geomMeets_lifted os started H enc)
end Go.Proofs.YthnapfmpnndneaaGreat