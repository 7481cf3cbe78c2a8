import Derived.Test.YthnapfmpnndneaaGreatRows
import Derived.Test.YthnapfmpnndneaaGreatAmRow
import Derived.Test.YthnapfmpnndneaaGreatAmLaws5
/- The row of the statement GeomWithin. -/
namespace Go.Proofs.YthnapfmpnndneaaGreat
open Go
namespace Am
set_option maxRecDepth 100000 in
theorem geomWithin_law (xs : List AV) (h : Dats Tryz.prog 9 Tryz.f5.params.toList xs) : cv gp 5 xs = some (.bool true) := by
  have hp : Tryz.f5.params.toList = [30] := by kernel_rfl
  rw [hp] at h
  obtain ⟨x0, rfl, h0⟩ := dats1 h
  obtain ⟨a0, rfl, p0⟩ := pt4_in (by kernel_rfl) (by kernel_rfl) h0
  exact geomWithin_cv a0 p0
end Am
set_option maxRecDepth 100000 in
theorem geomWithin_lifted (os : Os) (started : os.Started) (H : Type) (enc : TypeId × Value → H) :
    ReturnsInHanded {} Tryz.checked os 5 .any (Rows.geomWithinSpec.pre6 enc Tryz.prog Tryz.f5 Rows.geomWithinRow.domain false) (Rows.geomWithinSpec.post enc Tryz.prog Tryz.f5 false true false false) :=
  Am.lift_law (fun _ h => by cases h) (fun _ => rfl) (C := Tryz.checked) (s := Rows.geomWithinSpec) (k := 9) (rt := 4) (by kernel_rfl) started (by kernel_rfl) Tryz.func5
    (ChangeSpec.witness6 (enc := enc) (C := Tryz.checked) false ⟨#[], #[.agg #[.bool false, .string ⟨#[]⟩, .string ⟨#[]⟩, .bool false, .string ⟨#[]⟩, .string ⟨#[]⟩, .bool false, .string ⟨#[]⟩, .string ⟨#[]⟩, .bool false, .string ⟨#[]⟩, .string ⟨#[]⟩, .bool false, .string ⟨#[]⟩, .string ⟨#[]⟩, .bool false, .string ⟨#[]⟩, .string ⟨#[]⟩, .bool false, .string ⟨#[]⟩, .string ⟨#[]⟩, .bool false, .string ⟨#[]⟩, .string ⟨#[]⟩]], []⟩ 8 (by kernel_rfl) (by kernel_rfl) (by kernel_rfl) (by kernel_rfl))
    (by kernel_rfl) (by kernel_rfl) (by kernel_rfl) (by kernel_rfl) rfl (fun ds h => by match ds, h with | [_], _ => rfl) (by kernel_rfl) (by kernel_rfl) Am.geomWithin_law
theorem geomWithin_holds : Rows.GeomWithinSaid :=
  OpenClaim.holds_of_wide 5 Tryz.f5 rfl rfl rfl rfl rfl rfl rfl ⟨rfl, rfl, rfl, rfl, rfl⟩ rfl rfl rfl rfl rfl (by kernel_rfl) Tryz.func5 (by kernel_rfl)
    (of_decide_eq_true (by kernel_rfl)) (by unfold Func.isWrapper; first | (rw [if_pos (by decide +kernel)]; kernel_rfl) | (rw [if_neg (by decide +kernel)]; exact ⟨rfl, rfl⟩))
    (fun os started H enc _ => geomWithin_lifted os started H enc)
end Go.Proofs.YthnapfmpnndneaaGreat