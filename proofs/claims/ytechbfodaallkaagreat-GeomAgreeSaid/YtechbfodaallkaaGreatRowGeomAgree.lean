import Derived.Test.YtechbfodaallkaaGreatRows
import Derived.Test.YtechbfodaallkaaGreatAmRow
import Derived.Test.YtechbfodaallkaaGreatAmLaw5a
/- The row of the statement GeomAgree. -/

namespace Go.Proofs.YtechbfodaallkaaGreat
open Go
namespace Am
set_option maxRecDepth 100000 in
theorem geomAgree_law (xs : List AV) (h : Dats Tryz.prog 9 Tryz.f3.params.toList xs) : cv gp 3 xs = some (.bool true) := by
  have hp : Tryz.f3.params.toList = [30] := by kernel_rfl
  rw [hp] at h
  obtain ⟨x0, rfl, h0⟩ := dats1 h
  obtain ⟨a0, rfl, p0⟩ := pt4_in (by kernel_rfl) (by kernel_rfl) h0
  exact geomAgree_cv a0 p0
end Am
set_option maxRecDepth 100000 in
theorem geomAgree_lifted (os : Os) (started : os.Started) (H : Type) (enc : TypeId × Value → H) :
    ReturnsInHanded {} Tryz.checked os 3 .any (Rows.geomAgreeSpec.pre6 enc Tryz.prog Tryz.f3 Rows.geomAgreeRow.domain false) (Rows.geomAgreeSpec.post enc Tryz.prog Tryz.f3 false true false false) :=
  Am.lift_law (fun _ h => by cases h) (fun _ => rfl) (C := Tryz.checked) (s := Rows.geomAgreeSpec) (k := 9) (rt := 4) (by kernel_rfl) started (by kernel_rfl) Tryz.func3
    (ChangeSpec.witness6 (enc := enc) (C := Tryz.checked) false ⟨#[], #[.agg #[.bool false, .string ⟨#[]⟩, .string ⟨#[]⟩, .bool false, .string ⟨#[]⟩, .string ⟨#[]⟩, .bool false, .string ⟨#[]⟩, .string ⟨#[]⟩, .bool false, .string ⟨#[]⟩, .string ⟨#[]⟩, .bool false, .string ⟨#[]⟩, .string ⟨#[]⟩, .bool false, .string ⟨#[]⟩, .string ⟨#[]⟩, .bool false, .string ⟨#[]⟩, .string ⟨#[]⟩, .bool false, .string ⟨#[]⟩, .string ⟨#[]⟩]], []⟩ 8 (by kernel_rfl) (by kernel_rfl) (by kernel_rfl) (by kernel_rfl))
    (by kernel_rfl) (by kernel_rfl) (by kernel_rfl) (by kernel_rfl) rfl (fun ds h => by match ds, h with | [_], _ => rfl) (by kernel_rfl) (by kernel_rfl) Am.geomAgree_law
theorem geomAgree_holds : Rows.GeomAgreeSaid :=
  OpenClaim.holds_of_wide 3 Tryz.f3 rfl rfl rfl rfl rfl rfl rfl ⟨rfl, rfl, rfl, rfl, rfl⟩ rfl rfl rfl rfl rfl (by kernel_rfl) Tryz.func3 (by kernel_rfl)
    (of_decide_eq_true (by kernel_rfl)) (by unfold Func.isWrapper; first | (rw [if_pos (by decide +kernel)]; kernel_rfl) | (rw [if_neg (by decide +kernel)]; exact ⟨rfl, rfl⟩))
    (fun os started H enc _ => geomAgree_lifted os started H enc)
end Go.Proofs.YtechbfodaallkaaGreat
