import Derived.Test.YtbpikdkfeemdaaaGreatRows
import Derived.Test.YtbpikdkfeemdaaaGreatAmRow
import Derived.Test.YtbpikdkfeemdaaaGreatAmLaws6
/- The row of the statement ConsParts. -/
namespace Go.Proofs.YtbpikdkfeemdaaaGreat
open Go
namespace Am
set_option maxRecDepth 100000 in
theorem consParts_law (xs : List AV) (h : Dats Tryz.prog 9 Tryz.f7.params.toList xs) : cv gp 7 xs = some (.bool true) := by
  have hp : Tryz.f7.params.toList = [30, 28] := by kernel_rfl
  rw [hp] at h
  obtain ⟨x0, x1, rfl, h0, h1⟩ := dats2 h
  obtain ⟨a0, rfl, p0⟩ := pt3_in (by kernel_rfl) (by kernel_rfl) h0
  obtain ⟨a1, rfl, p1⟩ := pt_in (by kernel_rfl) (by kernel_rfl) h1
  exact consParts_cv a0 a1 p0 p1
end Am
set_option maxRecDepth 100000 in
theorem consParts_lifted (os : Os) (started : os.Started) (H : Type) (enc : TypeId × Value → H) :
    ReturnsInHanded {} Tryz.checked os 7 .any (Rows.consPartsSpec.pre6 enc Tryz.prog Tryz.f7 Rows.consPartsRow.domain false) (Rows.consPartsSpec.post enc Tryz.prog Tryz.f7 false true false false) :=
  Am.lift_law (C := Tryz.checked) (s := Rows.consPartsSpec) (k := 9) (rt := 4) (by kernel_rfl) started (by kernel_rfl) Tryz.func7
    (ChangeSpec.witness6 (enc := enc) (C := Tryz.checked) false ⟨#[], #[.agg #[.bool false, .string ⟨#[]⟩, .string ⟨#[]⟩, .bool false, .string ⟨#[]⟩, .string ⟨#[]⟩, .bool false, .string ⟨#[]⟩, .string ⟨#[]⟩, .bool false, .string ⟨#[]⟩, .string ⟨#[]⟩, .bool false, .string ⟨#[]⟩, .string ⟨#[]⟩, .bool false, .string ⟨#[]⟩, .string ⟨#[]⟩], .agg #[.bool false, .string ⟨#[]⟩, .string ⟨#[]⟩, .bool false, .string ⟨#[]⟩, .string ⟨#[]⟩]], []⟩ 8 (by kernel_rfl) (by kernel_rfl) (by kernel_rfl) (by kernel_rfl))
    (by kernel_rfl) (by kernel_rfl) (by kernel_rfl) (by kernel_rfl) rfl (fun ds h => by match ds, h with | [_, _], _ => rfl) (by kernel_rfl) (by kernel_rfl) Am.consParts_law
theorem consParts_holds : Rows.ConsPartsSaid :=
  OpenClaim.holds_of_wide 7 Tryz.f7 rfl rfl rfl rfl rfl rfl rfl ⟨rfl, rfl, rfl, rfl, rfl⟩ rfl rfl rfl rfl rfl (by kernel_rfl) Tryz.func7 (by kernel_rfl)
    (of_decide_eq_true (by kernel_rfl)) (by unfold Func.isWrapper; first | (rw [if_pos (by decide +kernel)]; kernel_rfl) | (rw [if_neg (by decide +kernel)]; exact ⟨rfl, rfl⟩))
    (fun os started H enc _ => consParts_lifted os started H enc)
end Go.Proofs.YtbpikdkfeemdaaaGreat