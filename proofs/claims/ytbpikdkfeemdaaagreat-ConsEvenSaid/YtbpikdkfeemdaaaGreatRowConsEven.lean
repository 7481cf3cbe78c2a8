import Derived.Test.YtbpikdkfeemdaaaGreatRows
import Derived.Test.YtbpikdkfeemdaaaGreatAmRow
import Derived.Test.YtbpikdkfeemdaaaGreatAmLaws6
/- The row of the statement ConsEven. -/
namespace Go.Proofs.YtbpikdkfeemdaaaGreat
open Go
namespace Am
set_option maxRecDepth 100000 in
theorem consEven_law (xs : List AV) (h : Dats Tryz.prog 9 Tryz.f6.params.toList xs) : cv gp 6 xs = some (.bool true) := by
  have hp : Tryz.f6.params.toList = [30] := by kernel_rfl
  rw [hp] at h
  obtain ⟨x0, rfl, h0⟩ := dats1 h
  obtain ⟨a0, rfl, p0⟩ := pt3_in (by kernel_rfl) (by kernel_rfl) h0
  exact consEven_cv a0 p0
end Am
set_option maxRecDepth 100000 in
theorem consEven_lifted (os : Os) (started : os.Started) (H : Type) (enc : TypeId × Value → H) :
    ReturnsInHanded {} Tryz.checked os 6 .any (Rows.consEvenSpec.pre6 enc Tryz.prog Tryz.f6 Rows.consEvenRow.domain false) (Rows.consEvenSpec.post enc Tryz.prog Tryz.f6 false true false false) :=
  Am.lift_law (C := Tryz.checked) (s := Rows.consEvenSpec) (k := 9) (rt := 4) (by kernel_rfl) started (by kernel_rfl) Tryz.func6
    (ChangeSpec.witness6 (enc := enc) (C := Tryz.checked) false ⟨#[], #[.agg #[.bool false, .string ⟨#[]⟩, .string ⟨#[]⟩, .bool false, .string ⟨#[]⟩, .string ⟨#[]⟩, .bool false, .string ⟨#[]⟩, .string ⟨#[]⟩, .bool false, .string ⟨#[]⟩, .string ⟨#[]⟩, .bool false, .string ⟨#[]⟩, .string ⟨#[]⟩, .bool false, .string ⟨#[]⟩, .string ⟨#[]⟩]], []⟩ 8 (by kernel_rfl) (by kernel_rfl) (by kernel_rfl) (by kernel_rfl))
    (by kernel_rfl) (by kernel_rfl) (by kernel_rfl) (by kernel_rfl) rfl (fun ds h => by match ds, h with | [_], _ => rfl) (by kernel_rfl) (by kernel_rfl) Am.consEven_law
theorem consEven_holds : Rows.ConsEvenSaid :=
  OpenClaim.holds_of_wide 6 Tryz.f6 rfl rfl rfl rfl rfl rfl rfl ⟨rfl, rfl, rfl, rfl, rfl⟩ rfl rfl rfl rfl rfl (by kernel_rfl) Tryz.func6 (by kernel_rfl)
    (of_decide_eq_true (by kernel_rfl)) (by unfold Func.isWrapper; first | (rw [if_pos (by decide +kernel)]; kernel_rfl) | (rw [if_neg (by decide +kernel)]; exact ⟨rfl, rfl⟩))
    (fun os started H enc _ => consEven_lifted os started H enc)
end Go.Proofs.YtbpikdkfeemdaaaGreat