import Derived.Test.YtechbfodaallkaaGreatRows
import Derived.Test.YtechbfodaallkaaGreatAmRow
import Derived.Test.YtechbfodaallkaaGreatAmWell14
import Derived.Test.YtechbfodaallkaaGreatAmPlanIn
/- The row of the statement WellChecks. -/
namespace Go.Proofs.YtechbfodaallkaaGreat
open Go
namespace Am
set_option maxRecDepth 100000 in
theorem wellChecks_law (xs : List AV) (h : Dats Tryz.prog 9 Tryz.f4.params.toList xs) : cv gp 4 xs = some (.bool true) := by
  have hp : Tryz.f4.params.toList = [48] := by kernel_rfl
  rw [hp] at h
  obtain ⟨x0, rfl, h0⟩ := dats1 h
  obtain ⟨a0, rfl, p0⟩ := plan_in (pt := 28) (sg := 56) (rt := 26) (by kernel_rfl) (by kernel_rfl) h0
  exact wellChecks_cv a0 p0
end Am
set_option maxRecDepth 100000 in
theorem wellChecks_lifted (os : Os) (started : os.Started) (H : Type) (enc : TypeId × Value → H) :
    ReturnsInHanded {} Tryz.checked os 4 .any (Rows.wellChecksSpec.pre6 enc Tryz.prog Tryz.f4 Rows.wellChecksRow.domain false) (Rows.wellChecksSpec.post enc Tryz.prog Tryz.f4 false true false false) :=
  Am.lift_law (fun _ h => by cases h) (fun _ => rfl) (C := Tryz.checked) (s := Rows.wellChecksSpec) (k := 9) (rt := 4) (by kernel_rfl) started (by kernel_rfl) Tryz.func4
    (ChangeSpec.witness6 (enc := enc) (C := Tryz.checked) false ⟨#[], #[.agg #[.slice none 0 0, .slice none 0 0, .slice none 0 0, .bool false, .string ⟨#[]⟩, .string ⟨#[]⟩, .bool false, .string ⟨#[]⟩, .string ⟨#[]⟩, .bool false, .string ⟨#[]⟩, .string ⟨#[]⟩, .bool false, .string ⟨#[]⟩, .string ⟨#[]⟩, .bool false, .string ⟨#[]⟩, .string ⟨#[]⟩, .bool false, .string ⟨#[]⟩, .string ⟨#[]⟩, .bool false, .string ⟨#[]⟩, .string ⟨#[]⟩, .bool false, .string ⟨#[]⟩, .string ⟨#[]⟩, .bool false, .string ⟨#[]⟩, .string ⟨#[]⟩, .bool false, .string ⟨#[]⟩, .string ⟨#[]⟩, .bool false, .string ⟨#[]⟩, .string ⟨#[]⟩, .bool false, .string ⟨#[]⟩, .string ⟨#[]⟩]], []⟩ 8 (by kernel_rfl) (by kernel_rfl) (by kernel_rfl) (by kernel_rfl))
    (by kernel_rfl) (by kernel_rfl) (by kernel_rfl) (by kernel_rfl) rfl (fun ds h => by match ds, h with | [_], _ => rfl) (by kernel_rfl) (by kernel_rfl) Am.wellChecks_law
theorem wellChecks_holds : Rows.WellChecksSaid :=
  OpenClaim.holds_of_wide 4 Tryz.f4 rfl rfl rfl rfl rfl rfl rfl ⟨rfl, rfl, rfl, rfl, rfl⟩ rfl rfl rfl rfl rfl (by kernel_rfl) Tryz.func4 (by kernel_rfl)
    (of_decide_eq_true (by kernel_rfl)) (by unfold Func.isWrapper; first | (rw [if_pos (by decide +kernel)]; kernel_rfl) | (rw [if_neg (by decide +kernel)]; exact ⟨rfl, rfl⟩))
    (fun os started H enc _ => wellChecks_lifted os started H enc)
end Go.Proofs.YtechbfodaallkaaGreat
