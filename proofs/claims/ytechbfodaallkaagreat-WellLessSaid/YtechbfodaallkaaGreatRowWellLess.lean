import Derived.Test.YtechbfodaallkaaGreatRows
import Derived.Test.YtechbfodaallkaaGreatAmRow
import Derived.Test.YtechbfodaallkaaGreatAmWell20
import Derived.Test.YtechbfodaallkaaGreatAmPlanIn
/- The row of the statement WellLess. -/
namespace Go.Proofs.YtechbfodaallkaaGreat
open Go
namespace Am
set_option maxRecDepth 100000 in
theorem wellLess_law (xs : List AV) (h : Dats Tryz.prog 9 Tryz.f5.params.toList xs) : cv gp 5 xs = some (.bool true) := by
  have hp : Tryz.f5.params.toList = [48, 3] := by kernel_rfl
  rw [hp] at h
  obtain ⟨x0, x1, rfl, h0, h1⟩ := dats2 h
  obtain ⟨a0, rfl, p0⟩ := plan_in (pt := 28) (sg := 56) (rt := 26) (by kernel_rfl) (by kernel_rfl) h0
  obtain ⟨a1, rfl, p1⟩ := int_in (k := 8) (by kernel_rfl) h1
  exact wellLess_cv a0 a1 p0 p1
end Am
set_option maxRecDepth 100000 in
theorem wellLess_lifted (os : Os) (started : os.Started) (H : Type) (enc : TypeId × Value → H) :
    ReturnsInHanded {} Tryz.checked os 5 .any (Rows.wellLessSpec.pre6 enc Tryz.prog Tryz.f5 Rows.wellLessRow.domain false) (Rows.wellLessSpec.post enc Tryz.prog Tryz.f5 false true false false) :=
  Am.lift_law (fun _ h => by cases h) (fun _ => rfl) (C := Tryz.checked) (s := Rows.wellLessSpec) (k := 9) (rt := 4) (by kernel_rfl) started (by kernel_rfl) Tryz.func5
    (ChangeSpec.witness6 (enc := enc) (C := Tryz.checked) false ⟨#[], #[.agg #[.slice none 0 0, .slice none 0 0, .slice none 0 0, .bool false, .string ⟨#[]⟩, .string ⟨#[]⟩, .bool false, .string ⟨#[]⟩, .string ⟨#[]⟩, .bool false, .string ⟨#[]⟩, .string ⟨#[]⟩, .bool false, .string ⟨#[]⟩, .string ⟨#[]⟩, .bool false, .string ⟨#[]⟩, .string ⟨#[]⟩, .bool false, .string ⟨#[]⟩, .string ⟨#[]⟩, .bool false, .string ⟨#[]⟩, .string ⟨#[]⟩, .bool false, .string ⟨#[]⟩, .string ⟨#[]⟩, .bool false, .string ⟨#[]⟩, .string ⟨#[]⟩, .bool false, .string ⟨#[]⟩, .string ⟨#[]⟩, .bool false, .string ⟨#[]⟩, .string ⟨#[]⟩, .bool false, .string ⟨#[]⟩, .string ⟨#[]⟩], .int .i64 0], []⟩ 8 (by kernel_rfl) (by kernel_rfl) (by kernel_rfl) (by kernel_rfl))
    (by kernel_rfl) (by kernel_rfl) (by kernel_rfl) (by kernel_rfl) rfl (fun ds h => by match ds, h with | [_, _], _ => rfl) (by kernel_rfl) (by kernel_rfl) Am.wellLess_law
theorem wellLess_holds : Rows.WellLessSaid :=
  OpenClaim.holds_of_wide 5 Tryz.f5 rfl rfl rfl rfl rfl rfl rfl ⟨rfl, rfl, rfl, rfl, rfl⟩ rfl rfl rfl rfl rfl (by kernel_rfl) Tryz.func5 (by kernel_rfl)
    (of_decide_eq_true (by kernel_rfl)) (by unfold Func.isWrapper; first | (rw [if_pos (by decide +kernel)]; kernel_rfl) | (rw [if_neg (by decide +kernel)]; exact ⟨rfl, rfl⟩))
    (fun os started H enc _ => wellLess_lifted os started H enc)
end Go.Proofs.YtechbfodaallkaaGreat
