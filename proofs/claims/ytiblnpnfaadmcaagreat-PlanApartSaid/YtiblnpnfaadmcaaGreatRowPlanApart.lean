import Derived.Test.YtiblnpnfaadmcaaGreatRows
import Derived.Test.YtiblnpnfaadmcaaGreatAmRow
import Derived.Test.YtiblnpnfaadmcaaGreatAmPIn
/- The row of the statement PlanApart. -/

namespace Go.Proofs.YtiblnpnfaadmcaaGreat
open Go
namespace Am
set_option maxRecDepth 100000 in
theorem planApart_law (xs : List AV) (h : Dats Tryz.prog 9 Tryz.f4.params.toList xs) : cv gp 4 xs = some (.bool true) := by
 have hp : Tryz.f4.params.toList = [40] := by kernel_rfl
 rw [hp] at h
 obtain ⟨x0, rfl, h0⟩ := dats1 h
 obtain ⟨a0, rfl, p0⟩ := p4_in (e := 31) (by kernel_rfl) (by kernel_rfl) (by kernel_rfl) (by kernel_rfl) h0
 exact zydq a0 p0
end Am
set_option maxRecDepth 100000 in
theorem planApart_lifted (os : Os) (started : os.Started) (H : Type) (enc : TypeId × Value → H) :
  ReturnsInHanded {} Tryz.checked os 4 .any (Rows.planApartSpec.pre6 enc Tryz.prog Tryz.f4 Rows.planApartRow.domain false) (Rows.planApartSpec.post enc Tryz.prog Tryz.f4 false true false false) :=
 Am.lift_law (fun _ h => by cases h) (fun _ => rfl) (C := Tryz.checked) (s := Rows.planApartSpec) (k := 9) (rt := 4) (by kernel_rfl) started (by kernel_rfl) Tryz.func4
  (ChangeSpec.witness6 (enc := enc) (C := Tryz.checked) false ⟨#[], #[.agg #[.bool false, .string ⟨#[]⟩, .string ⟨#[]⟩, .bool false, .string ⟨#[]⟩, .string ⟨#[]⟩, .bool false, .string ⟨#[]⟩, .string ⟨#[]⟩, .bool false, .string ⟨#[]⟩, .string ⟨#[]⟩, .bool false, .string ⟨#[]⟩, .string ⟨#[]⟩, .bool false, .string ⟨#[]⟩, .string ⟨#[]⟩, .bool false, .string ⟨#[]⟩, .string ⟨#[]⟩, .bool false, .string ⟨#[]⟩, .string ⟨#[]⟩]], []⟩ 8 (by kernel_rfl) (by kernel_rfl) (by kernel_rfl) (by kernel_rfl))
  (by kernel_rfl) (by kernel_rfl) (by kernel_rfl) (by kernel_rfl) rfl (fun ds h => by match ds, h with | [_], _ => rfl) (by kernel_rfl) (by kernel_rfl) Am.planApart_law
theorem planApart_holds : Rows.PlanApartSaid :=
 OpenClaim.holds_of_wide 4 Tryz.f4 rfl rfl rfl rfl rfl rfl rfl ⟨rfl, rfl, rfl, rfl, rfl⟩ rfl rfl rfl rfl rfl (by kernel_rfl) Tryz.func4 (by kernel_rfl)
  (of_decide_eq_true (by kernel_rfl)) (by unfold Func.isWrapper; first | (rw [if_pos (by decide +kernel)]; kernel_rfl) | (rw [if_neg (by decide +kernel)]; exact ⟨rfl, rfl⟩))
  (fun os started H enc _ => planApart_lifted os started H enc)
end Go.Proofs.YtiblnpnfaadmcaaGreat
