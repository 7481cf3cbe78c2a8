import Derived.Test.YtmklpomcdnflbaaGreatRows
import Derived.Test.YtmklpomcdnflbaaGreatAmRow
import Derived.Test.YtmklpomcdnflbaaGreatAmLaws17c
/- The row of the statement ElementLinear. -/
namespace Go.Proofs.YtmklpomcdnflbaaGreat
open Go
namespace Am
set_option maxRecDepth 100000 in
theorem elementLinear_law (xs : List AV) (h : Dats Tryz.prog 9 Tryz.f13.params.toList xs) : cv gp 13 xs = some (.bool true) := by
  have hp : Tryz.f13.params.toList = [60, 62] := by kernel_rfl
  rw [hp] at h
  obtain ⟨x0, x1, rfl, h0, h1⟩ := dats2 h
  obtain ⟨a0, rfl, p0⟩ := p3_in (e := 40) (by kernel_rfl) (by kernel_rfl) (by kernel_rfl) (by kernel_rfl) h0
  obtain ⟨a1, rfl, p1⟩ := r3_in (e := 29) (by kernel_rfl) (by kernel_rfl) (by kernel_rfl) (by kernel_rfl) h1
  exact elementLinear_cv a0 a1 p0 p1
end Am
set_option maxRecDepth 100000 in
theorem elementLinear_lifted (os : Os) (started : os.Started) (H : Type) (enc : TypeId × Value → H) :
    ReturnsInHanded {} Tryz.checked os 13 .any (Rows.elementLinearSpec.pre6 enc Tryz.prog Tryz.f13 Rows.elementLinearRow.domain false) (Rows.elementLinearSpec.post enc Tryz.prog Tryz.f13 false true false false) :=
  Am.lift_law Am.dead_ok (fun _ => rfl) (C := Tryz.checked) (s := Rows.elementLinearSpec) (k := 9) (rt := 4) (by kernel_rfl) started (by kernel_rfl) Tryz.func13
    (ChangeSpec.witness6 (enc := enc) (C := Tryz.checked) false ⟨#[], #[.agg #[.bool false, .string ⟨#[]⟩, .string ⟨#[]⟩, .bool false, .string ⟨#[]⟩, .string ⟨#[]⟩, .bool false, .string ⟨#[]⟩, .string ⟨#[]⟩, .bool false, .string ⟨#[]⟩, .string ⟨#[]⟩, .bool false, .string ⟨#[]⟩, .string ⟨#[]⟩, .bool false, .string ⟨#[]⟩, .string ⟨#[]⟩], .agg #[.bool false, .string ⟨#[]⟩, .string ⟨#[]⟩, .bool false, .string ⟨#[]⟩, .string ⟨#[]⟩, .bool false, .string ⟨#[]⟩, .string ⟨#[]⟩]], []⟩ 8 (by kernel_rfl) (by kernel_rfl) (by kernel_rfl) (by kernel_rfl))
    (by kernel_rfl) (by kernel_rfl) (by kernel_rfl) (by kernel_rfl) rfl (fun ds h => by match ds, h with | [_, _], _ => rfl) (by kernel_rfl) (by kernel_rfl) Am.elementLinear_law
theorem elementLinear_holds : Rows.ElementLinearSaid :=
  OpenClaim.holds_of_wide 13 Tryz.f13 rfl rfl rfl rfl rfl rfl rfl ⟨rfl, rfl, rfl, rfl, rfl⟩ rfl rfl rfl rfl rfl (by kernel_rfl) Tryz.func13 (by kernel_rfl)
    (of_decide_eq_true (by kernel_rfl)) (by unfold Func.isWrapper; first | (rw [if_pos (by decide +kernel)]; kernel_rfl) | (rw [if_neg (by decide +kernel)]; exact ⟨rfl, rfl⟩))
    (fun os started H enc _ => elementLinear_lifted os started H enc)
end Go.Proofs.YtmklpomcdnflbaaGreat