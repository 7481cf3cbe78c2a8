import Derived.Test.YtmklpomcdnflbaaGreatRows
import Derived.Test.YtmklpomcdnflbaaGreatAmRow
import Derived.Test.YtmklpomcdnflbaaGreatAmLaws17e
/- The row of the statement ElementSums. -/
namespace Go.Proofs.YtmklpomcdnflbaaGreat
open Go
namespace Am
set_option maxRecDepth 100000 in
theorem elementSums_law (xs : List AV) (h : Dats Tryz.prog 9 Tryz.f11.params.toList xs) : cv gp 11 xs = some (.bool true) := by
  have hp : Tryz.f11.params.toList = [60, 62] := by kernel_rfl
  rw [hp] at h
  obtain ⟨x0, x1, rfl, h0, h1⟩ := dats2 h
  obtain ⟨a0, rfl, p0⟩ := p3_in (e := 40) (by kernel_rfl) (by kernel_rfl) (by kernel_rfl) (by kernel_rfl) h0
  obtain ⟨a1, rfl, p1⟩ := r3_in (e := 29) (by kernel_rfl) (by kernel_rfl) (by kernel_rfl) (by kernel_rfl) h1
  exact elementSums_cv a0 a1 p0 p1
end Am
set_option maxRecDepth 100000 in
theorem elementSums_lifted (os : Os) (started : os.Started) (H : Type) (enc : TypeId × Value → H) :
    ReturnsInHanded {} Tryz.checked os 11 .any (Rows.elementSumsSpec.pre6 enc Tryz.prog Tryz.f11 Rows.elementSumsRow.domain false) (Rows.elementSumsSpec.post enc Tryz.prog Tryz.f11 false true false false) :=
  Am.lift_law Am.dead_ok (fun _ => rfl) (C := Tryz.checked) (s := Rows.elementSumsSpec) (k := 9) (rt := 4) (by kernel_rfl) started (by kernel_rfl) Tryz.func11
    (ChangeSpec.witness6 (enc := enc) (C := Tryz.checked) false ⟨#[], #[.agg #[.bool false, .string ⟨#[]⟩, .string ⟨#[]⟩, .bool false, .string ⟨#[]⟩, .string ⟨#[]⟩, .bool false, .string ⟨#[]⟩, .string ⟨#[]⟩, .bool false, .string ⟨#[]⟩, .string ⟨#[]⟩, .bool false, .string ⟨#[]⟩, .string ⟨#[]⟩, .bool false, .string ⟨#[]⟩, .string ⟨#[]⟩], .agg #[.bool false, .string ⟨#[]⟩, .string ⟨#[]⟩, .bool false, .string ⟨#[]⟩, .string ⟨#[]⟩, .bool false, .string ⟨#[]⟩, .string ⟨#[]⟩]], []⟩ 8 (by kernel_rfl) (by kernel_rfl) (by kernel_rfl) (by kernel_rfl))
    (by kernel_rfl) (by kernel_rfl) (by kernel_rfl) (by kernel_rfl) rfl (fun ds h => by match ds, h with | [_, _], _ => rfl) (by kernel_rfl) (by kernel_rfl) Am.elementSums_law
theorem elementSums_holds : Rows.ElementSumsSaid :=
  OpenClaim.holds_of_wide 11 Tryz.f11 rfl rfl rfl rfl rfl rfl rfl ⟨rfl, rfl, rfl, rfl, rfl⟩ rfl rfl rfl rfl rfl (by kernel_rfl) Tryz.func11 (by kernel_rfl)
    (of_decide_eq_true (by kernel_rfl)) (by unfold Func.isWrapper; first | (rw [if_pos (by decide +kernel)]; kernel_rfl) | (rw [if_neg (by decide +kernel)]; exact ⟨rfl, rfl⟩))
    (fun os started H enc _ => elementSums_lifted os started H enc)
end Go.Proofs.YtmklpomcdnflbaaGreat