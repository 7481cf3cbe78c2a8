import Derived.Test.YtmklpomcdnflbaaGreatRows
import Derived.Test.YtmklpomcdnflbaaGreatAmRow
import Derived.Test.YtmklpomcdnflbaaGreatAmLaws17d
/- The row of the statement ElementMoved. -/
namespace Go.Proofs.YtmklpomcdnflbaaGreat
open Go
namespace Am
set_option maxRecDepth 100000 in
theorem elementMoved_law (xs : List AV) (h : Dats Tryz.prog 9 Tryz.f12.params.toList xs) : cv gp 12 xs = some (.bool true) := by
  have hp : Tryz.f12.params.toList = [60, 40, 29] := by kernel_rfl
  rw [hp] at h
  obtain ⟨x0, x1, x2, rfl, h0, h1, h2⟩ := dats3 h
  obtain ⟨a0, rfl, p0⟩ := p3_in (e := 40) (by kernel_rfl) (by kernel_rfl) (by kernel_rfl) (by kernel_rfl) h0
  obtain ⟨a1, rfl, p1⟩ := pt_in (by kernel_rfl) (by kernel_rfl) h1
  obtain ⟨a2, rfl, p2⟩ := rat_in (by kernel_rfl) (by kernel_rfl) h2
  exact elementMoved_cv a0 a1 a2 p0 p1 p2
end Am
set_option maxRecDepth 100000 in
theorem elementMoved_lifted (os : Os) (started : os.Started) (H : Type) (enc : TypeId × Value → H) :
    ReturnsInHanded {} Tryz.checked os 12 .any (Rows.elementMovedSpec.pre6 enc Tryz.prog Tryz.f12 Rows.elementMovedRow.domain false) (Rows.elementMovedSpec.post enc Tryz.prog Tryz.f12 false true false false) :=
  Am.lift_law Am.dead_ok (fun _ => rfl) (C := Tryz.checked) (s := Rows.elementMovedSpec) (k := 9) (rt := 4) (by kernel_rfl) started (by kernel_rfl) Tryz.func12
    (ChangeSpec.witness6 (enc := enc) (C := Tryz.checked) false ⟨#[], #[.agg #[.bool false, .string ⟨#[]⟩, .string ⟨#[]⟩, .bool false, .string ⟨#[]⟩, .string ⟨#[]⟩, .bool false, .string ⟨#[]⟩, .string ⟨#[]⟩, .bool false, .string ⟨#[]⟩, .string ⟨#[]⟩, .bool false, .string ⟨#[]⟩, .string ⟨#[]⟩, .bool false, .string ⟨#[]⟩, .string ⟨#[]⟩], .agg #[.bool false, .string ⟨#[]⟩, .string ⟨#[]⟩, .bool false, .string ⟨#[]⟩, .string ⟨#[]⟩], .agg #[.bool false, .string ⟨#[]⟩, .string ⟨#[]⟩]], []⟩ 8 (by kernel_rfl) (by kernel_rfl) (by kernel_rfl) (by kernel_rfl))
    (by kernel_rfl) (by kernel_rfl) (by kernel_rfl) (by kernel_rfl) rfl (fun ds h => by match ds, h with | [_, _, _], _ => rfl) (by kernel_rfl) (by kernel_rfl) Am.elementMoved_law
theorem elementMoved_holds : Rows.ElementMovedSaid :=
  OpenClaim.holds_of_wide 12 Tryz.f12 rfl rfl rfl rfl rfl rfl rfl ⟨rfl, rfl, rfl, rfl, rfl⟩ rfl rfl rfl rfl rfl (by kernel_rfl) Tryz.func12 (by kernel_rfl)
    (of_decide_eq_true (by kernel_rfl)) (by unfold Func.isWrapper; first | (rw [if_pos (by decide +kernel)]; kernel_rfl) | (rw [if_neg (by decide +kernel)]; exact ⟨rfl, rfl⟩))
    (fun os started H enc _ => elementMoved_lifted os started H enc)
end Go.Proofs.YtmklpomcdnflbaaGreat