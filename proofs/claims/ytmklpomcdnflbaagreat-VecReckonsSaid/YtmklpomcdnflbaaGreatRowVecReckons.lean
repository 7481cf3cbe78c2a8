import Derived.Test.YtmklpomcdnflbaaGreatRows
import Derived.Test.YtmklpomcdnflbaaGreatAmRow
import Derived.Test.YtmklpomcdnflbaaGreatAmLaws4
/- The row of the statement VecReckons. -/
namespace Go.Proofs.YtmklpomcdnflbaaGreat
open Go
namespace Am
set_option maxRecDepth 100000 in
theorem vecReckons_law (xs : List AV) (h : Dats Tryz.prog 9 Tryz.f8.params.toList xs) : cv gp 8 xs = some (.bool true) := by
  have hp : Tryz.f8.params.toList = [40, 40] := by kernel_rfl
  rw [hp] at h
  obtain ⟨x0, x1, rfl, h0, h1⟩ := dats2 h
  obtain ⟨a0, rfl, p0⟩ := pt_in (by kernel_rfl) (by kernel_rfl) h0
  obtain ⟨a1, rfl, p1⟩ := pt_in (by kernel_rfl) (by kernel_rfl) h1
  exact vecReckons_cv a0 a1 p0 p1
end Am
set_option maxRecDepth 100000 in
theorem vecReckons_lifted (os : Os) (started : os.Started) (H : Type) (enc : TypeId × Value → H) :
    ReturnsInHanded {} Tryz.checked os 8 .any (Rows.vecReckonsSpec.pre6 enc Tryz.prog Tryz.f8 Rows.vecReckonsRow.domain false) (Rows.vecReckonsSpec.post enc Tryz.prog Tryz.f8 false true false false) :=
  Am.lift_law (fun _ h => by cases h) (fun _ => rfl) (C := Tryz.checked) (s := Rows.vecReckonsSpec) (k := 9) (rt := 4) (by kernel_rfl) started (by kernel_rfl) Tryz.func8
    (ChangeSpec.witness6 (enc := enc) (C := Tryz.checked) false ⟨#[], #[.agg #[.bool false, .string ⟨#[]⟩, .string ⟨#[]⟩, .bool false, .string ⟨#[]⟩, .string ⟨#[]⟩], .agg #[.bool false, .string ⟨#[]⟩, .string ⟨#[]⟩, .bool false, .string ⟨#[]⟩, .string ⟨#[]⟩]], []⟩ 8 (by kernel_rfl) (by kernel_rfl) (by kernel_rfl) (by kernel_rfl))
    (by kernel_rfl) (by kernel_rfl) (by kernel_rfl) (by kernel_rfl) rfl (fun ds h => by match ds, h with | [_, _], _ => rfl) (by kernel_rfl) (by kernel_rfl) Am.vecReckons_law
theorem vecReckons_holds : Rows.VecReckonsSaid :=
  OpenClaim.holds_of_wide 8 Tryz.f8 rfl rfl rfl rfl rfl rfl rfl ⟨rfl, rfl, rfl, rfl, rfl⟩ rfl rfl rfl rfl rfl (by kernel_rfl) Tryz.func8 (by kernel_rfl)
    (of_decide_eq_true (by kernel_rfl)) (by unfold Func.isWrapper; first | (rw [if_pos (by decide +kernel)]; kernel_rfl) | (rw [if_neg (by decide +kernel)]; exact ⟨rfl, rfl⟩))
    (fun os started H enc _ => vecReckons_lifted os started H enc)
end Go.Proofs.YtmklpomcdnflbaaGreat