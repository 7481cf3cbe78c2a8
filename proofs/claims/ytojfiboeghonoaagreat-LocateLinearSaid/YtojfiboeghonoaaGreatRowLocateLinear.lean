import Derived.Test.YtojfiboeghonoaaGreatRows
import Derived.Test.YtojfiboeghonoaaGreatAmRow
import Derived.Test.YtojfiboeghonoaaGreatAmLaws12f
import Derived.Test.YtojfiboeghonoaaGreatAmRatsIn
/- The row of the statement LocateLinear. -/
namespace Go.Proofs.YtojfiboeghonoaaGreat
open Go
namespace Am
set_option maxRecDepth 100000 in
theorem locateLinear_law (xs : List AV) (h : Dats Tryz.prog 9 Tryz.f8.params.toList xs) : cv gp 8 xs = some (.bool true) := by
  have hp : Tryz.f8.params.toList = [26, 63, 33] := by kernel_rfl
  rw [hp] at h
  obtain ⟨x0, x1, x2, rfl, h0, h1, h2⟩ := dats3 h
  obtain ⟨a0, rfl, p0⟩ := mesh_in (pt := 33) (tr := 72) (sg := 92) (by kernel_rfl) (by kernel_rfl) h0
  obtain ⟨a1, rfl, p1⟩ := r3_in (e := 31) (by kernel_rfl) (by kernel_rfl) (by kernel_rfl) (by kernel_rfl) h1
  obtain ⟨a2, rfl, p2⟩ := pt_in (by kernel_rfl) (by kernel_rfl) h2
  exact locateLinear_cv a0 a1 a2 p0 p1 p2
end Am
set_option maxRecDepth 100000 in
theorem locateLinear_lifted (os : Os) (started : os.Started) (H : Type) (enc : TypeId × Value → H) :
    ReturnsInHanded {} Tryz.checked os 8 .any (Rows.locateLinearSpec.pre6 enc Tryz.prog Tryz.f8 Rows.locateLinearRow.domain false) (Rows.locateLinearSpec.post enc Tryz.prog Tryz.f8 false true false false) :=
  Am.lift_law (fun _ h => by cases h) (fun _ => rfl) (C := Tryz.checked) (s := Rows.locateLinearSpec) (k := 9) (rt := 4) (by kernel_rfl) started (by kernel_rfl) Tryz.func8
    (ChangeSpec.witness6 (enc := enc) (C := Tryz.checked) false ⟨#[], #[.agg #[.slice none 0 0, .slice none 0 0, .slice none 0 0], .agg #[.bool false, .string ⟨#[]⟩, .string ⟨#[]⟩, .bool false, .string ⟨#[]⟩, .string ⟨#[]⟩, .bool false, .string ⟨#[]⟩, .string ⟨#[]⟩], .agg #[.bool false, .string ⟨#[]⟩, .string ⟨#[]⟩, .bool false, .string ⟨#[]⟩, .string ⟨#[]⟩]], []⟩ 8 (by kernel_rfl) (by kernel_rfl) (by kernel_rfl) (by kernel_rfl))
    (by kernel_rfl) (by kernel_rfl) (by kernel_rfl) (by kernel_rfl) rfl (fun ds h => by match ds, h with | [_, _, _], _ => rfl) (by kernel_rfl) (by kernel_rfl) Am.locateLinear_law
theorem locateLinear_holds : Rows.LocateLinearSaid :=
  OpenClaim.holds_of_wide 8 Tryz.f8 rfl rfl rfl rfl rfl rfl rfl ⟨rfl, rfl, rfl, rfl, rfl⟩ rfl rfl rfl rfl rfl (by kernel_rfl) Tryz.func8 (by kernel_rfl)
    (of_decide_eq_true (by kernel_rfl)) (by unfold Func.isWrapper; first | (rw [if_pos (by decide +kernel)]; kernel_rfl) | (rw [if_neg (by decide +kernel)]; exact ⟨rfl, rfl⟩))
    (fun os started H enc _ => locateLinear_lifted os started H enc)
end Go.Proofs.YtojfiboeghonoaaGreat
