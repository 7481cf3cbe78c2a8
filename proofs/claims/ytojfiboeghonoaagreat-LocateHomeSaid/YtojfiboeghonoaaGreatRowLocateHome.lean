import Derived.Test.YtojfiboeghonoaaGreatRows
import Derived.Test.YtojfiboeghonoaaGreatAmRow
import Derived.Test.YtojfiboeghonoaaGreatAmLaws12d
/- The row of the statement LocateHome. -/

namespace Go.Proofs.YtojfiboeghonoaaGreat
open Go
namespace Am
set_option maxRecDepth 100000 in
theorem locateHome_law (xs : List AV) (h : Dats Tryz.prog 9 Tryz.f9.params.toList xs) : cv gp 9 xs = some (.bool true) := by
  have hp : Tryz.f9.params.toList = [26, 3] := by kernel_rfl
  rw [hp] at h
  obtain ⟨x0, x1, rfl, h0, h1⟩ := dats2 h
  obtain ⟨a0, rfl, p0⟩ := mesh_in (pt := 33) (tr := 72) (sg := 92) (by kernel_rfl) (by kernel_rfl) h0
  obtain ⟨a1, rfl, p1⟩ := int_in (k := 8) (by kernel_rfl) h1
  exact locateHome_cv a0 a1 p0 p1
end Am
set_option maxRecDepth 100000 in
theorem locateHome_lifted (os : Os) (started : os.Started) (H : Type) (enc : TypeId × Value → H) :
    ReturnsInHanded {} Tryz.checked os 9 .any (Rows.locateHomeSpec.pre6 enc Tryz.prog Tryz.f9 Rows.locateHomeRow.domain false) (Rows.locateHomeSpec.post enc Tryz.prog Tryz.f9 false true false false) :=
  Am.lift_law (fun _ h => by cases h) (fun _ => rfl) (C := Tryz.checked) (s := Rows.locateHomeSpec) (k := 9) (rt := 4) (by kernel_rfl) started (by kernel_rfl) Tryz.func9
    (ChangeSpec.witness6 (enc := enc) (C := Tryz.checked) false ⟨#[], #[.agg #[.slice none 0 0, .slice none 0 0, .slice none 0 0], .int .i64 0], []⟩ 8 (by kernel_rfl) (by kernel_rfl) (by kernel_rfl) (by kernel_rfl))
    (by kernel_rfl) (by kernel_rfl) (by kernel_rfl) (by kernel_rfl) rfl (fun ds h => by match ds, h with | [_, _], _ => rfl) (by kernel_rfl) (by kernel_rfl) Am.locateHome_law
theorem locateHome_holds : Rows.LocateHomeSaid :=
  OpenClaim.holds_of_wide 9 Tryz.f9 rfl rfl rfl rfl rfl rfl rfl ⟨rfl, rfl, rfl, rfl, rfl⟩ rfl rfl rfl rfl rfl (by kernel_rfl) Tryz.func9 (by kernel_rfl)
    (of_decide_eq_true (by kernel_rfl)) (by unfold Func.isWrapper; first | (rw [if_pos (by decide +kernel)]; kernel_rfl) | (rw [if_neg (by decide +kernel)]; exact ⟨rfl, rfl⟩))
    (fun os started H enc _ => locateHome_lifted os started H enc)
end Go.Proofs.YtojfiboeghonoaaGreat
