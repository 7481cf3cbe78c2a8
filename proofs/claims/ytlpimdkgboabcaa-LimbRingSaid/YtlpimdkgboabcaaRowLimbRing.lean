/- The row of the statement LimbRing. -/
import Derived.Test.YtlpimdkgboabcaaRows
import Derived.Test.YtlpimdkgboabcaaAmRow
import Derived.Test.YtlpimdkgboabcaaAmLimbRing
namespace Go.Proofs.Ytlpimdkgboabcaa
open Go
set_option maxRecDepth 100000 in
theorem limbRing_lifted (os : Os) (started : os.Started) (H : Type) (enc : TypeId × Value → H) :
    ReturnsInHanded {} Try.checked os 7 .any (Rows.limbRingSpec.pre6 enc Try.prog Try.f7 Rows.limbRingRow.domain false) (Rows.limbRingSpec.post enc Try.prog Try.f7 false true false false) :=
  Am.lift_law (C := Try.checked) (s := Rows.limbRingSpec) (k := 9) (rt := 4) (by kernel_rfl) started (by kernel_rfl) Try.func7
    (ChangeSpec.witness6 (enc := enc) (C := Try.checked) false ⟨#[], #[.slice none 0 0, .slice none 0 0, .slice none 0 0], []⟩ 8 (by kernel_rfl) (by kernel_rfl) (by kernel_rfl) (by kernel_rfl))
    (by kernel_rfl) (by kernel_rfl) (by kernel_rfl) (by kernel_rfl) rfl (fun ds h => by match ds, h with | [_, _, _], _ => rfl) (by kernel_rfl) (by kernel_rfl) Am.limbRing_law
theorem limbRing_holds : Rows.LimbRingSaid :=
  OpenClaim.holds_of_wide 7 Try.f7 rfl rfl rfl rfl rfl rfl rfl ⟨rfl, rfl, rfl, rfl, rfl⟩ rfl rfl rfl rfl rfl (by kernel_rfl) Try.func7 (by kernel_rfl)
    (of_decide_eq_true (by kernel_rfl)) (by unfold Func.isWrapper; first | (rw [if_pos (by decide +kernel)]; kernel_rfl) | (rw [if_neg (by decide +kernel)]; exact ⟨rfl, rfl⟩))
    (fun os started H enc _ => limbRing_lifted os started H enc)
end Go.Proofs.Ytlpimdkgboabcaa
