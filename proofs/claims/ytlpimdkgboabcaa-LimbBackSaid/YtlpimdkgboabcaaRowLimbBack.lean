/- The row of the statement LimbBack. -/
import Derived.Test.YtlpimdkgboabcaaRows
import Derived.Test.YtlpimdkgboabcaaAmRow
import Derived.Test.YtlpimdkgboabcaaAmLaws1
namespace Go.Proofs.Ytlpimdkgboabcaa
open Go
namespace Am
theorem limbBack_law (xs : List AV) (h : Dats Try.prog 9 Try.f9.params.toList xs) : cv gp 9 xs = some (.bool true) := by
  have hp : Try.f9.params.toList = [22, 22] := by kernel_rfl
  rw [hp] at h
  match xs, h with
  | [x0, x1], ⟨h0, h1, _⟩ =>
    obtain ⟨a0, rfl, p0⟩ := limbs_in (k := 7) (e := 46) (by kernel_rfl) (by kernel_rfl) (by kernel_rfl) h0
    obtain ⟨a1, rfl, p1⟩ := limbs_in (k := 7) (e := 46) (by kernel_rfl) (by kernel_rfl) (by kernel_rfl) h1
    exact limbBack_cv a0 a1 p0 p1
end Am
set_option maxRecDepth 100000 in
theorem limbBack_lifted (os : Os) (started : os.Started) (H : Type) (enc : TypeId × Value → H) :
    ReturnsInHanded {} Try.checked os 9 .any (Rows.limbBackSpec.pre6 enc Try.prog Try.f9 Rows.limbBackRow.domain false) (Rows.limbBackSpec.post enc Try.prog Try.f9 false true false false) :=
  Am.lift_law (C := Try.checked) (s := Rows.limbBackSpec) (k := 9) (rt := 4) (by kernel_rfl) started (by kernel_rfl) Try.func9
    (ChangeSpec.witness6 (enc := enc) (C := Try.checked) false ⟨#[], #[.slice none 0 0, .slice none 0 0], []⟩ 8 (by kernel_rfl) (by kernel_rfl) (by kernel_rfl) (by kernel_rfl))
    (by kernel_rfl) (by kernel_rfl) (by kernel_rfl) (by kernel_rfl) rfl (fun ds h => by match ds, h with | [_, _], _ => rfl) (by kernel_rfl) (by kernel_rfl) Am.limbBack_law
theorem limbBack_holds : Rows.LimbBackSaid :=
  OpenClaim.holds_of_wide 9 Try.f9 rfl rfl rfl rfl rfl rfl rfl ⟨rfl, rfl, rfl, rfl, rfl⟩ rfl rfl rfl rfl rfl (by kernel_rfl) Try.func9 (by kernel_rfl)
    (of_decide_eq_true (by kernel_rfl)) (by unfold Func.isWrapper; first | (rw [if_pos (by decide +kernel)]; kernel_rfl) | (rw [if_neg (by decide +kernel)]; exact ⟨rfl, rfl⟩))
    (fun os started H enc _ => limbBack_lifted os started H enc)
end Go.Proofs.Ytlpimdkgboabcaa
