/- The row of the statement LimbNats. -/
import Derived.Test.YtlpimdkgboabcaaRows
import Derived.Test.YtlpimdkgboabcaaAmRow
import Derived.Test.YtlpimdkgboabcaaAmLaws1
namespace Go.Proofs.Ytlpimdkgboabcaa
open Go
namespace Am
theorem limbNats_law (xs : List AV) (h : Dats Try.prog 9 Try.f5.params.toList xs) : cv gp 5 xs = some (.bool true) := by
  have hp : Try.f5.params.toList = [34, 22] := by kernel_rfl
  rw [hp] at h
  match xs, h with
  | [x0, x1], ⟨h0, h1, _⟩ =>
    obtain ⟨a0, rfl, p0⟩ := str_in (k := 8) (by kernel_rfl) h0
    obtain ⟨a1, rfl, p1⟩ := limbs_in (k := 7) (e := 46) (by kernel_rfl) (by kernel_rfl) (by kernel_rfl) h1
    exact limbNats_cv a0 a1 p0 p1
end Am
set_option maxRecDepth 100000 in
theorem limbNats_lifted (os : Os) (started : os.Started) (H : Type) (enc : TypeId × Value → H) :
    ReturnsInHanded {} Try.checked os 5 .any (Rows.limbNatsSpec.pre6 enc Try.prog Try.f5 Rows.limbNatsRow.domain false) (Rows.limbNatsSpec.post enc Try.prog Try.f5 false true false false) :=
  Am.lift_law (C := Try.checked) (s := Rows.limbNatsSpec) (k := 9) (rt := 4) (by kernel_rfl) started (by kernel_rfl) Try.func5
    (ChangeSpec.witness6 (enc := enc) (C := Try.checked) false ⟨#[], #[.string ⟨#[]⟩, .slice none 0 0], []⟩ 8 (by kernel_rfl) (by kernel_rfl) (by kernel_rfl) (by kernel_rfl))
    (by kernel_rfl) (by kernel_rfl) (by kernel_rfl) (by kernel_rfl) rfl (fun ds h => by match ds, h with | [_, _], _ => rfl) (by kernel_rfl) (by kernel_rfl) Am.limbNats_law
theorem limbNats_holds : Rows.LimbNatsSaid :=
  OpenClaim.holds_of_wide 5 Try.f5 rfl rfl rfl rfl rfl rfl rfl ⟨rfl, rfl, rfl, rfl, rfl⟩ rfl rfl rfl rfl rfl (by kernel_rfl) Try.func5 (by kernel_rfl)
    (of_decide_eq_true (by kernel_rfl)) (by unfold Func.isWrapper; first | (rw [if_pos (by decide +kernel)]; kernel_rfl) | (rw [if_neg (by decide +kernel)]; exact ⟨rfl, rfl⟩))
    (fun os started H enc _ => limbNats_lifted os started H enc)
end Go.Proofs.Ytlpimdkgboabcaa
