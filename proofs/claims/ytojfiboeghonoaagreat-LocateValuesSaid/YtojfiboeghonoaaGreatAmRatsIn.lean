import Derived.Test.YtojfiboeghonoaaGreatAmRowIn
/- Rows of rational numbers and three of them as arguments. -/
set_option linter.unusedVariables false
set_option maxRecDepth 10000
set_option linter.unusedSimpArgs false
namespace Go.Proofs.YtojfiboeghonoaaGreat.Am
open Go

section
variable {P : Program}
theorem rats_in {t e : TypeId} {v : AV} (hag : isAggT P t = false) (h1 : isRowT P t e = true) (h2 : isRatT P e = true) (h : DatV P 9 t v) : ∃ l : List RT, v = .is l.length false (l.flatMap rtc) ∧ ∀ t ∈ l, t.ok := by
  obtain ⟨c1, u1⟩ := row_of h1
  unfold DatV at h
  rw [if_neg (by rw [hag]; simp)] at h
  obtain ⟨ps, g1, k1⟩ := rowP (k := 8) (f := rtc) (ok := RT.ok) u1 (cells_of_T.2.2.2.1 h2) rtc_len (fun cs h => rat_cells h2 h) h
  exact ⟨ps, by simpa using g1, k1⟩
abbrev U3 := RT × RT × RT
def U3.ok (t : U3) : Prop := t.1.ok ∧ t.2.1.ok ∧ t.2.2.ok
end
end Go.Proofs.YtojfiboeghonoaaGreat.Am
