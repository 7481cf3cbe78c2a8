import Derived.Test.YtiblnpnfaadmcaaGreatAmRowIn
import Derived.Test.YtiblnpnfaadmcaaGreatAmPlan11
/- Four points as an argument. -/
set_option linter.unusedVariables false
set_option maxRecDepth 10000
set_option linter.unusedSimpArgs false
namespace Go.Proofs.YtiblnpnfaadmcaaGreat.Am
open Go

section
variable {P : Program}
theorem p4_in {t e : TypeId} {v : AV} (hag : zy7s P t = true) (hu : P.underlying t = some (.array 4 e)) (he : isPtT P e = true) (hl : P.cellsOf t = 24) (h : DatV P 9 t v) : ∃ p : T4, v = .agg (t4c p) ∧ p.ok := by
 unfold DatV at h
 rw [if_pos hag] at h
 obtain ⟨cs, rfl, hd⟩ := h
 obtain ⟨l, rfl, hn, hok⟩ := arrP (k := 8) (n := 4) (f := ptc) (ok := PT.ok) hu (cells_of_T.2.2.2.2.1 he) hl zydt (fun cs h => pt_cells he h) hd
 match l, hn with
 | [a, b, c, d], _ => exact ⟨(a, b, c, d), by simp [t4c], hok a (by simp), hok b (by simp), hok c (by simp), hok d (by simp)⟩
end
end Go.Proofs.YtiblnpnfaadmcaaGreat.Am
