import Derived.Test.YtojfiboeghonoaaGreatAmRowIn
/- Rows of rational numbers and three of them as arguments. -/
set_option linter.unusedVariables false
set_option maxRecDepth 10000
set_option linter.unusedSimpArgs false
namespace Go.Proofs.YtojfiboeghonoaaGreat.Am
open Go

section
variable {P : Program}
abbrev U3 := RT × RT × RT
def u3c (t : U3) : List AV := rtc t.1 ++ rtc t.2.1 ++ rtc t.2.2
def U3.ok (t : U3) : Prop := t.1.ok ∧ t.2.1.ok ∧ t.2.2.ok
theorem imm_u3 {t : U3} : Imm 12 (.agg (u3c t)) := (imm_agg (d := 1) (fun c hc => by
  rcases List.mem_append.1 hc with h | h
  · rcases List.mem_append.1 h with h | h <;> exact imm_rtc _ c h
  · exact imm_rtc _ c h)).mono (by omega)
theorem r3_in {t e : TypeId} {v : AV} (hag : isAggT P t = true) (hu : P.underlying t = some (.array 3 e)) (he : isRatT P e = true) (hl : P.cellsOf t = 9) (h : DatV P 9 t v) : ∃ p : U3, v = .agg (u3c p) ∧ p.ok := by
  obtain ⟨cs, rfl, hd⟩ := agg_in hag h
  obtain ⟨l, rfl, hn, hok⟩ := arrP (k := 8) (f := rtc) (ok := RT.ok) hu (cells_of_T.2.2.2.1 he) hl rtc_len (fun cs h => rat_cells he h) hd
  match l, hn with
  | [a, b, c], _ => exact ⟨(a, b, c), by simp [u3c], hok a (by simp), hok b (by simp), hok c (by simp)⟩
end
end Go.Proofs.YtojfiboeghonoaaGreat.Am
