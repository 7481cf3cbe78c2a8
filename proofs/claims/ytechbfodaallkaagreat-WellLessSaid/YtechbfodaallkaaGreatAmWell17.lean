import Derived.Test.YtechbfodaallkaaGreatAmWell14
import Derived.Test.YtechbfodaallkaaGreatTWMoved
/- A plan moved and drawn larger is as right or wrong as it was. -/
set_option linter.unusedVariables false
set_option maxRecDepth 10000
set_option linter.unusedSimpArgs false
namespace Go.Proofs.YtechbfodaallkaaGreat.Am
open Go

def mvR (k bx b_ : Rat) (r : Rat × Rat) : Rat × Rat := (r.1 * k + bx, r.2 * k + b_)
section
variable {k u v : Rat}
variable {q : Pq}
end
end Go.Proofs.YtechbfodaallkaaGreat.Am

/- The law of section 10 on plans moved and drawn larger. -/
set_option linter.unusedVariables false
set_option maxRecDepth 10000
set_option linter.unusedSimpArgs false
namespace Go.Proofs.YtechbfodaallkaaGreat.Am
open Go

theorem sidx_rn {sz id o len n : Nat} (h : n < len) : opSidx sz (.rs sz id o len) (.int .i64 (n : Int)) = some (.rp id (o + n * sz)) := by
  have := sidx_rs (sz := sz) (id := id) (off := o) (k := .i64) (z := (n : Int)) (n := len) (by omega) (by omega)
  simpa using this
theorem len_cpR {sz id n : Nat} : opLen false (cpR sz id n) = some (.int .i64 (n : Int)) := by
  unfold cpR
  by_cases h : n = 0
  · rw [if_pos h, h]; rfl
  · rw [if_neg h]; rfl
section
variable {f : Rat × Rat → Rat × Rat} {ps : List (Rat × Rat)} {n : Nat} (hn : n < ps.length)
include hn
end
section
variable {h : Heap} {a b : Rat × Rat} {k : Rat}
end
section
variable {q : Pq} {r : Rat × Rat} {k : Rat}
theorem given_zero2 {p : Pl} (h : (givenF p).1 = 0) : p.pts.length ≤ 40 ∧ p.segs.length ≤ 60 ∧ p.holes.length ≤ 10 ∧ ask6 p.F = 0 ∧ ask6 p.G = 0 := by
  unfold givenF at *
  by_cases q1 : 40 < p.pts.length ∨ 60 < p.segs.length ∨ 10 < p.holes.length
  · rw [if_pos q1] at h; exact absurd h (show ¬ (5 : Int) = 0 by decide)
  rw [if_neg q1] at *
  by_cases q2 : firstE (p.pts.map askc) ≠ 0
  · rw [if_pos q2] at h; exact absurd h q2
  rw [if_neg q2] at *
  by_cases q3 : firstE (p.holes.map askc) ≠ 0
  · rw [if_pos q3] at h; exact absurd h q3
  rw [if_neg q3] at *
  by_cases q4 : ask6 p.F ≠ 0 ∨ ask6 p.G ≠ 0
  · rw [if_pos q4] at h; exact absurd h (show ¬ (1 : Int) = 0 by decide)
  exact ⟨by omega, by omega, by omega, by omega, by omega⟩
theorem cpB1_len : (cpB1 q.pl).length = if q.ps.length = 0 then 0 else 1 := by
  have : q.pl.pts.length = q.ps.length := List.length_map ..
  unfold cpB1 cpB; rw [this]; split <;> rfl
theorem cpB2_len : (cpB2 q.pl).length = if q.ss.length = 0 then 0 else 1 := by
  have : q.pl.segs.length = q.ss.length := List.length_map ..
  unfold cpB2 cpB; rw [this]; split <;> rfl
theorem cpB3_len : (cpB3 q.pl).length = if q.hs.length = 0 then 0 else 1 := by
  have : q.pl.holes.length = q.hs.length := List.length_map ..
  unfold cpB3 cpB; rw [this]; split <;> rfl
end
end Go.Proofs.YtechbfodaallkaaGreat.Am

/- The law of section 10 on plans moved and drawn larger. -/
set_option linter.unusedVariables false
set_option maxRecDepth 10000
set_option linter.unusedSimpArgs false
namespace Go.Proofs.YtechbfodaallkaaGreat.Am
open Go

theorem eqlF {a b : Int} (h : a ≠ b) : opBin .eql (.int .i64 a) (.int .i64 b) = some (.bool false) := by
  show some (AV.bool (decide (a = b))) = _
  rw [decide_eq_false h]
theorem neqT {a b : Int} (h : a ≠ b) : opBin .neq (.int .i64 a) (.int .i64 b) = some (.bool true) := by
  rw [bin_neq, decide_eq_true h]
theorem neqF {a : Int} : opBin .neq (.int .i64 a) (.int .i64 a) = some (.bool false) := by
  rw [bin_neq, decide_eq_false (fun h => h rfl)]
end Go.Proofs.YtechbfodaallkaaGreat.Am
