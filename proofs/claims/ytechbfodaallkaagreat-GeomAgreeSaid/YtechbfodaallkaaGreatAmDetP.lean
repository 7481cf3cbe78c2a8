import Derived.Test.YtechbfodaallkaaGreatAmLem
/- Determinants by the first row, on rational numbers: no program in sight. -/
set_option linter.unusedVariables false
set_option maxRecDepth 10000
namespace Go.Proofs.YtechbfodaallkaaGreat.Am

def minorR (m : List (List Rat)) (k : Nat) : List (List Rat) := (m.drop 1).map fun r => r.eraseIdx k
def sumR (f : Nat → Rat) : Nat → Rat
  | 0 => 0
  | k + 1 => if k % 2 = 1 then sumR f k - f k else sumR f k + f k
def detR : Nat → List (List Rat) → Rat
  | 0, _ => 0
  | 1, m => (m.getD 0 []).getD 0 0
  | n + 2, m => sumR (fun k => (m.getD 0 []).getD k 0 * detR (n + 1) (minorR m k)) (n + 2)

theorem det2 {a b c d : Rat} : detR 2 [[a, b], [c, d]] = a * d - b * c := by
  show (0 + a * d) - b * c = _
  grind
theorem det3 {a b c d e f g h i : Rat} : detR 3 [[a, b, c], [d, e, f], [g, h, i]] = a * (e * i - f * h) - b * (d * i - f * g) + c * (d * h - e * g) := by
  show ((0 + a * detR 2 [[e, f], [h, i]]) - b * detR 2 [[d, f], [g, i]]) + c * detR 2 [[d, e], [g, h]] = _
  simp only [det2]
  grind
/-! ### Rows that change places -/

theorem len1 {α : Type} {l : List α} (h : l.length = 1) : ∃ a, l = [a] := by
  match l, h with
  | [a], _ => exact ⟨a, rfl⟩
theorem len3 {α : Type} {l : List α} (h : l.length = 3) : ∃ a b c, l = [a, b, c] := by
  match l, h with
  | [a, b, c], _ => exact ⟨a, b, c, rfl⟩
theorem sq1 {m : List (List Rat)} (h : m.length = 1) (hr : ∀ r ∈ m, r.length = 1) : ∃ a, m = [[a]] := by
  obtain ⟨r, rfl⟩ := len1 h
  obtain ⟨a, rfl⟩ := len1 (hr r (by simp))
  exact ⟨a, rfl⟩
end Go.Proofs.YtechbfodaallkaaGreat.Am
