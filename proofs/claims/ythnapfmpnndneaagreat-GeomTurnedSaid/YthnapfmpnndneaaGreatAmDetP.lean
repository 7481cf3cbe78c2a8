import Derived.Test.YthnapfmpnndneaaGreatAmLem
/- Determinants by the first row, on rational numbers: no program in sight. -/
set_option linter.unusedVariables false
set_option maxRecDepth 10000
namespace Go.Proofs.YthnapfmpnndneaaGreat.Am

def minorR (m : List (List Rat)) (k : Nat) : List (List Rat) := (m.drop 1).map fun r => r.eraseIdx k
def sumR (f : Nat → Rat) : Nat → Rat
  | 0 => 0
  | k + 1 => if k % 2 = 1 then sumR f k - f k else sumR f k + f k
def detR : Nat → List (List Rat) → Rat
  | 0, _ => 0
  | 1, m => (m.getD 0 []).getD 0 0
  | n + 2, m => sumR (fun k => (m.getD 0 []).getD k 0 * detR (n + 1) (minorR m k)) (n + 2)

theorem det1 {a : Rat} : detR 1 [[a]] = a := rfl
theorem det2 {a b c d : Rat} : detR 2 [[a, b], [c, d]] = a * d - b * c := by
  show (0 + a * d) - b * c = _
  grind
theorem det3 {a b c d e f g h i : Rat} : detR 3 [[a, b, c], [d, e, f], [g, h, i]] = a * (e * i - f * h) - b * (d * i - f * g) + c * (d * h - e * g) := by
  show ((0 + a * detR 2 [[e, f], [h, i]]) - b * detR 2 [[d, f], [g, i]]) + c * detR 2 [[d, e], [g, h]] = _
  simp only [det2]
  grind
theorem det4 {a b c d e f g h i j k l m n o p : Rat} : detR 4 [[a, b, c, d], [e, f, g, h], [i, j, k, l], [m, n, o, p]] =
    a * detR 3 [[f, g, h], [j, k, l], [n, o, p]] - b * detR 3 [[e, g, h], [i, k, l], [m, o, p]] + c * detR 3 [[e, f, h], [i, j, l], [m, n, p]] - d * detR 3 [[e, f, g], [i, j, k], [m, n, o]] := by
  show (((0 + a * detR 3 [[f, g, h], [j, k, l], [n, o, p]]) - b * detR 3 [[e, g, h], [i, k, l], [m, o, p]]) + c * detR 3 [[e, f, h], [i, j, l], [m, n, p]]) - d * detR 3 [[e, f, g], [i, j, k], [m, n, o]] = _
  grind
/-! ### Rows that change places -/

theorem len1 {α : Type} {l : List α} (h : l.length = 1) : ∃ a, l = [a] := by
  match l, h with
  | [a], _ => exact ⟨a, rfl⟩
theorem len2 {α : Type} {l : List α} (h : l.length = 2) : ∃ a b, l = [a, b] := by
  match l, h with
  | [a, b], _ => exact ⟨a, b, rfl⟩
theorem len3 {α : Type} {l : List α} (h : l.length = 3) : ∃ a b c, l = [a, b, c] := by
  match l, h with
  | [a, b, c], _ => exact ⟨a, b, c, rfl⟩
theorem len4 {α : Type} {l : List α} (h : l.length = 4) : ∃ a b c d, l = [a, b, c, d] := by
  match l, h with
  | [a, b, c, d], _ => exact ⟨a, b, c, d, rfl⟩
theorem sq1 {m : List (List Rat)} (h : m.length = 1) (hr : ∀ r ∈ m, r.length = 1) : ∃ a, m = [[a]] := by
  obtain ⟨r, rfl⟩ := len1 h
  obtain ⟨a, rfl⟩ := len1 (hr r (by simp))
  exact ⟨a, rfl⟩
theorem sq2 {m : List (List Rat)} (h : m.length = 2) (hr : ∀ r ∈ m, r.length = 2) : ∃ a b c d, m = [[a, b], [c, d]] := by
  obtain ⟨r, s, rfl⟩ := len2 h
  obtain ⟨a, b, rfl⟩ := len2 (hr r (by simp))
  obtain ⟨c, d, rfl⟩ := len2 (hr s (by simp))
  exact ⟨a, b, c, d, rfl⟩
theorem sq3 {m : List (List Rat)} (h0 : m.length = 3) (hr : ∀ r ∈ m, r.length = 3) : ∃ a b c d e f g h i, m = [[a, b, c], [d, e, f], [g, h, i]] := by
  obtain ⟨r, s, t, rfl⟩ := len3 h0
  obtain ⟨a, b, c, rfl⟩ := len3 (hr r (by simp))
  obtain ⟨d, e, f, rfl⟩ := len3 (hr s (by simp))
  obtain ⟨g, h, i, rfl⟩ := len3 (hr t (by simp))
  exact ⟨a, b, c, d, e, f, g, h, i, rfl⟩
theorem sq4 {m : List (List Rat)} (h0 : m.length = 4) (hr : ∀ r ∈ m, r.length = 4) : ∃ a b c d e f g h i j k l m' n o p, m = [[a, b, c, d], [e, f, g, h], [i, j, k, l], [m', n, o, p]] := by
  obtain ⟨r, s, t, u, rfl⟩ := len4 h0
  obtain ⟨a, b, c, d, rfl⟩ := len4 (hr r (by simp))
  obtain ⟨e, f, g, h, rfl⟩ := len4 (hr s (by simp))
  obtain ⟨i, j, k, l, rfl⟩ := len4 (hr t (by simp))
  obtain ⟨m, n, o, p, rfl⟩ := len4 (hr u (by simp))
  exact ⟨a, b, c, d, e, f, g, h, i, j, k, l, m, n, o, p, rfl⟩

/-- Which row stands at place i, when rows a and b have changed places. -/
def swI (a b i : Nat) : Nat := if i = b then a else if i = a then b else i
/-- .. when row b stands in row a's place too. -/
def twI (a b i : Nat) : Nat := if i = a then b else i
def pickR (m : List (List Rat)) (f : Nat → Nat) : List (List Rat) := (List.range m.length).map fun i => m.getD (f i) []
def transR (m : List (List Rat)) : List (List Rat) := (List.range m.length).map fun i => m.map fun r => r.getD i 0

theorem turned {m : List (List Rat)} {a b : Nat} (hn : m.length ≤ 4) (hr : ∀ r ∈ m, r.length = m.length) (ha : a < m.length) (hb : b < m.length) (hne : a ≠ b) :
    detR m.length (pickR m (swI a b)) = - detR m.length m ∧ detR m.length (pickR m (twI a b)) = 0 ∧ detR m.length (transR m) = detR m.length m := by
  have hc : m.length = 2 ∨ m.length = 3 ∨ m.length = 4 := by omega
  rcases hc with hc | hc | hc <;> rw [hc] at hr ha hb
  · obtain ⟨x0, x1, x2, x3, rfl⟩ := sq2 hc hr
    have h2 : (a = 0 ∧ b = 1) ∨ (a = 1 ∧ b = 0) := by omega
    rcases h2 with ⟨rfl, rfl⟩ | ⟨rfl, rfl⟩ <;> simp [pickR, transR, swI, twI, det2, List.range_succ] <;> grind
  · obtain ⟨x0, x1, x2, x3, x4, x5, x6, x7, x8, rfl⟩ := sq3 hc hr
    have h2 : (a = 0 ∧ b = 1) ∨ (a = 1 ∧ b = 0) ∨ (a = 0 ∧ b = 2) ∨ (a = 2 ∧ b = 0) ∨ (a = 1 ∧ b = 2) ∨ (a = 2 ∧ b = 1) := by omega
    rcases h2 with ⟨rfl, rfl⟩ | ⟨rfl, rfl⟩ | ⟨rfl, rfl⟩ | ⟨rfl, rfl⟩ | ⟨rfl, rfl⟩ | ⟨rfl, rfl⟩ <;> simp [pickR, transR, swI, twI, det3, List.range_succ] <;> grind
  · obtain ⟨x0, x1, x2, x3, x4, x5, x6, x7, x8, x9, y0, y1, y2, y3, y4, y5, rfl⟩ := sq4 hc hr
    have h2 : (a = 0 ∧ b = 1) ∨ (a = 1 ∧ b = 0) ∨ (a = 0 ∧ b = 2) ∨ (a = 2 ∧ b = 0) ∨ (a = 1 ∧ b = 2) ∨ (a = 2 ∧ b = 1) ∨ (a = 0 ∧ b = 3) ∨ (a = 3 ∧ b = 0) ∨ (a = 1 ∧ b = 3) ∨ (a = 3 ∧ b = 1) ∨ (a = 2 ∧ b = 3) ∨ (a = 3 ∧ b = 2) := by omega
    rcases h2 with ⟨rfl, rfl⟩ | ⟨rfl, rfl⟩ | ⟨rfl, rfl⟩ | ⟨rfl, rfl⟩ | ⟨rfl, rfl⟩ | ⟨rfl, rfl⟩ | ⟨rfl, rfl⟩ | ⟨rfl, rfl⟩ | ⟨rfl, rfl⟩ | ⟨rfl, rfl⟩ | ⟨rfl, rfl⟩ | ⟨rfl, rfl⟩ <;> simp [pickR, transR, swI, twI, det4, det3, List.range_succ] <;> grind
end Go.Proofs.YthnapfmpnndneaaGreat.Am