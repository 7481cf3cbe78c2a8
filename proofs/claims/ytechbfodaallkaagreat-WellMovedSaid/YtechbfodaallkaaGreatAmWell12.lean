import Derived.Test.YtechbfodaallkaaGreatAmWell8
import Derived.Test.YtechbfodaallkaaGreatTWChecks
/- Well: both answers are one; a plan's copy is the same. -/
set_option linter.unusedVariables false
set_option maxRecDepth 10000
set_option linter.unusedSimpArgs false
namespace Go.Proofs.YtechbfodaallkaaGreat.Am
open Go

theorem scan_congr {P Q : Nat → Bool} : ∀ {m k : Nat}, (∀ j, k ≤ j → j < k + m → P j = Q j) → scan P m k = scan Q m k
  | 0, k, _ => rfl
  | m + 1, k, h => by
    rw [scan, scan, h k (by omega) (by omega), scan_congr fun j h1 h2 => h j (by omega) (by omega)]
theorem pairF_congr {P Q : Nat → Nat → Bool} : ∀ {m i : Nat}, (∀ a, i ≤ a → a < i + m → ∀ k, k < a → P a k = Q a k) → pairF P m i = pairF Q m i
  | 0, i, _ => rfl
  | m + 1, i, h => by
    rw [pairF, pairF, scan_congr fun j _ hj => h i (by omega) (by omega) j (by omega), pairF_congr fun a h1 h2 => h a (by omega) (by omega)]
/-! ### A plan is the same as itself -/
end Go.Proofs.YtechbfodaallkaaGreat.Am
