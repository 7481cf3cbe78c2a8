import Derived.Test.YtiblnpnfaadmcaaGreatAmPlan11
/- Section 09: the reference's Ends, Share, Least2. -/
set_option linter.unusedVariables false
set_option maxRecDepth 10000
set_option linter.unusedSimpArgs false
namespace Go.Proofs.YtiblnpnfaadmcaaGreat.Am
open Go

def EVs (n : Nat) (l : List Sg) : Prop := ∀ s ∈ l, EV n s
instance (n : Nat) (l : List Sg) : Decidable (EVs n l) := by unfold EVs; infer_instance
section
variable {h : Heap}
structure LV (H : Heap) (m : Rat) : Prop where
  a : live H 0 = some z3
  b : live H 1 = some (rcl m)
  z : Rz m 2000
theorem LV.step {H : Heap} {m d : Rat} (e : LV H m) (hd : Rz d 1500) : LV (H.set 1 (some (rcl (minQ m d)))) (minQ m d) ∧ opStore H 3 (.rp 1 0) (ra (minQ m d)) = some (H.set 1 (some (rcl (minQ m d)))) := by
  have hl := live_lt e.b
  refine ⟨⟨by rw [live_set hl, if_neg (by decide)]; exact e.a, by rw [live_set hl, if_pos rfl], ?_⟩, st_set3 rfl e.b rfl⟩
  have := e.z
  have hd' := hd.mono (m := 2000) (by omega)
  unfold minQ; split <;> assumption
theorem LV.ld {H : Heap} {m : Rat} (e : LV H m) : opLoad H (some 3) (.rp 1 0) = some (ra m) := by
  have : opLoad H (some 3) (.rp 1 0) = (live H 1).bind fun cs => readCells (cs.drop 0) (some 3) := rfl
  rw [this, e.b]
  exact Eq.trans rfl rfl
variable {ps : List (Rat × Rat)} {ss : List Sq} {R : Option AV}
end
end Go.Proofs.YtiblnpnfaadmcaaGreat.Am
