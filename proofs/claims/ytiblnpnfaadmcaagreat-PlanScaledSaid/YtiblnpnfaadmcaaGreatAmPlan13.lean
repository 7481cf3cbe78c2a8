import Derived.Test.YtiblnpnfaadmcaaGreatAmPlan12
import Derived.Test.YtiblnpnfaadmcaaGreatTWChecks
/- Section 09: the reference's Least2; a plan is the same as itself. -/
set_option linter.unusedVariables false
set_option maxRecDepth 10000
set_option linter.unusedSimpArgs false
namespace Go.Proofs.YtiblnpnfaadmcaaGreat.Am
open Go

section
variable {h : Heap} {ps : List (Rat × Rat)} {ss : List Sq} {R : Option AV}
def CpR (H : Heap) (y : AV) (sz n : Nat) (cs : List AV) : Prop := (y = .is 0 true [] ∧ n = 0 ∧ cs = []) ∨ ∃ id, y = .rs sz id 0 n ∧ live H id = some cs ∧ cs.length = n * sz
theorem CpR.cell {H : Heap} {y : AV} {sz n : Nat} {cs : List AV} (h : CpR H y sz n cs) : y.cell = true := by
  rcases h with ⟨rfl, _⟩ | ⟨id, rfl, _⟩ <;> rfl
theorem CpR.frz {H : Heap} {y : AV} {sz n : Nat} {cs : List AV} (h : CpR H y sz n cs) (hi : ∀ c ∈ cs, Imm 1 c) : freeze H y = some (.is n false cs) := by
  rcases h with ⟨rfl, rfl, rfl⟩ | ⟨id, rfl, hl, hn⟩
  · rfl
  · have e : freeze H (.rs sz id 0 n) = (live H id).bind fun cs => if 0 + n * sz ≤ cs.length then (((cs.drop 0).take (n * sz)).mapM (freezeN 11 H)).map (.is n false) else none := rfl
    rw [e, hl, Option.bind_some, if_pos (by omega), List.drop_zero, List.take_of_length_le (by omega), imm_mapM hi (by omega)]
    rfl
theorem CpR.app {H : Heap} {y : AV} {sz n : Nat} {cs : List AV} (h : CpR H y sz n cs) (T : Heap) : CpR (H ++ T) y sz n cs := by
  rcases h with ⟨rfl, rfl, rfl⟩ | ⟨id, rfl, hl, hn⟩
  · exact .inl ⟨rfl, rfl, rfl⟩
  · refine .inr ⟨id, rfl, ?_, hn⟩
    have := live_lt hl
    unfold live at hl ⊢
    rw [List.getElem?_append_left this]
    exact hl
theorem CpR.set {H : Heap} {y : AV} {sz n : Nat} {cs : List AV} (h : CpR H y sz n cs) (hj : ∀ id, y = .rs sz id 0 n → id ≠ 0) (x : Option (List AV)) (h0 : 0 < H.length) : CpR (H.set 0 x) y sz n cs := by
  rcases h with ⟨rfl, rfl, rfl⟩ | ⟨id, rfl, hl, hn⟩
  · exact .inl ⟨rfl, rfl, rfl⟩
  · refine .inr ⟨id, rfl, ?_, hn⟩
    rw [live_set h0, if_neg (hj id rfl)]
    exact hl
end
end Go.Proofs.YtiblnpnfaadmcaaGreat.Am
