/- Same, and what the laws' own examples say. -/
import Derived.Test.YtlpimdkgboabcaaAmDivAll
set_option linter.unusedVariables false
set_option linter.unusedSimpArgs false
namespace Go.Proofs.Ytlpimdkgboabcaa.Am
open Go

theorem same_l0 {a b : List Nat} (hlen : a.length = b.length) (hs : a.length ≤ 4611686018427387904) : ∀ (k i : Nat), i + k = a.length → a.take i = b.take i → gussetref01_Same.l0 (nats a) (nats b) (.int .i64 i) = some (.bool (decide (a = b))) := by
  intro k
  induction k with
  | zero =>
    intro i hik ht
    rw [gussetref01_Same.l0_eq]
    simp only [len_nats, bind_s, bin_lss, cond_d]
    rw [if_neg (by omega)]
    rw [List.take_of_length_le (by omega), List.take_of_length_le (by omega)] at ht
    rw [decide_eq_true ht]
    rfl
  | succ k ih =>
    intro i hik ht
    rw [gussetref01_Same.l0_eq]
    simp only [len_nats, bind_s, bin_lss, cond_d]
    rw [if_pos (by omega), (Row.nats [] a).rd (by omega) (by omega), (Row.nats [] b).rd (by omega) (by omega), Int.toNat_natCast]
    simp only [nat_neq, bind_s, cond_d]
    by_cases h : a.getD i 0 = b.getD i 0
    · rw [if_neg (fun e => e h), int_add (by omega) (by omega)]
      simp only [bind_s]
      exact ih (i + 1) (by omega) (by rw [take_snoc a i (by omega), take_snoc b i (by omega), ht, h])
    · rw [if_pos h]
      have : a ≠ b := fun e => h (by rw [e])
      rw [decide_eq_false this]
      rfl

theorem same_cv (a b : List Nat) (hs : a.length ≤ 4611686018427387904) : cv gp fid.gussetref01_Same [nats a, nats b] = some (.bool (decide (a = b))) := by
  rw [gussetref01_Same.eq]
  unfold gussetref01_Same.f
  simp only [len_nats, bind_s, bin_neq, cond_d]
  split
  · rename_i h
    have : a ≠ b := fun e => h (by rw [e])
    rw [decide_eq_false this]
    rfl
  · exact same_l0 (by omega) hs a.length 0 (by omega) (by simp)
theorem same_by {h : Heap} (a b : List Nat) (hs : a.length ≤ 4611686018427387904) : byVal (callW gp) h fid.gussetref01_Same [nats a, nats b] = some (.bool (decide (a = b))) :=
  byVal_imm (imm_l2 imm_nats imm_nats (by omega) (by omega)) (same_cv a b hs)

theorem live_run : ((callK gp 60 fid.gussetlaw01_live [] []).bind fun r => freeze r.2 r.1) = some (.bool true) := by kernel_rfl

theorem cv_of_run {G : Prog} {n f : Nat} {args : List AV} {v : AV} (h : ((callK G n f args []).bind fun r => freeze r.2 r.1) = some v) : cv G f args = some v := by
  simp only [Option.bind_eq_some_iff] at h
  obtain ⟨r, h1, h2⟩ := h
  unfold cv
  rw [callW_iff.2 ⟨n, h1⟩]
  exact h2
theorem live_cv : cv gp fid.gussetlaw01_live [] = some (.bool true) := cv_of_run live_run
theorem live_by {h : Heap} : byVal (callW gp) h fid.gussetlaw01_live [] = some (.bool true) := byVal_imm (fun _ h => by cases h) live_cv

end Go.Proofs.Ytlpimdkgboabcaa.Am
