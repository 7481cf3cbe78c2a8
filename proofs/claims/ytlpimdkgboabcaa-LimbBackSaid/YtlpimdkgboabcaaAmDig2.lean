/- More on digits. No program in sight. -/
import Derived.Test.YtlpimdkgboabcaaAmDig
set_option linter.unusedVariables false
set_option linter.unusedSimpArgs false
namespace Go.Proofs.Ytlpimdkgboabcaa.Am

variable {B : Nat}

theorem Dg.l32 {l : List Nat} (h : Dg 4294967296 l) (i : Nat) : l.getD i 0 < 4294967296 := h.getD (by decide)
theorem Dg.l64 {l : List Nat} (h : Dg 18446744073709551616 l) (i : Nat) : l.getD i 0 < 18446744073709551616 := h.getD (by decide)

/-- A digit, out of the number. -/
theorem getD_val {l : List Nat} (h : Dg B l) (j : Nat) : l.getD j 0 = val B l / B ^ j % B := by
  induction l generalizing j with
  | nil => simp [val]
  | cons x l ih =>
    have hx := h.head
    cases j with
    | zero => rw [val_cons, Nat.pow_zero, Nat.div_one, Nat.add_mul_mod_self_left, Nat.mod_eq_of_lt hx]; rfl
    | succ j =>
      have e : (x :: l).getD (j + 1) 0 = l.getD j 0 := rfl
      rw [e, ih h.tail j, val_cons, Nat.pow_succ, Nat.mul_comm (B ^ j), ← Nat.div_div_eq_div_mul, Nat.add_mul_div_left _ _ (by omega), Nat.div_eq_of_lt hx, Nat.zero_add]

theorem val_set {l : List Nat} {j a b : Nat} (hj : j < l.length) (ha : a = l.getD j 0 + b) : val B (l.set j a) = val B l + b * B ^ j := by
  induction l generalizing j with
  | nil => simp at hj
  | cons x l ih =>
    cases j with
    | zero =>
      have : a = x + b := ha
      rw [List.set_cons_zero, val_cons, val_cons, this, Nat.pow_zero]; omega
    | succ j =>
      rw [List.set_cons_succ, val_cons, val_cons, ih (by simpa using hj) ha, Nat.mul_add, Nat.pow_succ]
      have e2 : B * (b * B ^ j) = b * (B ^ j * B) := by rw [Nat.mul_left_comm, Nat.mul_comm B]
      omega

theorem val_set' {l : List Nat} {j a : Nat} (hj : j < l.length) : val B (l.set j a) + l.getD j 0 * B ^ j = val B l + a * B ^ j := by
  induction l generalizing j with
  | nil => simp at hj
  | cons x l ih =>
    cases j with
    | zero =>
      have : (x :: l).getD 0 0 = x := rfl
      rw [List.set_cons_zero, val_cons, val_cons, this, Nat.pow_zero]; omega
    | succ j =>
      have e : (x :: l).getD (j + 1) 0 = l.getD j 0 := rfl
      have := ih (j := j) (by simpa using hj)
      rw [List.set_cons_succ, val_cons, val_cons, e, Nat.pow_succ]
      have e2 : ∀ c, c * (B ^ j * B) = B * (c * B ^ j) := fun c => by rw [← Nat.mul_assoc, Nat.mul_comm]
      rw [e2, e2, Nat.add_assoc, Nat.add_assoc, ← Nat.mul_add, this, Nat.mul_add]

theorem val_take_le (l : List Nat) (i : Nat) : val B (l.take i) ≤ val B l := by
  have := val_split (B := B) l i
  omega
theorem val_take_lt {l : List Nat} (h : Dg B l) (i : Nat) : val B (l.take i) < B ^ i ∨ l.length < i := by
  rcases Nat.lt_or_ge l.length i with hi | hi
  · exact .inr hi
  · have := val_lt (h.take i)
    rw [List.length_take, Nat.min_eq_left hi] at this
    exact .inl this
theorem val_take_mod {l : List Nat} (h : Dg B l) (hB : 0 < B) (i : Nat) : val B (l.take i) = val B l % B ^ i := by
  rcases Nat.lt_or_ge l.length i with hi | hi
  · rw [List.take_of_length_le (by omega), Nat.mod_eq_of_lt]
    exact Nat.lt_of_lt_of_le (val_lt h) (Nat.pow_le_pow_right hB (by omega))
  · have h1 := val_split (B := B) l i
    have h2 := val_lt (h.take i)
    rw [List.length_take, Nat.min_eq_left hi] at h1 h2
    rw [h1, Nat.add_mul_mod_self_left, Nat.mod_eq_of_lt h2]
theorem val_drop_div {l : List Nat} (h : Dg B l) (hB : 0 < B) (i : Nat) : val B (l.drop i) = val B l / B ^ i := by
  rcases Nat.lt_or_ge l.length i with hi | hi
  · rw [List.drop_of_length_le (by omega), val_nil, Nat.div_eq_of_lt]
    exact Nat.lt_of_lt_of_le (val_lt h) (Nat.pow_le_pow_right hB (by omega))
  · have h1 := val_split (B := B) l i
    have h2 := val_lt (h.take i)
    rw [List.length_take, Nat.min_eq_left hi] at h1 h2
    rw [h1, Nat.add_mul_div_left _ _ (Nat.pow_pos hB), Nat.div_eq_of_lt h2, Nat.zero_add]

theorem dig_small (hB : 2 ≤ B) {x : Nat} (hx : x < B) (h0 : x ≠ 0) : dig B x = [x] := by
  rw [dig_pos hB h0, Nat.mod_eq_of_lt hx, Nat.div_eq_of_lt hx, dig_zero]

/-- A number's digits to the square of a base, two by two. -/
theorem dig_sq {C : Nat} (hB : 2 ≤ B) (hC : C = B * B) {n : Nat} (h : n ≠ 0) : dig C n = (n % B + B * (n / B % B)) :: dig C (n / B / B) := by
  have hC2 : 2 ≤ C := by rw [hC]; exact Nat.le_trans hB (Nat.le_mul_of_pos_left _ (by omega))
  rw [dig_pos hC2 h, hC, Nat.mod_mul, Nat.div_div_eq_div_mul]

theorem dig_drop (hB : 2 ≤ B) (n i : Nat) : (dig B n).drop i = dig B (n / B ^ i) := by
  induction i generalizing n with
  | zero => simp
  | succ i ih =>
    by_cases h : n = 0
    · subst h; simp [dig_zero]
    · rw [dig_pos hB h, List.drop_succ_cons, ih, Nat.pow_succ, Nat.mul_comm (B ^ i), Nat.div_div_eq_div_mul]
theorem dig_getD (hB : 2 ≤ B) (n i : Nat) : (dig B n).getD i 0 = n / B ^ i % B := by
  rw [getD_val (dig_Dg hB n), val_dig hB]
theorem dig_len_gt (hB : 2 ≤ B) {n i : Nat} : i < (dig B n).length ↔ B ^ i ≤ n := by
  constructor
  · intro h
    rcases Nat.lt_or_ge n (B ^ i) with h1 | h1
    · have := dig_len_lt hB h1; omega
    · exact h1
  · intro h
    rcases Nat.lt_or_ge i (dig B n).length with h1 | h1
    · exact h1
    · have h2 := lt_of_dig_len hB (n := n)
      have h3 : B ^ (dig B n).length ≤ B ^ i := Nat.pow_le_pow_right (by omega) h1
      omega

/-- A number's bytes, the highest first. -/
def nb (n : Nat) : List Nat := (dig 256 n).reverse
theorem nb_zero : nb 0 = [] := by unfold nb; rw [dig_zero]; rfl
theorem nb_lt (n : Nat) : ∀ x ∈ nb n, x < 256 := fun x hx => dig_Dg (by decide) n x (List.mem_reverse.1 hx)
theorem nb_val (n : Nat) : val 256 (nb n).reverse = n := by unfold nb; rw [List.reverse_reverse, val_dig (by decide)]
theorem nb_inj {a b : Nat} (h : nb a = nb b) : a = b := by rw [← nb_val a, h, nb_val]
theorem nb_len (n : Nat) : (nb n).length = (dig 256 n).length := by simp [nb]
theorem nb_eq_nil {n : Nat} : nb n = [] ↔ n = 0 := by
  constructor
  · intro h
    have := nb_val n
    rw [h] at this
    exact this.symm
  · rintro rfl; exact nb_zero
theorem nb_one : nb 1 = [1] := by unfold nb; rw [dig_small (by decide) (by decide) (by decide)]; rfl

/-- Bytes whose first is not 0 are a number's. -/
theorem nb_of {l : List Nat} (hl : ∀ x ∈ l, x < 256) (h0 : l.getD 0 1 ≠ 0) : nb (val 256 l.reverse) = l := by
  have hd : Dg 256 l.reverse := fun x hx => hl x (List.mem_reverse.1 hx)
  have ht : tl l.reverse = l.reverse.length := by
    cases l with
    | nil => rfl
    | cons x l =>
      rw [List.reverse_cons, tl_snoc, if_neg (by simpa using h0)]
      simp
  unfold nb
  rw [← eq_dig (by decide) hd ht, List.reverse_reverse]
theorem nb_head {n : Nat} (h : n ≠ 0) : (nb n).getD 0 0 ≠ 0 := by
  have h1 := dig_top (B := 256) (by decide) h
  have h2 : (dig 256 n).length ≠ 0 := fun e => h ((dig_len_eq (by decide)).1 e)
  unfold nb
  rw [List.getD_eq_getElem?_getD, List.getElem?_reverse (by omega)]
  rw [List.getD_eq_getElem?_getD] at h1
  simpa using h1
theorem nb_getD (n : Nat) {i : Nat} (h : i < (nb n).length) : (nb n).getD ((nb n).length - 1 - i) 0 = n / 256 ^ i % 256 := by
  rw [nb_len] at *
  unfold nb
  rw [List.getD_eq_getElem?_getD, List.getElem?_reverse (by omega), ← List.getD_eq_getElem?_getD, dig_getD (by decide)]
  congr 3
  omega
end Go.Proofs.Ytlpimdkgboabcaa.Am
