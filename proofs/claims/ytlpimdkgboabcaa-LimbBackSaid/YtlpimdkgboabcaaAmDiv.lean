/- Go's quotient of two words by one. -/
import Derived.Test.YtlpimdkgboabcaaAmBits
set_option linter.unusedVariables false
set_option linter.unusedSimpArgs false
namespace Go.Proofs.Ytlpimdkgboabcaa.Am
open Go

/-- One digit of a quotient, guessed too great by as much as the remainder tells. -/
structure Guess (yn1 yn0 U u : Nat) (q r : Nat) : Prop where
  sum : q * yn1 + r = U
  low : (U * 4294967296 + u) / (yn1 * 4294967296 + yn0) ≤ q
  top : q ≤ 4294967297

theorem Guess.first {yn1 yn0 U u : Nat} (h1 : 2147483648 ≤ yn1) (h2 : yn0 < 4294967296) (h3 : u < 4294967296) (hU : U < yn1 * 4294967296 + yn0) : Guess yn1 yn0 U u (U / yn1) (U % yn1) where
  sum := by rw [Nat.mul_comm]; exact Nat.div_add_mod U yn1
  low := by
    have hlt : U < (U / yn1 + 1) * yn1 := by
      have := Nat.div_add_mod U yn1
      have := Nat.mod_lt U (show yn1 > 0 by omega)
      rw [Nat.add_mul, Nat.one_mul, Nat.mul_comm]; omega
    have : (U * 4294967296 + u) / (yn1 * 4294967296 + yn0) < U / yn1 + 1 := by
      rw [Nat.div_lt_iff_lt_mul (by omega)]
      have h : (U + 1) * 4294967296 ≤ (U / yn1 + 1) * yn1 * 4294967296 := Nat.mul_le_mul_right _ hlt
      have e : (U / yn1 + 1) * (yn1 * 4294967296 + yn0) = (U / yn1 + 1) * yn1 * 4294967296 + (U / yn1 + 1) * yn0 := by rw [Nat.mul_add, Nat.mul_assoc]
      rw [e]
      omega
    omega
  top := by
    have h5 : U / yn1 < 4294967298 := by
      rw [Nat.div_lt_iff_lt_mul (by omega)]
      omega
    omega

/-- A guess that is too great is made less. -/
theorem Guess.next {yn1 yn0 U u q r : Nat} (h1 : 0 < yn1) (g : Guess yn1 yn0 U u q r) (hq : 4294967296 ≤ q ∨ 4294967296 * r + u < q * yn0) (hU : U < yn1 * 4294967296 + yn0) (hy : yn0 < 4294967296) (hu : u < 4294967296) : Guess yn1 yn0 U u (q - 1) (r + yn1) ∧ 1 ≤ q := by
  have hlt : (U * 4294967296 + u) / (yn1 * 4294967296 + yn0) < q := by
    rw [Nat.div_lt_iff_lt_mul (by omega)]
    rcases hq with hq | hq
    · have : 4294967296 * (yn1 * 4294967296 + yn0) ≤ q * (yn1 * 4294967296 + yn0) := Nat.mul_le_mul_right _ hq
      omega
    · have e : q * (yn1 * 4294967296 + yn0) = q * yn1 * 4294967296 + q * yn0 := by rw [Nat.mul_add, Nat.mul_assoc]
      rw [e]
      have := g.sum
      omega
  have hq1 : 1 ≤ q := Nat.lt_of_le_of_lt (Nat.zero_le _) hlt
  refine ⟨⟨?_, Nat.le_sub_one_of_lt hlt, by have := g.top; omega⟩, hq1⟩
  have e : q * yn1 = (q - 1) * yn1 + yn1 := by
    conv => lhs; rw [show q = (q - 1) + 1 by omega]
    rw [Nat.add_mul, Nat.one_mul]
  have := g.sum
  omega

/-- A guess that is right. -/
theorem Guess.done {yn1 yn0 U u q r : Nat} (h1 : 0 < yn1) (g : Guess yn1 yn0 U u q r) (hq : q * yn0 ≤ 4294967296 * r + u) : q = (U * 4294967296 + u) / (yn1 * 4294967296 + yn0) := by
  have : q ≤ (U * 4294967296 + u) / (yn1 * 4294967296 + yn0) := by
    rw [Nat.le_div_iff_mul_le (by omega)]
    have e : q * (yn1 * 4294967296 + yn0) = q * yn1 * 4294967296 + q * yn0 := by rw [Nat.mul_add, Nat.mul_assoc]
    rw [e]
    have := g.sum
    omega
  exact Nat.le_antisymm this g.low

theorem Guess.small {yn1 yn0 U u q r : Nat} (g : Guess yn1 yn0 U u q r) (hr : 4294967296 ≤ r) (hU : U < yn1 * 4294967296 + yn0) (hy : yn0 < 4294967296) : q < 4294967296 ∧ q * yn0 ≤ 4294967296 * r + u := by
  have hq : q < 4294967296 := by
    rcases Nat.lt_or_ge q 4294967296 with h | h
    · exact h
    · have : 4294967296 * yn1 ≤ q * yn1 := Nat.mul_le_mul_right _ h
      have := g.sum
      omega
  have : q * yn0 ≤ 4294967296 * 4294967296 := Nat.mul_le_mul (by omega) (by omega)
  exact ⟨hq, by omega⟩

section
variable {y2 y8 : AV} {yn1 yn0 U u : Nat}

theorem div64_l0 {y14 : AV} {R : Option AV} (h1 : 2147483648 ≤ yn1) (h1' : yn1 < 4294967296) (h2 : yn0 < 4294967296) (h3 : u < 4294967296) (hU : U < yn1 * 4294967296 + yn0)
    (hj : bits_Div64.j1 y2 y8 (nat .u64 yn1) (nat .u64 yn0) (nat .u64 U) (nat .u64 u) y14 (nat .u64 ((U * 4294967296 + u) / (yn1 * 4294967296 + yn0))) = R) :
    ∀ (n q r : Nat), 4294967296 - r ≤ n → r < 4294967296 → Guess yn1 yn0 U u q r → bits_Div64.l0 y2 y8 (nat .u64 yn1) (nat .u64 yn0) (nat .u64 U) (nat .u64 u) y14 (nat .u64 q) (nat .u64 r) = R := by
  intro n
  induction n with
  | zero => intro q r hn hr g; omega
  | succ n ih =>
    intro q r hn hr g
    have ht := g.top
    have j0 : (4294967296 ≤ q ∨ 4294967296 * r + u < q * yn0) → bits_Div64.j0 y2 y8 (nat .u64 yn1) (nat .u64 yn0) (nat .u64 U) (nat .u64 u) y14 (nat .u64 q) (nat .u64 r) = R := by
      intro hq
      obtain ⟨g', hq1⟩ := g.next (by omega) hq hU h2 h3
      unfold bits_Div64.j0
      rw [u_sub (by omega)]
      simp only [bind_s, u_add, nat_geq, cond_d]
      rw [show (q + 18446744073709551616 - 1) % 18446744073709551616 = q - 1 by omega, show (r + yn1) % 18446744073709551616 = r + yn1 by omega]
      split
      · rename_i hr2
        obtain ⟨_, h6⟩ := g'.small hr2 hU h2
        rw [g'.done (by omega) h6]
        exact hj
      · exact ih _ _ (by omega) (by omega) g'
    rw [bits_Div64.l0_eq]
    simp only [nat_geq, bind_s, guard_df]
    split
    · rename_i hq
      exact j0 (.inl hq)
    · rename_i hq
      have hp : q * yn0 ≤ 4294967295 * 4294967295 := Nat.mul_le_mul (by omega) (by omega)
      simp only [u_mul, bind_s, u_add, nat_gtr, cond_d]
      rw [show (q * yn0) % 18446744073709551616 = q * yn0 by omega, show ((4294967296 * r) % 18446744073709551616 + u) % 18446744073709551616 = 4294967296 * r + u by omega]
      split
      · rename_i h6; exact j0 (.inr h6)
      · rename_i h6
        rw [g.done (by omega) (by omega)]
        exact hj

theorem div64_l1 {y16 : AV} {R : Option AV} (h1 : 2147483648 ≤ yn1) (h1' : yn1 < 4294967296) (h2 : yn0 < 4294967296) (h3 : u < 4294967296) (hU : U < yn1 * 4294967296 + yn0)
    (hj : bits_Div64.j3 y2 y8 (nat .u64 u) y16 (nat .u64 U) (nat .u64 ((U * 4294967296 + u) / (yn1 * 4294967296 + yn0))) = R) :
    ∀ (n q r : Nat), 4294967296 - r ≤ n → r < 4294967296 → Guess yn1 yn0 U u q r → bits_Div64.l1 y2 y8 (nat .u64 yn1) (nat .u64 yn0) (nat .u64 u) y16 (nat .u64 r) (nat .u64 U) (nat .u64 q) = R := by
  intro n
  induction n with
  | zero => intro q r hn hr g; omega
  | succ n ih =>
    intro q r hn hr g
    have ht := g.top
    have j0 : (4294967296 ≤ q ∨ 4294967296 * r + u < q * yn0) → bits_Div64.j2 y2 y8 (nat .u64 yn1) (nat .u64 yn0) (nat .u64 u) y16 (nat .u64 r) (nat .u64 U) (nat .u64 q) = R := by
      intro hq
      obtain ⟨g', hq1⟩ := g.next (by omega) hq hU h2 h3
      unfold bits_Div64.j2
      rw [u_sub (by omega)]
      simp only [bind_s, u_add, nat_geq, cond_d]
      rw [show (q + 18446744073709551616 - 1) % 18446744073709551616 = q - 1 by omega, show (r + yn1) % 18446744073709551616 = r + yn1 by omega]
      split
      · rename_i hr2
        obtain ⟨_, h6⟩ := g'.small hr2 hU h2
        rw [g'.done (by omega) h6]
        exact hj
      · exact ih _ _ (by omega) (by omega) g'
    rw [bits_Div64.l1_eq]
    simp only [nat_geq, bind_s, guard_df]
    split
    · rename_i hq
      exact j0 (.inl hq)
    · rename_i hq
      have hp : q * yn0 ≤ 4294967295 * 4294967295 := Nat.mul_le_mul (by omega) (by omega)
      simp only [u_mul, bind_s, u_add, nat_gtr, cond_d]
      rw [show (q * yn0) % 18446744073709551616 = q * yn0 by omega, show ((4294967296 * r) % 18446744073709551616 + u) % 18446744073709551616 = 4294967296 * r + u by omega]
      split
      · rename_i h6; exact j0 (.inr h6)
      · rename_i h6
        rw [g.done (by omega) (by omega)]
        exact hj
end


theorem mod_sub (X v : Nat) : X % v = X - X / v * v := by
  have := Nat.div_add_mod X v
  rw [Nat.mul_comm] at this
  omega
theorem wrap_rest {a b P : Nat} (h1 : P ≤ a * 4294967296 + b) (h2 : a * 4294967296 + b - P < 18446744073709551616) :
    (((a * 4294967296) % 18446744073709551616 + b) % 18446744073709551616 + 18446744073709551616 - P % 18446744073709551616) % 18446744073709551616 = a * 4294967296 + b - P := by omega
theorem join_rest {U low a b : Nat} (h1 : a ≤ U * 4294967296 + low / 4294967296) (h2 : b ≤ (U * 4294967296 + low / 4294967296 - a) * 4294967296 + low % 4294967296) :
    U * 18446744073709551616 + low = a * 4294967296 + b + ((U * 4294967296 + low / 4294967296 - a) * 4294967296 + low % 4294967296 - b) := by omega
theorem or_add {a b s : Nat} (hb : b < 2 ^ s) : (a * 2 ^ s) ||| b = a * 2 ^ s + b := by
  rw [Nat.mul_comm, Nat.two_pow_add_eq_or_of_lt hb]

set_option maxRecDepth 20000 in
/-- The quotient of two words by one. -/
theorem div64 (hi lo y : Nat) (h1 : hi < y) (h2 : lo < 18446744073709551616) (h3 : y < 18446744073709551616) :
    cv gp fid.bits_Div64 [nat .u64 hi, nat .u64 lo, nat .u64 y] = some (.tup [nat .u64 ((hi * 18446744073709551616 + lo) / y), nat .u64 ((hi * 18446744073709551616 + lo) % y)]) := by
  rw [bits_Div64.eq]
  unfold bits_Div64.f
  simp only [nat_eql, nat_leq, bind_s, cond_d]
  rw [if_neg (by omega), if_neg (by omega)]
  split
  · rename_i h0
    subst h0
    rw [u_quo h2 (by omega), u_rem (by omega)]
    simp only [bind_s, Nat.zero_mul, Nat.zero_add]
    rfl
  · rename_i h0
    have hb : blen y ≤ 64 := blen_le (k := 64) h3
    have hb0 := blen_pos (x := y) (by omega)
    rw [byVal_imm (imm_l1 imm_nat (by omega)) (lz64 y h3)]
    simp only [bind_s]
    obtain ⟨s, hs⟩ : ∃ s, s = 64 - blen y := ⟨_, rfl⟩
    rw [← hs]
    have hs64 : s < 64 := by omega
    rw [conv_ui (by omega) (by omega)]
    have e64 : (2 : Nat) ^ 64 = 18446744073709551616 := rfl
    -- the divisor, its highest bit set
    have hv1 : y * 2 ^ s < 18446744073709551616 := by
      have := Nat.mul_lt_mul_of_pos_right (blen_lt y) (Nat.two_pow_pos s)
      rwa [← Nat.pow_add, show blen y + s = 64 by omega, e64] at this
    have hv2 : 9223372036854775808 ≤ y * 2 ^ s := by
      have := Nat.mul_le_mul_right (2 ^ s) (le_blen (x := y) (by omega))
      rwa [← Nat.pow_add, show blen y - 1 + s = 63 by omega] at this
    have hhi : hi * 2 ^ s < y * 2 ^ s := Nat.mul_lt_mul_of_pos_right h1 (Nat.two_pow_pos s)
    have hlo : lo / 2 ^ (64 - s) < 2 ^ s := by
      rw [Nat.div_lt_iff_lt_mul (Nat.two_pow_pos _), ← Nat.pow_add, show s + (64 - s) = 64 by omega]
      exact h2
    -- the number, as much higher
    have hN : (hi * 18446744073709551616 + lo) * 2 ^ s = (hi * 2 ^ s + lo / 2 ^ (64 - s)) * 18446744073709551616 + (lo * 2 ^ s) % 18446744073709551616 := by
      have e1 : lo * 2 ^ s / 18446744073709551616 = lo / 2 ^ (64 - s) := by
        rw [show (18446744073709551616 : Nat) = 2 ^ (64 - s) * 2 ^ s by rw [← Nat.pow_add, show 64 - s + s = 64 by omega]]
        exact Nat.mul_div_mul_right _ _ (Nat.two_pow_pos s)
      have e2 := Nat.div_add_mod (lo * 2 ^ s) 18446744073709551616
      rw [e1] at e2
      rw [Nat.add_mul, Nat.add_mul]
      have e3 : hi * 18446744073709551616 * 2 ^ s = hi * 2 ^ s * 18446744073709551616 := by rw [Nat.mul_assoc, Nat.mul_assoc, Nat.mul_comm 18446744073709551616]
      omega
    have hU : hi * 2 ^ s + lo / 2 ^ (64 - s) < y * 2 ^ s := by
      have := Nat.mul_le_mul_right (2 ^ s) (show hi + 1 ≤ y from h1)
      rw [Nat.add_mul, Nat.one_mul] at this
      omega
    simp only [bind_s, Int.toNat_natCast, u_shl, Nat.mod_eq_of_lt hv1, u_shr hv1, u_and hv1 (by omega : 4294967295 < 18446744073709551616), mask32, Nat.mod_eq_of_lt (show hi * 2 ^ s < 18446744073709551616 by omega)]
    rw [u_sub (by omega), show (64 + 18446744073709551616 - s) % 18446744073709551616 = 64 - s by omega]
    simp only [bind_s, u_shr h2]
    rw [u_or (by omega) (by omega), or_add hlo]
    simp only [bind_s]
    have hm := Nat.mod_lt (lo * 2 ^ s) (show 18446744073709551616 > 0 by omega)
    rw [u_shr hm]
    simp only [bind_s]
    rw [u_and hm (by omega)]
    simp only [bind_s, mask32, show (2 : Nat) ^ 32 = 4294967296 from rfl]
    generalize hl2 : (lo * 2 ^ s) % 18446744073709551616 = low at *
    generalize hU2 : hi * 2 ^ s + lo / 2 ^ (64 - s) = U at *
    have hy0 : 0 < y := by omega
    have hp0 := Nat.two_pow_pos s
    have hq := Nat.mul_div_mul_right (hi * 18446744073709551616 + lo) y hp0
    have hr : (U * 18446744073709551616 + low) % (y * 2 ^ s) = ((hi * 18446744073709551616 + lo) % y) * 2 ^ s := by rw [← hN, Nat.mul_mod_mul_right]
    rw [hN] at hq
    obtain ⟨N, hNd⟩ : ∃ N, N = hi * 18446744073709551616 + lo := ⟨_, rfl⟩
    rw [← hNd] at hq hr hN ⊢
    generalize hv : y * 2 ^ s = v at *
    have yn1 : v / 4294967296 < 4294967296 := by omega
    have ev : v / 4294967296 * 4294967296 + v % 4294967296 = v := by omega
    rw [u_quo (by omega) (by omega)]
    simp only [bind_s, u_mul]
    have hsub : U / (v / 4294967296) * (v / 4294967296) ≤ U := Nat.div_mul_le_self _ _
    have hmod : U % (v / 4294967296) = U - U / (v / 4294967296) * (v / 4294967296) := mod_sub _ _
    rw [Nat.mod_eq_of_lt (by omega : U / (v / 4294967296) * (v / 4294967296) < 18446744073709551616), u_sub (by omega), show (U + 18446744073709551616 - U / (v / 4294967296) * (v / 4294967296)) % 18446744073709551616 = U % (v / 4294967296) by omega]
    simp only [bind_s]
    have hmlt : U % (v / 4294967296) < v / 4294967296 := Nat.mod_lt _ (by omega)
    have hUv : U < v / 4294967296 * 4294967296 + v % 4294967296 := by omega
    refine div64_l0 (by omega) yn1 (Nat.mod_lt _ (by omega)) (by omega) hUv ?_ 4294967296 _ _ (by omega) (by omega) (Guess.first (by omega) (Nat.mod_lt _ (by omega)) (by omega) hUv)
    rw [ev]
    -- the second digit
    generalize hQ1 : (U * 4294967296 + low / 4294967296) / v = Q1
    have hQ1v : Q1 * v ≤ U * 4294967296 + low / 4294967296 := by rw [← hQ1]; exact Nat.div_mul_le_self _ _
    have hQ1m : (U * 4294967296 + low / 4294967296) % v = U * 4294967296 + low / 4294967296 - Q1 * v := by rw [mod_sub, hQ1]
    have hQ1l : Q1 < 4294967296 := by
      rw [← hQ1, Nat.div_lt_iff_lt_mul (by omega)]
      omega
    have hU1 : (U * 4294967296 + low / 4294967296) % v < v := Nat.mod_lt _ (by omega)
    unfold bits_Div64.j1
    simp only [u_mul, bind_s, u_add]
    rw [u_sub (Nat.le_of_lt (Nat.mod_lt _ (by omega)))]
    simp only [bind_s]
    have e21 : ((((U * 4294967296) % 18446744073709551616 + low / 4294967296) % 18446744073709551616 + 18446744073709551616 - (Q1 * v) % 18446744073709551616) % 18446744073709551616) = (U * 4294967296 + low / 4294967296) % v := by
      rw [hQ1m] at hU1 ⊢
      exact wrap_rest hQ1v (Nat.lt_trans hU1 hv1)
    rw [e21]
    obtain ⟨U1, hU1e⟩ : ∃ U1, U1 = (U * 4294967296 + low / 4294967296) % v := ⟨_, rfl⟩
    rw [← hU1e] at hU1 hQ1m ⊢
    rw [u_quo (by omega) (by omega)]
    simp only [bind_s, u_mul]
    have hsub1 : U1 / (v / 4294967296) * (v / 4294967296) ≤ U1 := Nat.div_mul_le_self _ _
    have hmod1 : U1 % (v / 4294967296) = U1 - U1 / (v / 4294967296) * (v / 4294967296) := mod_sub _ _
    rw [Nat.mod_eq_of_lt (by omega : U1 / (v / 4294967296) * (v / 4294967296) < 18446744073709551616), u_sub (by omega), show (U1 + 18446744073709551616 - U1 / (v / 4294967296) * (v / 4294967296)) % 18446744073709551616 = U1 % (v / 4294967296) by omega]
    simp only [bind_s]
    have hmlt1 : U1 % (v / 4294967296) < v / 4294967296 := Nat.mod_lt _ (by omega)
    have hUv1 : U1 < v / 4294967296 * 4294967296 + v % 4294967296 := by omega
    refine div64_l1 (by omega) yn1 (Nat.mod_lt _ (by omega)) (Nat.mod_lt _ (by omega)) hUv1 ?_ 4294967296 _ _ (by omega) (by omega) (Guess.first (by omega) (Nat.mod_lt _ (by omega)) (Nat.mod_lt _ (by omega)) hUv1)
    rw [ev]
    generalize hQ0 : (U1 * 4294967296 + low % 4294967296) / v = Q0
    have hQ0v : Q0 * v ≤ U1 * 4294967296 + low % 4294967296 := by rw [← hQ0]; exact Nat.div_mul_le_self _ _
    have hQ0m : (U1 * 4294967296 + low % 4294967296) % v = U1 * 4294967296 + low % 4294967296 - Q0 * v := by rw [mod_sub, hQ0]
    have hQ0l : Q0 < 4294967296 := by
      rw [← hQ0, Nat.div_lt_iff_lt_mul (by omega)]
      omega
    have hR : (U1 * 4294967296 + low % 4294967296) % v < v := Nat.mod_lt _ (by omega)
    unfold bits_Div64.j3
    simp only [u_mul, bind_s, u_add]
    rw [u_sub (Nat.le_of_lt (Nat.mod_lt _ (by omega)))]
    simp only [bind_s]
    have e22 : ((((U1 * 4294967296) % 18446744073709551616 + low % 4294967296) % 18446744073709551616 + 18446744073709551616 - (Q0 * v) % 18446744073709551616) % 18446744073709551616) = (U1 * 4294967296 + low % 4294967296) % v := by
      rw [hQ0m] at hR ⊢
      exact wrap_rest hQ0v (Nat.lt_trans hR hv1)
    rw [e22, show ((Q1 * 4294967296) % 18446744073709551616 + Q0) % 18446744073709551616 = Q1 * 4294967296 + Q0 by omega, u_shr (by omega)]
    simp only [bind_s]
    -- both together
    have hfin : U * 18446744073709551616 + low = (Q1 * 4294967296 + Q0) * v + (U1 * 4294967296 + low % 4294967296) % v := by
      have e5 : (Q1 * 4294967296 + Q0) * v = Q1 * v * 4294967296 + Q0 * v := by rw [Nat.add_mul, Nat.mul_assoc, Nat.mul_comm 4294967296 v, ← Nat.mul_assoc]
      rw [e5, hQ0m, hQ1m]
      rw [hQ1m] at hQ0v
      exact join_rest hQ1v hQ0v
    have hv0 : 0 < v := by omega
    have q1 : N / y = Q1 * 4294967296 + Q0 := by
      rw [← hq, hfin]
      rw [Nat.add_comm, Nat.add_mul_div_right _ _ hv0, Nat.div_eq_of_lt hR, Nat.zero_add]
    have r1 : N % y * 2 ^ s = (U1 * 4294967296 + low % 4294967296) % v := by
      rw [← hr, hfin, Nat.add_comm, Nat.add_mul_mod_self_right, Nat.mod_mod]
    rw [← q1, ← r1, Nat.mul_div_cancel _ hp0]
    rfl

end Go.Proofs.Ytlpimdkgboabcaa.Am
