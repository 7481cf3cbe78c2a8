import Derived.Test.YtiblnpnfaadmcaaGreatTLimb
import Derived.Test.YtiblnpnfaadmcaaGreatAmLem
import Derived.Test.YtiblnpnfaadmcaaGreatAmDig
/- Go's library below the limbs: order, lengths, products and quotients of words. -/
set_option linter.unusedVariables false
set_option maxRecDepth 10000
set_option linter.unusedSimpArgs false
namespace Go.Proofs.YtiblnpnfaadmcaaGreat.Am
open Go

theorem frz_nn {h : Heap} {k k' : IntKind} {a b : Nat} : zy5v h (.tup [nat k a, nat k' b]) = some (.tup [nat k a, nat k' b]) := rfl

theorem isNaN_int (x : Int) : cv gp fid.zf4e [.int .i64 x] = some (.bool false) := by
 rw [zf4e.eq]
 simp only [zf4e.f, zy12, zy13, zy63, ne_eq, not_true_eq_false, decide_false]
theorem zy86 (x : Nat) : cv gp fid.zf4f [nat .u64 x] = some (.bool false) := by
 rw [zf4f.eq]
 simp only [zf4f.f, zybr, zy13, zy63, ne_eq, not_true_eq_false, decide_false]

theorem zy7g {d : Nat} {a : AV} (h : Imm d a) (hd : d ≤ 12) : ∀ c ∈ [a], Imm 12 c := fun c hc => by
 rw [List.mem_singleton.1 hc]; exact h.mono hd

theorem zy3a (x y : Int) : cv gp fid.zf3t [.int .i64 x, .int .i64 y] = some (.int .i64 (if x < y then -1 else if y < x then 1 else 0)) := by
 rw [zf3t.eq]
 have e : ∀ z : Int, byVal (callW gp) [] fid.zf4e [.int .i64 z] = some (.bool false) := fun z => zy1m (zy7g imm_int (by omega)) (isNaN_int z)
 simp only [zf3t.f, e, zy13, zy3d, zy11, zy0z, zy3c, zy64]
 split <;> (try split) <;> rfl
theorem zy3b (x y : Nat) : cv gp fid.zf3u [nat .u64 x, nat .u64 y] = some (.int .i64 (cmpI x y)) := by
 rw [zf3u.eq]
 have e : ∀ z : Nat, byVal (callW gp) [] fid.zf4f [nat .u64 z] = some (.bool false) := fun z => zy1m (zy7g zy7j (by omega)) (zy86 z)
 simp only [zf3u.f, e, zy13, zy3d, nat_lss, zybq, zy3c, zy64, cmpI]
 split <;> (try split) <;> rfl


def blen (x : Nat) : Nat := if x = 0 then 0 else Nat.log2 x + 1
theorem zy16 (x : Nat) : x < 2 ^ blen x := by
 unfold blen
 split
 ·subst x; simp
 ·exact Nat.lt_log2_self
theorem zy9i {x : Nat} (h : x ≠ 0) : 2 ^ (blen x - 1) ≤ x := by
 unfold blen
 rw [if_neg h, Nat.add_sub_cancel]
 exact Nat.log2_self_le h
theorem zy17 {x : Nat} (h : x ≠ 0) : 0 < blen x := by unfold blen; rw [if_neg h]; omega
theorem zy15 {x k : Nat} (h : x < 2 ^ k) : blen x ≤ k := by
 unfold blen
 split
 ·omega
 ·rename_i h0
  have := (Nat.log2_lt h0).2 h
  omega
theorem zy18 {x k : Nat} (h : 2 ^ k ≤ x) : blen (x / 2 ^ k) + k = blen x := by
 have hx : x ≠ 0 := fun e => by rw [e] at h; have := Nat.two_pow_pos k; omega
 have hd : x / 2 ^ k ≠ 0 := fun e => by
  have := (Nat.div_eq_zero_iff_lt (Nat.two_pow_pos k)).1 e
  omega
 have h1 := zy16 (x / 2 ^ k)
 have h2 := zy9i hd
 have h3 := zy17 hd
 have e1 : x < 2 ^ (blen (x / 2 ^ k) + k) := by
  rw [Nat.pow_add]
  exact (Nat.div_lt_iff_lt_mul (Nat.two_pow_pos k)).1 h1
 have e2 : 2 ^ (blen (x / 2 ^ k) + k - 1) ≤ x := by
  have : blen (x / 2 ^ k) + k - 1 = (blen (x / 2 ^ k) - 1) + k := by omega
  rw [this, Nat.pow_add]
  exact (Nat.le_div_iff_mul_le (Nat.two_pow_pos k)).1 h2
 have h4 := zy15 e1
 have h5 : ¬ blen x ≤ blen (x / 2 ^ k) + k - 1 := fun h => by
  have := Nat.lt_of_lt_of_le (zy16 x) (Nat.pow_le_pow_right (n := 2) (by omega) h)
  omega
 omega

theorem len64_tab (y n : AV) : zf4g.j2 y n = (zyd0 .u8 y).bind fun v9 => (zydo (str ((List.range 256).map blen)) v9).bind fun v10 => (zyd0 .i64 v10).bind fun v11 => (opBin .add n v11).bind fun v12 => zy5v [] v12 := by kernel_rfl

theorem zy9u {y : Nat} {n : Int} (hy : y < 256) (h1 : 0 ≤ n) (h2 : n ≤ 1000) : zf4g.j2 (nat .u64 y) (.int .i64 n) = some (.int .i64 (n + (blen y : Nat))) := by
 have hb : blen y ≤ 8 := zy15 (k := 8) hy
 have hs : zydo (str ((List.range 256).map blen)) (nat .u8 y) = some (nat .u8 (blen y)) := by
  unfold nat
  rw [zyh5 (fun x hx => ?_) (by omega) (by simp; omega)]
  ·rw [Int.toNat_natCast, List.getD_eq_getElem?_getD, List.getElem?_map, List.getElem?_range hy]; rfl
  ·obtain ⟨i, hi, rfl⟩ := List.mem_map.1 hx
   have := zy15 (x := i) (k := 8) (List.mem_range.1 hi)
   omega
 rw [len64_tab]
 simp only [zy3k, Nat.mod_eq_of_lt hy, zy13, hs, conv_iu (n := blen y) (k := .u8) (by omega)]
 rw [zy7w (by omega) (by omega)]
 rfl

theorem len64 (x : Nat) (hx : x < 18446744073709551616) : cv gp fid.zf4g [nat .u64 x] = some (.int .i64 (blen x : Nat)) := by
 have j1 : ∀ (y : Nat) (n : Int), y < 65536 → 0 ≤ n → n ≤ 100 → zf4g.j1 (nat .u64 y) (.int .i64 n) = some (.int .i64 (n + (blen y : Nat))) := by
  intro y n hy h1 h2
  unfold zf4g.j1
  simp only [zybp, zy13, zy3c]
  split
  ·rename_i h
   have := zy18 (x := y) (k := 8) h
   rw [u_shr (by omega), zy7w (by omega) (by omega)]
   simp only [zy13]
   rw [zy9u (by omega) (by omega) (by omega)]
   congr 2; omega
  ·rw [zy9u (by omega) (by omega) (by omega)]
 have j0 : ∀ (y : Nat) (n : Int), y < 4294967296 → 0 ≤ n → n ≤ 50 → zf4g.j0 (nat .u64 y) (.int .i64 n) = some (.int .i64 (n + (blen y : Nat))) := by
  intro y n hy h1 h2
  unfold zf4g.j0
  simp only [zybp, zy13, zy3c]
  split
  ·rename_i h
   have := zy18 (x := y) (k := 16) h
   rw [u_shr (by omega), zy7w (by omega) (by omega)]
   simp only [zy13]
   rw [j1 _ _ (by omega) (by omega) (by omega)]
   congr 2; omega
  ·rw [j1 _ _ (by omega) (by omega) (by omega)]
 rw [zf4g.eq]
 unfold zf4g.f
 simp only [zybp, zy13, zy3c]
 split
 ·rename_i h
  have := zy18 (x := x) (k := 32) h
  rw [u_shr hx]
  simp only [zy13]
  rw [j0 _ _ (by omega) (by omega) (by omega)]
  congr 2; omega
 ·rw [j0 _ _ (by omega) (by omega) (by omega)]
  congr 2; omega

theorem lz64 (x : Nat) (hx : x < 18446744073709551616) : cv gp fid.zf3x [nat .u64 x] = some (.int .i64 ((64 - blen x : Nat) : Int)) := by
 have h : blen x ≤ 64 := zy15 (k := 64) hx
 rw [zf3x.eq]
 unfold zf3x.f
 rw [zy1m (zy7g zy7j (by omega)) (len64 x hx)]
 simp only [zy13]
 rw [zy7z (by omega) (by omega)]
 simp only [zy13, zy64]
 congr 2; omega

theorem mask32 (x : Nat) : x &&& 4294967295 = x % 4294967296 := Nat.and_two_pow_sub_one_eq_mod x 32

theorem mul64 (x y : Nat) (hx : x < 18446744073709551616) (hy : y < 18446744073709551616) : cv gp fid.zf3v [nat .u64 x, nat .u64 y] = some (.tup [nat .u64 (x * y / 18446744073709551616), nat .u64 (x * y % 18446744073709551616)]) := by
 rw [zf3v.eq]
 unfold zf3v.f
 have hx0 : x % 4294967296 < 4294967296 := Nat.mod_lt _ (by omega)
 have hy0 : y % 4294967296 < 4294967296 := Nat.mod_lt _ (by omega)
 have hx1 : x / 4294967296 < 4294967296 := by omega
 have hy1 : y / 4294967296 < 4294967296 := by omega
 have ex : x = 4294967296 * (x / 4294967296) + x % 4294967296 := by omega
 have ey : y = 4294967296 * (y / 4294967296) + y % 4294967296 := by omega
 have exy : x * y = 18446744073709551616 * (x / 4294967296 * (y / 4294967296)) + 4294967296 * (x / 4294967296 * (y % 4294967296)) + 4294967296 * (x % 4294967296 * (y / 4294967296)) + x % 4294967296 * (y % 4294967296) := by
  generalize x / 4294967296 = x1 at *
  generalize x % 4294967296 = x0 at *
  generalize y / 4294967296 = y1 at *
  generalize y % 4294967296 = y0 at *
  subst ex ey
  grind
 simp only [u_and hx (by omega : 4294967295 < 18446744073709551616), u_and hy (by omega : 4294967295 < 18446744073709551616), u_shr hx, u_shr hy, zy13, mask32, u_mul]
 have b00 : x % 4294967296 * (y % 4294967296) ≤ 4294967295 * 4294967295 := Nat.mul_le_mul (by omega) (by omega)
 have b10 : x / 4294967296 * (y % 4294967296) ≤ 4294967295 * 4294967295 := Nat.mul_le_mul (by omega) (by omega)
 have b01 : x % 4294967296 * (y / 4294967296) ≤ 4294967295 * 4294967295 := Nat.mul_le_mul (by omega) (by omega)
 have b11 : x / 4294967296 * (y / 4294967296) ≤ 4294967295 * 4294967295 := Nat.mul_le_mul (by omega) (by omega)
 simp only [show (2 : Nat) ^ 32 = 4294967296 from rfl]
 rw [exy]
 generalize x / 4294967296 * (y / 4294967296) = p11 at *
 generalize x / 4294967296 * (y % 4294967296) = p10 at *
 generalize x % 4294967296 * (y / 4294967296) = p01 at *
 generalize x % 4294967296 * (y % 4294967296) = p00 at *
 rw [Nat.mod_eq_of_lt (a := p00) (by omega), Nat.mod_eq_of_lt (a := p10) (by omega), Nat.mod_eq_of_lt (a := p01) (by omega), Nat.mod_eq_of_lt (a := p11) (by omega)]
 rw [u_shr (by omega)]
 simp only [zy13, u_add]
 rw [u_and (Nat.mod_lt _ (by omega)) (by omega)]
 simp only [zy13, mask32]
 rw [u_shr (Nat.mod_lt _ (by omega))]
 simp only [zy13, u_add]
 rw [u_shr (Nat.mod_lt _ (by omega))]
 simp only [zy13, u_add, u_mul, show (2 : Nat) ^ 32 = 4294967296 from rfl]
 rw [frz_nn]
 congr 4 <;> omega

end Go.Proofs.YtiblnpnfaadmcaaGreat.Am
/- Go's quotient of two words by one. -/
set_option linter.unusedVariables false
set_option linter.unusedSimpArgs false
namespace Go.Proofs.YtiblnpnfaadmcaaGreat.Am
open Go

structure Guess (yn1 yn0 U u : Nat) (q r : Nat) : Prop where
 sum : q * yn1 + r = U
 low : (U * 4294967296 + u) / (yn1 * 4294967296 + yn0) ≤ q
 top : q ≤ 4294967297

theorem Guess.first {yn1 yn0 U u : Nat} (h1 : 2147483648 ≤ yn1) (h2 : yn0 < 4294967296) (h3 : u < 4294967296) (hU : U < yn1 * 4294967296 + yn0) : Guess yn1 yn0 U u (U / yn1) (U % yn1) where
 sum := by rw [Nat.mul_comm]; exact Nat.div_add_mod U yn1
 low := by
  have hlt : U < (U / yn1 + 1) * yn1 := by
   have := Nat.div_add_mod U yn1
   have := Nat.mod_lt U (show yn1 > 0 by omega)
   rw [Nat.add_mul, Nat.one_mul, Nat.mul_comm]; omega
  have : (U * 4294967296 + u) / (yn1 * 4294967296 + yn0) < U / yn1 + 1 := by
   rw [Nat.div_lt_iff_lt_mul (by omega)]
   have h : (U + 1) * 4294967296 ≤ (U / yn1 + 1) * yn1 * 4294967296 := Nat.mul_le_mul_right _ hlt
   have e : (U / yn1 + 1) * (yn1 * 4294967296 + yn0) = (U / yn1 + 1) * yn1 * 4294967296 + (U / yn1 + 1) * yn0 := by rw [Nat.mul_add, Nat.mul_assoc]
   rw [e]
   omega
  omega
 top := by
  have h5 : U / yn1 < 4294967298 := by
   rw [Nat.div_lt_iff_lt_mul (by omega)]
   omega
  omega

theorem Guess.next {yn1 yn0 U u q r : Nat} (h1 : 0 < yn1) (g : Guess yn1 yn0 U u q r) (hq : 4294967296 ≤ q ∨ 4294967296 * r + u < q * yn0) (hU : U < yn1 * 4294967296 + yn0) (hy : yn0 < 4294967296) (hu : u < 4294967296) : Guess yn1 yn0 U u (q - 1) (r + yn1) ∧ 1 ≤ q := by
 have hlt : (U * 4294967296 + u) / (yn1 * 4294967296 + yn0) < q := by
  rw [Nat.div_lt_iff_lt_mul (by omega)]
  rcases hq with hq | hq
  ·have : 4294967296 * (yn1 * 4294967296 + yn0) ≤ q * (yn1 * 4294967296 + yn0) := Nat.mul_le_mul_right _ hq
   omega
  ·have e : q * (yn1 * 4294967296 + yn0) = q * yn1 * 4294967296 + q * yn0 := by rw [Nat.mul_add, Nat.mul_assoc]
   rw [e]
   have := g.sum
   omega
 have hq1 : 1 ≤ q := Nat.lt_of_le_of_lt (Nat.zero_le _) hlt
 refine ⟨⟨?_, Nat.le_sub_one_of_lt hlt, by have := g.top; omega⟩, hq1⟩
 have e : q * yn1 = (q - 1) * yn1 + yn1 := by
  conv => lhs; rw [show q = (q - 1) + 1 by omega]
  rw [Nat.add_mul, Nat.one_mul]
 have := g.sum
 omega

theorem Guess.done {yn1 yn0 U u q r : Nat} (h1 : 0 < yn1) (g : Guess yn1 yn0 U u q r) (hq : q * yn0 ≤ 4294967296 * r + u) : q = (U * 4294967296 + u) / (yn1 * 4294967296 + yn0) := by
 have : q ≤ (U * 4294967296 + u) / (yn1 * 4294967296 + yn0) := by
  rw [Nat.le_div_iff_mul_le (by omega)]
  have e : q * (yn1 * 4294967296 + yn0) = q * yn1 * 4294967296 + q * yn0 := by rw [Nat.mul_add, Nat.mul_assoc]
  rw [e]
  have := g.sum
  omega
 exact Nat.le_antisymm this g.low

theorem Guess.small {yn1 yn0 U u q r : Nat} (g : Guess yn1 yn0 U u q r) (hr : 4294967296 ≤ r) (hU : U < yn1 * 4294967296 + yn0) (hy : yn0 < 4294967296) : q < 4294967296 ∧ q * yn0 ≤ 4294967296 * r + u := by
 have hq : q < 4294967296 := by
  rcases Nat.lt_or_ge q 4294967296 with h | h
  ·exact h
  ·have : 4294967296 * yn1 ≤ q * yn1 := Nat.mul_le_mul_right _ h
   have := g.sum
   omega
 have : q * yn0 ≤ 4294967296 * 4294967296 := Nat.mul_le_mul (by omega) (by omega)
 exact ⟨hq, by omega⟩

section
variable {y2 y8 : AV} {yn1 yn0 U u : Nat}

theorem div64_l0 {y14 : AV} {R : Option AV} (h1 : 2147483648 ≤ yn1) (h1' : yn1 < 4294967296) (h2 : yn0 < 4294967296) (h3 : u < 4294967296) (hU : U < yn1 * 4294967296 + yn0)
  (hj : zf4o.j1 y2 y8 (nat .u64 yn1) (nat .u64 yn0) (nat .u64 U) (nat .u64 u) y14 (nat .u64 ((U * 4294967296 + u) / (yn1 * 4294967296 + yn0))) = R) :
  ∀ (n q r : Nat), 4294967296 - r ≤ n → r < 4294967296 → Guess yn1 yn0 U u q r → zf4o.l0 y2 y8 (nat .u64 yn1) (nat .u64 yn0) (nat .u64 U) (nat .u64 u) y14 (nat .u64 q) (nat .u64 r) = R := by
 intro n
 induction n with
 | zero => intro q r hn hr g; omega
 | succ n ih =>
  intro q r hn hr g
  have ht := g.top
  have j0 : (4294967296 ≤ q ∨ 4294967296 * r + u < q * yn0) → zf4o.j0 y2 y8 (nat .u64 yn1) (nat .u64 yn0) (nat .u64 U) (nat .u64 u) y14 (nat .u64 q) (nat .u64 r) = R := by
   intro hq
   obtain ⟨g', hq1⟩ := g.next (by omega) hq hU h2 h3
   unfold zf4o.j0
   rw [u_sub (by omega)]
   simp only [zy13, u_add, zybp, zy3c]
   rw [show (q + 18446744073709551616 - 1) % 18446744073709551616 = q - 1 by omega, show (r + yn1) % 18446744073709551616 = r + yn1 by omega]
   split
   ·rename_i hr2
    obtain ⟨_, h6⟩ := g'.small hr2 hU h2
    rw [g'.done (by omega) h6]
    exact hj
   ·exact ih _ _ (by omega) (by omega) g'
  rw [zf4o.l0_eq]
  simp only [zybp, zy13, zy6j]
  split
  ·rename_i hq
   exact j0 (.inl hq)
  ·rename_i hq
   have hp : q * yn0 ≤ 4294967295 * 4294967295 := Nat.mul_le_mul (by omega) (by omega)
   simp only [u_mul, zy13, u_add, zybq, zy3c]
   rw [show (q * yn0) % 18446744073709551616 = q * yn0 by omega, show ((4294967296 * r) % 18446744073709551616 + u) % 18446744073709551616 = 4294967296 * r + u by omega]
   split
   ·rename_i h6; exact j0 (.inr h6)
   ·rename_i h6
    rw [g.done (by omega) (by omega)]
    exact hj

theorem div64_l1 {y16 : AV} {R : Option AV} (h1 : 2147483648 ≤ yn1) (h1' : yn1 < 4294967296) (h2 : yn0 < 4294967296) (h3 : u < 4294967296) (hU : U < yn1 * 4294967296 + yn0)
  (hj : zf4o.j3 y2 y8 (nat .u64 u) y16 (nat .u64 U) (nat .u64 ((U * 4294967296 + u) / (yn1 * 4294967296 + yn0))) = R) :
  ∀ (n q r : Nat), 4294967296 - r ≤ n → r < 4294967296 → Guess yn1 yn0 U u q r → zf4o.l1 y2 y8 (nat .u64 yn1) (nat .u64 yn0) (nat .u64 u) y16 (nat .u64 r) (nat .u64 U) (nat .u64 q) = R := by
 intro n
 induction n with
 | zero => intro q r hn hr g; omega
 | succ n ih =>
  intro q r hn hr g
  have ht := g.top
  have j0 : (4294967296 ≤ q ∨ 4294967296 * r + u < q * yn0) → zf4o.j2 y2 y8 (nat .u64 yn1) (nat .u64 yn0) (nat .u64 u) y16 (nat .u64 r) (nat .u64 U) (nat .u64 q) = R := by
   intro hq
   obtain ⟨g', hq1⟩ := g.next (by omega) hq hU h2 h3
   unfold zf4o.j2
   rw [u_sub (by omega)]
   simp only [zy13, u_add, zybp, zy3c]
   rw [show (q + 18446744073709551616 - 1) % 18446744073709551616 = q - 1 by omega, show (r + yn1) % 18446744073709551616 = r + yn1 by omega]
   split
   ·rename_i hr2
    obtain ⟨_, h6⟩ := g'.small hr2 hU h2
    rw [g'.done (by omega) h6]
    exact hj
   ·exact ih _ _ (by omega) (by omega) g'
  rw [zf4o.l1_eq]
  simp only [zybp, zy13, zy6j]
  split
  ·rename_i hq
   exact j0 (.inl hq)
  ·rename_i hq
   have hp : q * yn0 ≤ 4294967295 * 4294967295 := Nat.mul_le_mul (by omega) (by omega)
   simp only [u_mul, zy13, u_add, zybq, zy3c]
   rw [show (q * yn0) % 18446744073709551616 = q * yn0 by omega, show ((4294967296 * r) % 18446744073709551616 + u) % 18446744073709551616 = 4294967296 * r + u by omega]
   split
   ·rename_i h6; exact j0 (.inr h6)
   ·rename_i h6
    rw [g.done (by omega) (by omega)]
    exact hj
end

theorem zybl (X v : Nat) : X % v = X - X / v * v := by
 have := Nat.div_add_mod X v
 rw [Nat.mul_comm] at this
 omega
theorem zyik {a b P : Nat} (h1 : P ≤ a * 4294967296 + b) (h2 : a * 4294967296 + b - P < 18446744073709551616) :
  (((a * 4294967296) % 18446744073709551616 + b) % 18446744073709551616 + 18446744073709551616 - P % 18446744073709551616) % 18446744073709551616 = a * 4294967296 + b - P := by omega
theorem join_rest {U low a b : Nat} (h1 : a ≤ U * 4294967296 + low / 4294967296) (h2 : b ≤ (U * 4294967296 + low / 4294967296 - a) * 4294967296 + low % 4294967296) :
  U * 18446744073709551616 + low = a * 4294967296 + b + ((U * 4294967296 + low / 4294967296 - a) * 4294967296 + low % 4294967296 - b) := by omega
theorem or_add {a b s : Nat} (hb : b < 2 ^ s) : (a * 2 ^ s) ||| b = a * 2 ^ s + b := by
 rw [Nat.mul_comm, Nat.two_pow_add_eq_or_of_lt hb]

set_option maxRecDepth 20000 in
theorem div64 (hi lo y : Nat) (h1 : hi < y) (h2 : lo < 18446744073709551616) (h3 : y < 18446744073709551616) :
  cv gp fid.zf4o [nat .u64 hi, nat .u64 lo, nat .u64 y] = some (.tup [nat .u64 ((hi * 18446744073709551616 + lo) / y), nat .u64 ((hi * 18446744073709551616 + lo) % y)]) := by
 rw [zf4o.eq]
 unfold zf4o.f
 simp only [zybo, nat_leq, zy13, zy3c]
 rw [if_neg (by omega), if_neg (by omega)]
 split
 ·rename_i h0
  subst h0
  rw [u_quo h2 (by omega), u_rem (by omega)]
  simp only [zy13, Nat.zero_mul, Nat.zero_add]
  rfl
 ·rename_i h0
  have hb : blen y ≤ 64 := zy15 (k := 64) h3
  have hb0 := zy17 (x := y) (by omega)
  rw [zy1m (zy7g zy7j (by omega)) (lz64 y h3)]
  simp only [zy13]
  obtain ⟨s, hs⟩ : ∃ s, s = 64 - blen y := ⟨_, rfl⟩
  rw [← hs]
  have hs64 : s < 64 := by omega
  rw [zy3l (by omega) (by omega)]
  have e64 : (2 : Nat) ^ 64 = 18446744073709551616 := rfl
  -- the divisor, its highest bit set
  have hv1 : y * 2 ^ s < 18446744073709551616 := by
   have := Nat.mul_lt_mul_of_pos_right (zy16 y) (Nat.two_pow_pos s)
   rwa [← Nat.pow_add, show blen y + s = 64 by omega, e64] at this
  have hv2 : 9223372036854775808 ≤ y * 2 ^ s := by
   have := Nat.mul_le_mul_right (2 ^ s) (zy9i (x := y) (by omega))
   rwa [← Nat.pow_add, show blen y - 1 + s = 63 by omega] at this
  have hhi : hi * 2 ^ s < y * 2 ^ s := Nat.mul_lt_mul_of_pos_right h1 (Nat.two_pow_pos s)
  have hlo : lo / 2 ^ (64 - s) < 2 ^ s := by
   rw [Nat.div_lt_iff_lt_mul (Nat.two_pow_pos _), ← Nat.pow_add, show s + (64 - s) = 64 by omega]
   exact h2
  -- the number, as much higher
  have hN : (hi * 18446744073709551616 + lo) * 2 ^ s = (hi * 2 ^ s + lo / 2 ^ (64 - s)) * 18446744073709551616 + (lo * 2 ^ s) % 18446744073709551616 := by
   have e1 : lo * 2 ^ s / 18446744073709551616 = lo / 2 ^ (64 - s) := by
    rw [show (18446744073709551616 : Nat) = 2 ^ (64 - s) * 2 ^ s by rw [← Nat.pow_add, show 64 - s + s = 64 by omega]]
    exact Nat.mul_div_mul_right _ _ (Nat.two_pow_pos s)
   have e2 := Nat.div_add_mod (lo * 2 ^ s) 18446744073709551616
   rw [e1] at e2
   rw [Nat.add_mul, Nat.add_mul]
   have e3 : hi * 18446744073709551616 * 2 ^ s = hi * 2 ^ s * 18446744073709551616 := by rw [Nat.mul_assoc, Nat.mul_assoc, Nat.mul_comm 18446744073709551616]
   omega
  have hU : hi * 2 ^ s + lo / 2 ^ (64 - s) < y * 2 ^ s := by
   have := Nat.mul_le_mul_right (2 ^ s) (show hi + 1 ≤ y from h1)
   rw [Nat.add_mul, Nat.one_mul] at this
   omega
  simp only [zy13, Int.toNat_natCast, u_shl, Nat.mod_eq_of_lt hv1, u_shr hv1, u_and hv1 (by omega : 4294967295 < 18446744073709551616), mask32, Nat.mod_eq_of_lt (show hi * 2 ^ s < 18446744073709551616 by omega)]
  rw [u_sub (by omega), show (64 + 18446744073709551616 - s) % 18446744073709551616 = 64 - s by omega]
  simp only [zy13, u_shr h2]
  rw [u_or (by omega) (by omega), or_add hlo]
  simp only [zy13]
  have hm := Nat.mod_lt (lo * 2 ^ s) (show 18446744073709551616 > 0 by omega)
  rw [u_shr hm]
  simp only [zy13]
  rw [u_and hm (by omega)]
  simp only [zy13, mask32, show (2 : Nat) ^ 32 = 4294967296 from rfl]
  generalize hl2 : (lo * 2 ^ s) % 18446744073709551616 = low at *
  generalize hU2 : hi * 2 ^ s + lo / 2 ^ (64 - s) = U at *
  have hy0 : 0 < y := by omega
  have hp0 := Nat.two_pow_pos s
  have hq := Nat.mul_div_mul_right (hi * 18446744073709551616 + lo) y hp0
  have hr : (U * 18446744073709551616 + low) % (y * 2 ^ s) = ((hi * 18446744073709551616 + lo) % y) * 2 ^ s := by rw [← hN, Nat.mul_mod_mul_right]
  rw [hN] at hq
  obtain ⟨N, hNd⟩ : ∃ N, N = hi * 18446744073709551616 + lo := ⟨_, rfl⟩
  rw [← hNd] at hq hr hN ⊢
  generalize hv : y * 2 ^ s = v at *
  have yn1 : v / 4294967296 < 4294967296 := by omega
  have ev : v / 4294967296 * 4294967296 + v % 4294967296 = v := by omega
  rw [u_quo (by omega) (by omega)]
  simp only [zy13, u_mul]
  have hsub : U / (v / 4294967296) * (v / 4294967296) ≤ U := Nat.div_mul_le_self _ _
  have hmod : U % (v / 4294967296) = U - U / (v / 4294967296) * (v / 4294967296) := zybl _ _
  rw [Nat.mod_eq_of_lt (by omega : U / (v / 4294967296) * (v / 4294967296) < 18446744073709551616), u_sub (by omega), show (U + 18446744073709551616 - U / (v / 4294967296) * (v / 4294967296)) % 18446744073709551616 = U % (v / 4294967296) by omega]
  simp only [zy13]
  have hmlt : U % (v / 4294967296) < v / 4294967296 := Nat.mod_lt _ (by omega)
  have hUv : U < v / 4294967296 * 4294967296 + v % 4294967296 := by omega
  refine div64_l0 (by omega) yn1 (Nat.mod_lt _ (by omega)) (by omega) hUv ?_ 4294967296 _ _ (by omega) (by omega) (Guess.first (by omega) (Nat.mod_lt _ (by omega)) (by omega) hUv)
  rw [ev]
  -- the second digit
  generalize hQ1 : (U * 4294967296 + low / 4294967296) / v = Q1
  have hQ1v : Q1 * v ≤ U * 4294967296 + low / 4294967296 := by rw [← hQ1]; exact Nat.div_mul_le_self _ _
  have hQ1m : (U * 4294967296 + low / 4294967296) % v = U * 4294967296 + low / 4294967296 - Q1 * v := by rw [zybl, hQ1]
  have hQ1l : Q1 < 4294967296 := by
   rw [← hQ1, Nat.div_lt_iff_lt_mul (by omega)]
   omega
  have hU1 : (U * 4294967296 + low / 4294967296) % v < v := Nat.mod_lt _ (by omega)
  unfold zf4o.j1
  simp only [u_mul, zy13, u_add]
  rw [u_sub (Nat.le_of_lt (Nat.mod_lt _ (by omega)))]
  simp only [zy13]
  have e21 : ((((U * 4294967296) % 18446744073709551616 + low / 4294967296) % 18446744073709551616 + 18446744073709551616 - (Q1 * v) % 18446744073709551616) % 18446744073709551616) = (U * 4294967296 + low / 4294967296) % v := by
   rw [hQ1m] at hU1 ⊢
   exact zyik hQ1v (Nat.lt_trans hU1 hv1)
  rw [e21]
  obtain ⟨U1, hU1e⟩ : ∃ U1, U1 = (U * 4294967296 + low / 4294967296) % v := ⟨_, rfl⟩
  rw [← hU1e] at hU1 hQ1m ⊢
  rw [u_quo (by omega) (by omega)]
  simp only [zy13, u_mul]
  have hsub1 : U1 / (v / 4294967296) * (v / 4294967296) ≤ U1 := Nat.div_mul_le_self _ _
  have hmod1 : U1 % (v / 4294967296) = U1 - U1 / (v / 4294967296) * (v / 4294967296) := zybl _ _
  rw [Nat.mod_eq_of_lt (by omega : U1 / (v / 4294967296) * (v / 4294967296) < 18446744073709551616), u_sub (by omega), show (U1 + 18446744073709551616 - U1 / (v / 4294967296) * (v / 4294967296)) % 18446744073709551616 = U1 % (v / 4294967296) by omega]
  simp only [zy13]
  have hmlt1 : U1 % (v / 4294967296) < v / 4294967296 := Nat.mod_lt _ (by omega)
  have hUv1 : U1 < v / 4294967296 * 4294967296 + v % 4294967296 := by omega
  refine div64_l1 (by omega) yn1 (Nat.mod_lt _ (by omega)) (Nat.mod_lt _ (by omega)) hUv1 ?_ 4294967296 _ _ (by omega) (by omega) (Guess.first (by omega) (Nat.mod_lt _ (by omega)) (Nat.mod_lt _ (by omega)) hUv1)
  rw [ev]
  generalize hQ0 : (U1 * 4294967296 + low % 4294967296) / v = Q0
  have hQ0v : Q0 * v ≤ U1 * 4294967296 + low % 4294967296 := by rw [← hQ0]; exact Nat.div_mul_le_self _ _
  have hQ0m : (U1 * 4294967296 + low % 4294967296) % v = U1 * 4294967296 + low % 4294967296 - Q0 * v := by rw [zybl, hQ0]
  have hQ0l : Q0 < 4294967296 := by
   rw [← hQ0, Nat.div_lt_iff_lt_mul (by omega)]
   omega
  have hR : (U1 * 4294967296 + low % 4294967296) % v < v := Nat.mod_lt _ (by omega)
  unfold zf4o.j3
  simp only [u_mul, zy13, u_add]
  rw [u_sub (Nat.le_of_lt (Nat.mod_lt _ (by omega)))]
  simp only [zy13]
  have e22 : ((((U1 * 4294967296) % 18446744073709551616 + low % 4294967296) % 18446744073709551616 + 18446744073709551616 - (Q0 * v) % 18446744073709551616) % 18446744073709551616) = (U1 * 4294967296 + low % 4294967296) % v := by
   rw [hQ0m] at hR ⊢
   exact zyik hQ0v (Nat.lt_trans hR hv1)
  rw [e22, show ((Q1 * 4294967296) % 18446744073709551616 + Q0) % 18446744073709551616 = Q1 * 4294967296 + Q0 by omega, u_shr (by omega)]
  simp only [zy13]
  -- both together
  have hfin : U * 18446744073709551616 + low = (Q1 * 4294967296 + Q0) * v + (U1 * 4294967296 + low % 4294967296) % v := by
   have e5 : (Q1 * 4294967296 + Q0) * v = Q1 * v * 4294967296 + Q0 * v := by rw [Nat.add_mul, Nat.mul_assoc, Nat.mul_comm 4294967296 v, ← Nat.mul_assoc]
   rw [e5, hQ0m, hQ1m]
   rw [hQ1m] at hQ0v
   exact join_rest hQ1v hQ0v
  have hv0 : 0 < v := by omega
  have q1 : N / y = Q1 * 4294967296 + Q0 := by
   rw [← hq, hfin]
   rw [Nat.add_comm, Nat.add_mul_div_right _ _ hv0, Nat.div_eq_of_lt hR, Nat.zero_add]
  have r1 : N % y * 2 ^ s = (U1 * 4294967296 + low % 4294967296) % v := by
   rw [← hr, hfin, Nat.add_comm, Nat.add_mul_mod_self_right, Nat.mod_mod]
  rw [← q1, ← r1, Nat.mul_div_cancel _ hp0]
  rfl

end Go.Proofs.YtiblnpnfaadmcaaGreat.Am
/- The limbs' functions: trimming, order, sums, differences. -/
set_option linter.unusedVariables false
set_option linter.unusedSimpArgs false
namespace Go.Proofs.YtiblnpnfaadmcaaGreat.Am
open Go

abbrev B64 : Nat := 18446744073709551616
theorem zy0u : 2 ≤ B64 := by decide


theorem zyhm {h : Heap} {x : AV} {l : List Nat} (hr : Row h .u64 x l) (hl : l.length ≤ 4611686018427387904) : ∀ k, k ≤ l.length → zf3g.l0 x (.int .i64 (k : Nat)) h = some (x.cut (tl (l.take k)), h) := by
 intro k
 induction k with
 | zero =>
  intro hk
  rw [zf3g.l0_eq]
  simp only [zy0z, zy13, zy6k]
  rw [if_neg (by omega), hr.slc3 (by omega) (by omega)]
  rfl
 | succ k ih =>
  intro hk
  rw [zf3g.l0_eq]
  simp only [zy0z, zy13, zy6k]
  rw [if_pos (by omega), zy7z (by omega) (by omega)]
  simp only [zy13]
  rw [hr.rd (by omega) (by omega)]
  rw [show (((k + 1 : Nat) : Int) - 1) = (k : Int) by omega, Int.toNat_natCast]
  unfold nat
  simp only [zy0x, zy13, zy3c]
  rw [zyhb l k (by omega)]
  split
  ·rename_i h0
   rw [if_pos (by omega)]
   exact ih (by omega)
  ·rename_i h0
   rw [if_neg (by omega), hr.slc3 (by omega) (by omega)]
   rfl

theorem zyhl {h : Heap} {x : AV} {l : List Nat} (hr : Row h .u64 x l) (hl : l.length ≤ 4611686018427387904) (hd : Dg B64 l) : callW gp fid.zf3g [x] h = some (x.cut (tl l), h) ∧ Row h .u64 (x.cut (tl l)) (dig B64 (val B64 l)) := by
 refine ⟨?_, ?_⟩
 ·rw [zf3g.eq]
  unfold zf3g.f
  rw [hr.len]
  simp only [zy13]
  rw [zyhm hr hl _ (Nat.le_refl _), List.take_length]
 ·rw [← zyh9 zy0u hd]
  exact hr.cut (tl_le l)


theorem long_l0 (xs : List AV) (n : Nat) (hn : xs.length = n) (hn2 : n ≤ 1000) (hx : ∀ x ∈ xs, ∃ l : List Nat, x = nats l) : ∀ k i, i + k = n → zf3e.l0 (.is n false xs) (.int .i64 n) (.int .i64 (i : Nat)) = some (.bool ((xs.drop i).any fun x => match x with | .is m _ _ => decide (4000 < m) | _ => false)) := by
 intro k
 induction k with
 | zero =>
  intro i hi
  rw [zf3e.l0_eq]
  simp only [zy11, zy13, zy3c]
  rw [if_neg (by omega), List.drop_of_length_le (by omega)]
  rfl
 | succ k ih =>
  intro i hi
  rw [zf3e.l0_eq]
  simp only [zy11, zy13, zy3c]
  have hil : i < xs.length := by omega
  rw [if_pos (by omega), zyg8 (by omega) (by omega)]
  simp only [zy13, load_ip, Int.toNat_natCast, Nat.mul_one]
  obtain ⟨l, hl⟩ := hx xs[i] (List.getElem_mem hil)
  have e : zyem (xs.drop i) none = some (nats l) := by
   simp only [zyem, List.head?_drop, List.getElem?_eq_getElem hil, hl]
  rw [e, List.drop_eq_getElem_cons hil, hl]
  simp only [zy13, zy9y, zy0z, zy3c, List.any_cons, nats]
  split
  ·rename_i h4
   rw [decide_eq_true (by omega)]
   rfl
  ·rename_i h4
   rw [zy7w (by omega) (by omega), decide_eq_false (by omega)]
   simp only [zy13, Bool.false_or]
   exact ih (i + 1) (by omega)

theorem long1 (l : List Nat) : cv gp fid.zf3e [.is 1 false [nats l]] = some (.bool (decide (4000 < l.length))) := by
 rw [zf3e.eq]
 unfold zf3e.f
 simp only [zy9y, zy13]
 have := long_l0 [nats l] 1 rfl (by omega) (fun x hx => ⟨l, List.mem_singleton.1 hx⟩) 1 0 (by omega)
 simp only [Int.natCast_zero] at this ⊢
 rw [this]
 simp [nats]
theorem long2 (l m : List Nat) : cv gp fid.zf3e [.is 2 false [nats l, nats m]] = some (.bool (decide (4000 < l.length ∨ 4000 < m.length))) := by
 rw [zf3e.eq]
 unfold zf3e.f
 simp only [zy9y, zy13]
 have := long_l0 [nats l, nats m] 2 rfl (by omega) (fun x hx => by
  rcases List.mem_cons.1 hx with h | h
  ·exact ⟨l, h⟩
  ·exact ⟨m, List.mem_singleton.1 h⟩) 2 0 (by omega)
 simp only [Int.natCast_zero] at this ⊢
 rw [this]
 simp [nats]


theorem zy33 (a : Nat) : cmpI a a = 0 := by unfold cmpI; simp
theorem zy32 {a b : Nat} (h : a < b) : cmpI a b = -1 := by unfold cmpI; rw [if_pos h]
theorem zy31 {a b : Nat} (h : b < a) : cmpI a b = 1 := by unfold cmpI; rw [if_neg (by omega), if_pos h]
theorem cmpI_ne {a b : Nat} : cmpI a b ≠ 0 ↔ a ≠ b := by unfold cmpI; split <;> (try split) <;> omega
theorem cmpI_neg {a b : Nat} : cmpI a b < 0 ↔ a < b := by unfold cmpI; split <;> (try split) <;> omega

theorem zy7h {d e : Nat} {a b : AV} (h : Imm d a) (k : Imm e b) (hd : d ≤ 12) (he : e ≤ 12) : ∀ c ∈ [a, b], Imm 12 c := fun c hc => by
 rcases List.mem_cons.1 hc with rfl | hc
 ·exact h.mono hd
 ·rw [List.mem_singleton.1 hc]; exact k.mono he
theorem imm_l3 {d e f : Nat} {a b c : AV} (h : Imm d a) (k : Imm e b) (l : Imm f c) (hd : d ≤ 12) (he : e ≤ 12) (hf : f ≤ 12) : ∀ x ∈ [a, b, c], Imm 12 x := fun x hx => by
 rcases List.mem_cons.1 hx with rfl | hx
 ·exact h.mono hd
 ·exact zy7h k l he hf x hx

theorem order_l0 {l m : List Nat} (hl : Dg B64 l) (hm : Dg B64 m) (hlen : l.length = m.length) (hs : l.length ≤ 4611686018427387904) : ∀ k, k ≤ l.length → l.drop k = m.drop k → zf3f.l0 (nats l) (nats m) (.int .i64 ((k : Int) - 1)) = some (.int .i64 (cmpI (val B64 l) (val B64 m))) := by
 intro k
 induction k with
 | zero =>
  intro hk hd
  rw [zf3f.l0_eq]
  simp only [zy0y, zy13, zy3c]
  rw [if_neg (by omega)]
  simp only [List.drop_zero] at hd
  rw [hd, zy33]
  rfl
 | succ k ih =>
  intro hk hd
  rw [zf3f.l0_eq]
  simp only [zy0y, zy13, zy3c]
  rw [if_pos (by omega)]
  have hr := Row.nats [] l
  have hr' := Row.nats [] m
  rw [show (((k + 1 : Nat) : Int) - 1) = (k : Int) by omega, hr.rd (by omega) (by omega), hr'.rd (by omega) (by omega)]
  rw [Int.toNat_natCast, zy1m (zy7h zy7j zy7j (by omega) (by omega)) (zy3b _ _)]
  simp only [zy13, zy12, zy3c]
  by_cases h : l.getD k 0 = m.getD k 0
  ·rw [if_neg (fun e => cmpI_ne.1 e h), zy7z (by omega) (by omega)]
   simp only [zy13]
   exact ih (by omega) (by rw [zy4e l k (by omega), zy4e m k (by omega), h, hd])
  ·rw [if_pos (cmpI_ne.2 h)]
   have : cmpI (l.getD k 0) (m.getD k 0) = cmpI (val B64 l) (val B64 m) := by
    rcases Nat.lt_or_gt_of_ne h with h | h
    ·rw [zy32 h, zy32 (zyi2 hl hm k hlen (by omega) hd h)]
    ·rw [zy31 h, zy31 (zyi2 hm hl k hlen.symm (by omega) hd.symm h)]
   rw [this]
   rfl

theorem order (a b : Nat) (ha : (dig B64 a).length ≤ 1000000) (hb : (dig B64 b).length ≤ 1000000) : cv gp fid.zf3f [nats (dig B64 a), nats (dig B64 b)] = some (.int .i64 (cmpI a b)) := by
 rw [zf3f.eq]
 unfold zf3f.f
 simp only [zya1, zy13]
 rw [zy1m (zy7h imm_int imm_int (by omega) (by omega)) (zy3a _ _)]
 simp only [zy13, zy12, zy3c]
 by_cases h1 : (dig B64 a).length < (dig B64 b).length
 ·rw [if_pos (by rw [if_pos (by omega)]; omega), if_pos (by omega), zy32 (zyb1 zy0u h1)]
  rfl
 ·by_cases h2 : (dig B64 b).length < (dig B64 a).length
  ·rw [if_pos (by rw [if_neg (by omega), if_pos (by omega)]; omega), if_neg (by omega), if_pos (by omega), zy31 (zyb1 zy0u h2)]
   rfl
  ·rw [if_neg (by rw [if_neg (by omega), if_neg (by omega)]; simp), zy7z (by omega) (by omega)]
   simp only [zy13]
   have := order_l0 (zy3s zy0u a) (zy3s zy0u b) (by omega) (by omega) _ (Nat.le_refl _) (by rw [List.drop_length, List.drop_of_length_le (by omega)])
   rw [this, zyhy zy0u, zyhy zy0u]


theorem zy62 {h : Heap} {l k : List Nat} : zy5v h (.is 2 true [nats l, nats k]) = some (.is 2 false [nats l, nats k]) := by
 unfold zy5v
 rw [fz_is, mapM2 ((imm_nats 11 (by omega)).2 _) ((imm_nats 11 (by omega)).2 _)]
 rfl

theorem zyan {h : Heap} (l m : List Nat) : byVal (callW gp) h fid.zf3e [.is 2 true [nats l, nats m]] = some (.bool (decide (4000 < l.length ∨ 4000 < m.length))) :=
 zy1l (mapM1 zy62) (long2 l m) rfl
theorem zy1i (l m : List Nat) : zycy 1 2 [.is 0 true []] [(0, nats l), (1, nats m)] = some (.is 2 true [nats l, nats m]) := zy1h

theorem zydx {h : Heap} {x y : AV} {a b : Nat} (hx : Row h .u64 x (dig B64 a)) (hy : Row h .u64 y (dig B64 b)) (ha : (dig B64 a).length ≤ 1000000) (hb : (dig B64 b).length ≤ 1000000) : byVal (callW gp) h fid.zf3f [x, y] = some (.int .i64 (cmpI a b)) :=
 zy1l (mapM2 hx.frz hy.frz) (order a b ha hb) rfl

theorem frz_ii {h : Heap} {k k' : IntKind} {a b : Int} : zy5v h (.tup [.int k a, .int k' b]) = some (.tup [.int k a, .int k' b]) := Eq.trans rfl rfl

theorem limb_cmp (l m : List Nat) (hl : Dg B64 l) (hm : Dg B64 m) : cv gp fid.zf2u [nats l, nats m] = some (if 4000 < l.length ∨ 4000 < m.length then .tup [.int .i64 0, .int .i64 5] else .tup [.int .i64 (cmpI (val B64 l) (val B64 m)), .int .i64 0]) := by
 rw [zf2u.eq]
 unfold zf2u.f
 rw [zy1i]
 simp only [zy13]
 rw [zyan]
 simp only [zy13, zy3c]
 split
 ·exact frz_ii
 ·rename_i hn
  obtain ⟨e1, r1⟩ := zyhl (Row.nats [] l) (by omega) hl
  obtain ⟨e2, r2⟩ := zyhl (Row.nats [] m) (by omega) hm
  rw [e1]
  simp only [zy13]
  rw [e2]
  simp only [zy13]
  have h1 := zy3y zy0u hl
  have h2 := zy3y zy0u hm
  rw [zydx r1 r2 (by omega) (by omega)]
  simp only [zy13]
  exact frz_ii

end Go.Proofs.YtiblnpnfaadmcaaGreat.Am
/- The limbs' functions that write: a row taken off, a product added. -/
set_option linter.unusedVariables false
set_option linter.unusedSimpArgs false
namespace Go.Proofs.YtiblnpnfaadmcaaGreat.Am
open Go

theorem zyhx {B : Nat} (l : List Nat) (i k : Nat) : val B ((l.drop i).take (k + 1)) = l.getD i 0 + B * val B ((l.drop (i + 1)).take k) := by
 rcases Nat.lt_or_ge i l.length with h | h
 ·rw [zy4e l i h, List.take_succ_cons, zyhw]
 ·rw [List.drop_of_length_le h, List.drop_of_length_le (by omega), zy6d l i h]
  simp [val]
theorem zyfz (l : List Nat) (p x : Nat) (hp : p < l.length) : (l.set p x).take (p + 1) = l.take p ++ [x] := by
 rw [zyh8 _ _ (by simpa using hp), List.take_set_of_le (Nat.le_refl _), zy6e, if_pos ⟨rfl, hp⟩]
theorem zyfw (l : List Nat) (p q x : Nat) (h : p < q) : (l.set p x).drop q = l.drop q := by
 rw [List.drop_set, if_pos h]

def Off (id : Nat) (y : AV) : Prop := ∀ id' off n, y = .rs 1 id' off n → id' ≠ id
theorem Off.nats (id : Nat) (l : List Nat) : Off id (nats l) := fun _ _ _ h => by cases h
theorem Off.is (id n : Nat) (f : Bool) (cs : List AV) : Off id (.is n f cs) := fun _ _ _ h => by cases h
theorem Off.rs {id id' off n : Nat} (h : id' ≠ id) : Off id (.rs 1 id' off n) := fun _ _ _ e => by cases e; exact h
theorem Off.cut {id : Nat} {y : AV} (h : Off id y) (m : Nat) : Off id (y.cut m) := by
 intro id' off n e
 cases y <;> simp only [AV.cut] at e <;> try (cases e; done)
 all_goals try exact h _ _ _ e
 cases e
 exact h _ _ _ rfl
theorem Row.other {h : Heap} {k : IntKind} {y : AV} {l : List Nat} {id : Nat} (hr : Row h k y l) (ho : Off id y) (x : Option (List AV)) : Row (h.set id x) k y l :=
 hr.mono fun id' off n cs e hl => by rw [zyah (Ne.symm (ho id' off n e))]; exact hl

theorem set_set {h : Heap} {id : Nat} {a b : Option (List AV)} : (h.set id a).set id b = h.set id b := by simp

theorem zyfy {h : Heap} {id : Nat} {cs : List AV} (hl : live h id = some cs) : h.set id (some cs) = h := by
 apply List.ext_getElem?
 intro j
 rw [List.getElem?_set]
 split
 ·rename_i e
  subst e
  have h1 := zyae hl
  simp only [live, List.getElem?_eq_getElem h1, Option.join_some] at hl
  rw [if_pos h1, List.getElem?_eq_getElem h1, hl]
 ·rfl

theorem sub_digit {x y b : Nat} (hx : x < B64) (hy : y < B64) (hb : b ≤ 1) : (x + 18446744073709551616 - y - b) % 18446744073709551616 + y + b = x + (if x < y + b then 1 else 0) * B64 := by
 unfold B64 at *
 split <;> omega

theorem take_j0 {h : Heap} {id off n : Nat} {y1 y9 : AV} {cs : List Nat} (hl : live h id = some (nl .u64 cs)) {i : Nat} (hi : i < n) (hn : off + n ≤ cs.length) (hs : n ≤ 4611686018427387904) {y b : Nat} (hb : b ≤ 1) :
  zf4c.j0 (.rs 1 id off n) y1 (nat .u64 b) (.int .i64 i) (nat .u64 y) y9 (.int .i64 i) h =
   zf4c.l0 (.rs 1 id off n) y1 (nat .u64 (if cs.getD (off + i) 0 < y + b then 1 else 0)) y9 (.int .i64 ((i + 1 : Nat) : Int)) (h.set id (some (nl .u64 (cs.set (off + i) ((cs.getD (off + i) 0 + 18446744073709551616 - y - b) % 18446744073709551616))))) := by
 unfold zf4c.j0
 rw [zyg9 (by omega) (by omega)]
 simp only [zy13, Int.toNat_natCast, Nat.mul_one]
 rw [zyam hl (by omega)]
 simp only [zy13]
 rw [sub64 hb]
 simp only [zy13, ext0, ext1]
 rw [zygw hl (by omega)]
 simp only [zy13]
 rw [zy7w (by omega) (by omega)]
 rfl

theorem take_l0 {id off n : Nat} {y1 : AV} {l : List Nat} (ho : Off id y1) (hdl : Dg B64 l) (hs : n ≤ 4611686018427387904) (hsl : l.length ≤ 4611686018427387904) : ∀ (k i : Nat) (h : Heap) (cs : List Nat) (b : Nat), i + k = n → live h id = some (nl .u64 cs) → Row h .u64 y1 l → off + n ≤ cs.length → Dg B64 cs → b ≤ 1 →
  ∃ f b', zf4c.l0 (.rs 1 id off n) y1 (nat .u64 b) (.int .i64 n) (.int .i64 i) h = some (nat .u64 b', h.set id (some (nl .u64 (cs.take (off + i) ++ f ++ cs.drop (off + n))))) ∧ f.length = k ∧ Dg B64 f ∧ b' ≤ 1 ∧
   val B64 f + val B64 ((l.drop i).take k) + b = val B64 ((cs.drop (off + i)).take k) + b' * B64 ^ k := by
 intro k
 induction k with
 | zero =>
  intro i h cs b hik hl hr hn hd hb
  refine ⟨[], b, ?_, rfl, .nil, hb, by simp [val]⟩
  rw [zf4c.l0_eq]
  simp only [zy11, zy13, zy3c]
  rw [if_neg (by omega)]
  have : cs.take (off + i) ++ [] ++ cs.drop (off + n) = cs := by rw [List.append_nil, show i = n by omega, List.take_append_drop]
  rw [this]
  rw [zyfy hl]
 | succ k ih =>
  intro i h cs b hik hl hr hn hd hb
  rw [zf4c.l0_eq]
  simp only [zy11, zy13, zy3c]
  rw [if_pos (by omega), hr.len]
  simp only [zy13, zy11, zy3c]
  have hx : cs.getD (off + i) 0 < B64 := hd.getD (by decide)
  have key : ∀ y, y = l.getD i 0 → ∃ f b', zf4c.j0 (.rs 1 id off n) y1 (nat .u64 b) (.int .i64 i) (nat .u64 y) (.int .i64 n) (.int .i64 i) h = some (nat .u64 b', h.set id (some (nl .u64 (cs.take (off + i) ++ f ++ cs.drop (off + n))))) ∧ f.length = k + 1 ∧ Dg B64 f ∧ b' ≤ 1 ∧
    val B64 f + val B64 ((l.drop i).take (k + 1)) + b = val B64 ((cs.drop (off + i)).take (k + 1)) + b' * B64 ^ (k + 1) := by
   intro y hy
   have hy64 : y < B64 := by rw [hy]; exact hdl.getD (by decide)
   rw [take_j0 hl (by omega) hn hs hb]
   have hsd := sub_digit hx hy64 hb
   have hxd : (cs.getD (off + i) 0 + 18446744073709551616 - y - b) % 18446744073709551616 < B64 := Nat.mod_lt _ (by omega)
   generalize (cs.getD (off + i) 0 + 18446744073709551616 - y - b) % 18446744073709551616 = x' at *
   obtain ⟨b1, hb1⟩ : ∃ b1, b1 = (if cs.getD (off + i) 0 < y + b then 1 else 0) := ⟨_, rfl⟩
   rw [← hb1] at hsd ⊢
   have hb11 : b1 ≤ 1 := by rw [hb1]; split <;> omega
   obtain ⟨f, b', e1, e2, e3, e4, e5⟩ := ih (i + 1) (h.set id (some (nl .u64 (cs.set (off + i) x')))) (cs.set (off + i) x') b1 (by omega) (zyai hl) (hr.other ho _) (by simpa using hn) (hd.set hxd) hb11
   refine ⟨x' :: f, b', ?_, by simp [e2], .cons hxd e3, e4, ?_⟩
   ·rw [e1, set_set, show off + (i + 1) = off + i + 1 by omega, zyfz _ _ _ (by omega), zyfw _ _ _ _ (by omega)]
    simp
   ·rw [zyhw, zyhx, zyhx, ← hy]
    rw [show off + (i + 1) = off + i + 1 by omega, zyfw _ _ _ _ (by omega)] at e5
    rw [Nat.pow_succ]
    generalize val B64 f = vf at *
    generalize val B64 ((l.drop (i + 1)).take k) = vl at *
    generalize val B64 ((cs.drop (off + i + 1)).take k) = vc at *
    generalize cs.getD (off + i) 0 = x at *
    have e6 : B64 * (vf + vl + b1) = B64 * (vc + b' * B64 ^ k) := by rw [e5]
    rw [Nat.mul_add, Nat.mul_add, Nat.mul_add] at e6
    have e7 : b' * (B64 ^ k * B64) = B64 * (b' * B64 ^ k) := by rw [← Nat.mul_assoc, Nat.mul_comm]
    rw [e7]
    have e8 : b1 * B64 = B64 * b1 := Nat.mul_comm _ _
    omega
  by_cases h1 : i < l.length
  ·rw [if_pos (by omega), hr.rd (by omega) (by omega), Int.toNat_natCast]
   exact key _ rfl
  ·rw [if_neg (by omega)]
   exact key 0 (zy6d l i (by omega)).symm

theorem zyh7 {h : Heap} {id off n : Nat} {y1 : AV} {l cs : List Nat} (ho : Off id y1) (hdl : Dg B64 l) (hs : n ≤ 4611686018427387904) (hsl : l.length ≤ 4611686018427387904) (hl : live h id = some (nl .u64 cs)) (hr : Row h .u64 y1 l) (hn : off + n ≤ cs.length) (hd : Dg B64 cs) :
  ∃ f b', callW gp fid.zf4c [.rs 1 id off n, y1] h = some (nat .u64 b', h.set id (some (nl .u64 (cs.take off ++ f ++ cs.drop (off + n))))) ∧ f.length = n ∧ Dg B64 f ∧ b' ≤ 1 ∧
   val B64 f + val B64 (l.take n) = val B64 ((cs.drop off).take n) + b' * B64 ^ n := by
 obtain ⟨f, b', e1, e2, e3, e4, e5⟩ := take_l0 ho hdl hs hsl n 0 h cs 0 (by omega) hl hr hn hd (by omega)
 refine ⟨f, b', ?_, e2, e3, e4, by simpa using e5⟩
 rw [zf4c.eq]
 unfold zf4c.f
 simp only [zya2, zy13]
 exact e1


theorem mul_digit {x y t c : Nat} (hx : x < B64) (hy : y < B64) (ht : t < B64) (hc : c < B64) :
  (((x * y % 18446744073709551616 + t + 0) % 18446744073709551616 + c + 0) % 18446744073709551616) + B64 * (((x * y / 18446744073709551616 + (x * y % 18446744073709551616 + t + 0) / 18446744073709551616) % 18446744073709551616 + ((x * y % 18446744073709551616 + t + 0) % 18446744073709551616 + c + 0) / 18446744073709551616) % 18446744073709551616) = x * y + t + c := by
 have hp : x * y ≤ 18446744073709551615 * 18446744073709551615 := Nat.mul_le_mul (by unfold B64 at hx; omega) (by unfold B64 at hy; omega)
 generalize x * y = p at *
 unfold B64 at *
 omega

theorem mul_by {h : Heap} {x y : Nat} (hx : x < B64) (hy : y < B64) : byVal (callW gp) h fid.zf3v [nat .u64 x, nat .u64 y] = some (.tup [nat .u64 (x * y / 18446744073709551616), nat .u64 (x * y % 18446744073709551616)]) :=
 zy1m (zy7h zy7j zy7j (by omega) (by omega)) (mul64 x y hx hy)

theorem addP_l0 {id off n x : Nat} {y13 : AV} {l : List Nat} (ho : Off id y13) (hdl : Dg B64 l) (hx : x < B64) (hs : n ≤ 4611686018427387904) (hsl : l.length = n) : ∀ (k i : Nat) (h : Heap) (cs : List Nat) (c : Nat), i + k = n → live h id = some (nl .u64 cs) → Row h .u64 y13 l → off + n ≤ cs.length → Dg B64 cs → c < B64 →
  ∃ f c', zf3h.l0 (.rs 1 id off n) (nat .u64 x) (nat .u64 c) y13 (.int .i64 n) (.int .i64 i) h = some (nat .u64 c', h.set id (some (nl .u64 (cs.take (off + i) ++ f ++ cs.drop (off + n))))) ∧ f.length = k ∧ Dg B64 f ∧ c' < B64 ∧
   val B64 f + c' * B64 ^ k = val B64 ((cs.drop (off + i)).take k) + x * val B64 ((l.drop i).take k) + c := by
 intro k
 induction k with
 | zero =>
  intro i h cs c hik hl hr hn hd hc
  refine ⟨[], c, ?_, rfl, .nil, hc, by simp [val]⟩
  rw [zf3h.l0_eq]
  simp only [zy11, zy13, zy3c]
  rw [if_neg (by omega)]
  have : cs.take (off + i) ++ [] ++ cs.drop (off + n) = cs := by rw [List.append_nil, show i = n by omega, List.take_append_drop]
  rw [this, zyfy hl]
 | succ k ih =>
  intro i h cs c hik hl hr hn hd hc
  rw [zf3h.l0_eq]
  simp only [zy11, zy13, zy3c]
  rw [if_pos (by omega), hr.rd (by omega) (by omega), Int.toNat_natCast]
  have hy : l.getD i 0 < B64 := hdl.getD (by decide)
  have ht : cs.getD (off + i) 0 < B64 := hd.getD (by decide)
  rw [mul_by hx hy]
  simp only [zy13, ext0, ext1]
  rw [zyg9 (by omega) (by omega)]
  simp only [zy13, Int.toNat_natCast, Nat.mul_one]
  rw [zyam hl (by omega)]
  simp only [zy13]
  rw [add64 (by omega)]
  simp only [zy13, ext0, ext1, u_add]
  rw [add64 (by omega)]
  simp only [zy13, ext0, ext1]
  rw [zygw hl (by omega)]
  simp only [zy13, u_add]
  rw [zy7w (by omega) (by omega)]
  simp only [zy13]
  have hmd := mul_digit hx hy ht hc
  have hxd : (((x * l.getD i 0 % 18446744073709551616 + cs.getD (off + i) 0 + 0) % 18446744073709551616 + c + 0) % 18446744073709551616) < B64 := Nat.mod_lt _ (by omega)
  have hcd : (((x * l.getD i 0 / 18446744073709551616 + (x * l.getD i 0 % 18446744073709551616 + cs.getD (off + i) 0 + 0) / 18446744073709551616) % 18446744073709551616 + ((x * l.getD i 0 % 18446744073709551616 + cs.getD (off + i) 0 + 0) % 18446744073709551616 + c + 0) / 18446744073709551616) % 18446744073709551616) < B64 := Nat.mod_lt _ (by omega)
  generalize (((x * l.getD i 0 % 18446744073709551616 + cs.getD (off + i) 0 + 0) % 18446744073709551616 + c + 0) % 18446744073709551616) = x' at *
  generalize (((x * l.getD i 0 / 18446744073709551616 + (x * l.getD i 0 % 18446744073709551616 + cs.getD (off + i) 0 + 0) / 18446744073709551616) % 18446744073709551616 + ((x * l.getD i 0 % 18446744073709551616 + cs.getD (off + i) 0 + 0) % 18446744073709551616 + c + 0) / 18446744073709551616) % 18446744073709551616) = c1 at *
  obtain ⟨f, c', e1, e2, e3, e4, e5⟩ := ih (i + 1) (h.set id (some (nl .u64 (cs.set (off + i) x')))) (cs.set (off + i) x') c1 (by omega) (zyai hl) (hr.other ho _) (by simpa using hn) (hd.set hxd) hcd
  refine ⟨x' :: f, c', ?_, by simp [e2], .cons hxd e3, e4, ?_⟩
  ·rw [show ((i : Int) + 1) = ((i + 1 : Nat) : Int) by omega, e1, set_set, show off + (i + 1) = off + i + 1 by omega, zyfz _ _ _ (by omega), zyfw _ _ _ _ (by omega)]
   simp
  ·rw [zyhw, zyhx, zyhx]
   rw [show off + (i + 1) = off + i + 1 by omega, zyfw _ _ _ _ (by omega)] at e5
   rw [Nat.pow_succ]
   generalize val B64 f = vf at *
   generalize val B64 ((l.drop (i + 1)).take k) = vl at *
   generalize val B64 ((cs.drop (off + i + 1)).take k) = vc at *
   generalize cs.getD (off + i) 0 = t at *
   generalize l.getD i 0 = y at *
   have e6 : B64 * (vf + c' * B64 ^ k) = B64 * (vc + x * vl + c1) := by rw [e5]
   rw [Nat.mul_add, Nat.mul_add, Nat.mul_add] at e6
   have e7 : c' * (B64 ^ k * B64) = B64 * (c' * B64 ^ k) := by rw [← Nat.mul_assoc, Nat.mul_comm]
   have e8 : x * (y + B64 * vl) = x * y + B64 * (x * vl) := by rw [Nat.mul_add, ← Nat.mul_assoc, Nat.mul_comm x B64, Nat.mul_assoc]
   rw [e7, e8]
   omega

theorem zy09 {h : Heap} {id off n x : Nat} {y : AV} {l cs : List Nat} (ho : Off id y) (hdl : Dg B64 l) (hx : x < B64) (hs : n ≤ 4611686018427387904) (hsl : l.length = n) (hl : live h id = some (nl .u64 cs)) (hr : Row h .u64 y l) (hn : off + n ≤ cs.length) (hd : Dg B64 cs) :
  ∃ f c', callW gp fid.zf3h [.rs 1 id off n, y, nat .u64 x] h = some (nat .u64 c', h.set id (some (nl .u64 (cs.take off ++ f ++ cs.drop (off + n))))) ∧ f.length = n ∧ Dg B64 f ∧ c' < B64 ∧
   val B64 f + c' * B64 ^ n = val B64 ((cs.drop off).take n) + x * val B64 l := by
 obtain ⟨f, c', e1, e2, e3, e4, e5⟩ := addP_l0 ho hdl hx hs hsl n 0 h cs 0 (by omega) hl hr hn hd (by decide)
 refine ⟨f, c', ?_, e2, e3, e4, ?_⟩
 ·rw [zf3h.eq]
  unfold zf3h.f
  rw [hr.len, hsl]
  simp only [zy13]
  exact e1
 ·simpa [← hsl] using e5

end Go.Proofs.YtiblnpnfaadmcaaGreat.Am
/- Sums, differences and products of rows. -/
set_option linter.unusedVariables false
set_option linter.unusedSimpArgs false
namespace Go.Proofs.YtiblnpnfaadmcaaGreat.Am
open Go

theorem zyi8 {B : Nat} (l : List Nat) (i : Nat) : val B (l.take (i + 1)) = val B (l.take i) + B ^ i * l.getD i 0 := by
 rcases Nat.lt_or_ge i l.length with h | h
 ·exact zyi7 l i h
 ·rw [List.take_of_length_le (by omega), List.take_of_length_le h, zy6d l i h]; simp
theorem set_take {l : List Nat} {p x : Nat} : (l.set p x).take p = l.take p := List.take_set_of_le (Nat.le_refl _)

theorem frz_ri {h : Heap} {x : AV} {l : List Nat} (hr : Row h .u64 x l) {k : IntKind} {z : Int} : zy5v h (.tup [x, .int k z]) = some (.tup [nats l, .int k z]) :=
 zy6a (hr.frzN (by omega)) rfl

theorem zyhi {h : Heap} {x : AV} {l : List Nat} (hr : Row h .u64 x l) (hl : l.length ≤ 4611686018427387904) (hd : Dg B64 l) {k : IntKind} {z : Int} : ((callW gp fid.zf3g [x] h).bind fun r => zy5v r.2 (.tup [r.1, .int k z])) = some (.tup [nats (dig B64 (val B64 l)), .int k z]) := by
 obtain ⟨e, r⟩ := zyhl hr hl hd
 rw [e, zy13]
 exact frz_ri r


theorem refm_add1 : gp.refm fid.zf4u = false := by kernel_rfl
theorem add1_cv (l : List Nat) (i : Nat) : cv gp fid.zf4u [nats l, .int .i64 i] = some (nat .u64 (l.getD i 0)) := by
 rw [zf4u.eq]
 unfold zf4u.f
 simp only [zya1, zy13, zy11, zy3c]
 split
 ·rw [(Row.nats [] l).rd (by omega) (by omega), Int.toNat_natCast]
  rfl
 ·rw [zy6d l i (by omega)]
  rfl
theorem add1_by {R : Type} {h : Heap} (l : List Nat) (i : Nat) (K : AV → Heap → Option R) : zy2i (callW gp) gp.refm h (.fn fid.zf4u []) [nats l, .int .i64 i] K = K (nat .u64 (l.getD i 0)) h := by
 unfold zy2i
 simp only [refm_add1, cond_false, List.append_nil]
 rw [zy1m (zy7h imm_nats imm_int (by omega) (by omega)) (add1_cv l i), zy13]

theorem add_l0 {id : Nat} {a b : List Nat} (ha : Dg B64 a) (hb : Dg B64 b) {n : Nat} (hn : n ≤ 100000) (han : a.length < n) (hbn : b.length < n) : ∀ (k i : Nat) (h : Heap) (cs : List Nat) (c : Nat), i + k = n → live h id = some (nl .u64 cs) → cs.length = n → Dg B64 cs → c ≤ 1 →
  val B64 (cs.take i) + c * B64 ^ i = val B64 (a.take i) + val B64 (b.take i) →
  zf4s.l0 (nats a) (nats b) (.rs 1 id 0 n) (nat .u64 c) (.fn fid.zf4u []) (.int .i64 n) (.int .i64 i) h = some (.tup [nats (dig B64 (val B64 a + val B64 b)), .int .i64 0]) := by
 intro k
 induction k with
 | zero =>
  intro i h cs c hik hl hcs hd hc hv
  rw [zf4s.l0_eq]
  simp only [zy11, zy13, zy3c]
  rw [if_neg (by omega)]
  have hr : Row h .u64 (.rs 1 id 0 n) cs := by rw [← hcs]; exact Row.own hl
  rw [zyhi hr (by omega) hd]
  rw [List.take_of_length_le (by omega), List.take_of_length_le (by omega), List.take_of_length_le (by omega)] at hv
  have h1 := zyi1 ha
  have h2 := zyi1 hb
  have h3 : B64 ^ a.length * 2 ≤ B64 ^ i := by
   have : B64 ^ (a.length + 1) ≤ B64 ^ i := Nat.pow_le_pow_right (by decide) (by omega)
   rw [Nat.pow_succ] at this
   exact Nat.le_trans (Nat.mul_le_mul_left _ (by decide)) this
  have h4 : B64 ^ b.length * 2 ≤ B64 ^ i := by
   have : B64 ^ (b.length + 1) ≤ B64 ^ i := Nat.pow_le_pow_right (by decide) (by omega)
   rw [Nat.pow_succ] at this
   exact Nat.le_trans (Nat.mul_le_mul_left _ (by decide)) this
  have hc0 : c = 0 := by
   rcases Nat.lt_or_ge c 1 with h | h
   ·omega
   ·have : c = 1 := by omega
    subst this
    omega
  subst hc0
  rw [Nat.zero_mul, Nat.add_zero] at hv
  rw [hv]
 | succ k ih =>
  intro i h cs c hik hl hcs hd hc hv
  rw [zf4s.l0_eq]
  simp only [zy11, zy13, zy3c]
  rw [if_pos (by omega), add1_by, add1_by, add64 hc]
  simp only [zy13, ext0, ext1]
  rw [zyg9 (by omega) (by omega)]
  simp only [zy13, Int.toNat_natCast, Nat.mul_one, Nat.zero_add]
  rw [zygw hl (by omega)]
  simp only [zy13]
  rw [zy7w (by omega) (by omega)]
  simp only [zy13]
  have hx : a.getD i 0 < B64 := ha.getD (by decide)
  have hy : b.getD i 0 < B64 := hb.getD (by decide)
  have hm : (a.getD i 0 + b.getD i 0 + c) % 18446744073709551616 < B64 := Nat.mod_lt _ (by omega)
  refine ih (i + 1) _ (cs.set i ((a.getD i 0 + b.getD i 0 + c) % 18446744073709551616)) _ (by omega) (zyai hl) (by simpa using hcs) (hd.set hm) (by unfold B64 at hx hy; omega) ?_
  rw [zyfz _ _ _ (by omega), zyi4, List.length_take, Nat.min_eq_left (by omega), zyi8, zyi8, Nat.pow_succ]
  have hdm := Nat.div_add_mod (a.getD i 0 + b.getD i 0 + c) 18446744073709551616
  generalize (a.getD i 0 + b.getD i 0 + c) / 18446744073709551616 = q at *
  generalize (a.getD i 0 + b.getD i 0 + c) % 18446744073709551616 = r at *
  have e : B64 ^ i * r + q * (B64 ^ i * B64) = B64 ^ i * (a.getD i 0) + B64 ^ i * (b.getD i 0) + c * B64 ^ i := by
   have e1 : q * (B64 ^ i * B64) = B64 ^ i * (18446744073709551616 * q) := by
    rw [Nat.mul_comm q, Nat.mul_assoc]
   rw [e1, ← Nat.mul_add, Nat.add_comm r, hdm, Nat.mul_add, Nat.mul_add, Nat.mul_comm c]
  omega

theorem zyis {h : Heap} {n : Nat} : live (h ++ [some (nl .u64 (List.replicate n 0))]) h.length = some (nl .u64 (List.replicate n 0)) := zya9

theorem add_j0 (a b : List Nat) (ha : Dg B64 a) (hb : Dg B64 b) (hn : a.length ≤ 4000) (hab : b.length ≤ a.length) : zf4s.j0 (nats a) (nats b) = some (.tup [nats (dig B64 (val B64 a + val B64 b)), .int .i64 0]) := by
 unfold zf4s.j0
 simp only [zya1, zy13]
 rw [zy7w (by omega) (by omega)]
 simp only [zy13]
 rw [zybk (by omega) (by omega) (by omega)]
 simp only [zy13, zya2]
 have e : ((a.length : Int) + 1).toNat = a.length + 1 := by omega
 rw [e]
 have := add_l0 (id := 0) ha hb (n := a.length + 1) (by omega) (by omega) (by omega) (a.length + 1) 0 [some (nl .u64 (List.replicate (a.length + 1) 0))] (List.replicate (a.length + 1) 0) 0 (by omega) rfl (by simp) (Dg.replicate _ (by decide)) (by omega) (by simp [val])
 exact this

theorem zy67 {h : Heap} {f : Bool} {k : IntKind} {z : Int} : zy5v h (.tup [.is 0 f [], .int k z]) = some (.tup [nats [], .int k z]) := Eq.trans rfl rfl

theorem limb_add (l m : List Nat) (hl : Dg B64 l) (hm : Dg B64 m) : cv gp fid.zf4s [nats l, nats m] = some (if 4000 < l.length ∨ 4000 < m.length then .tup [nats [], .int .i64 5] else .tup [nats (dig B64 (val B64 l + val B64 m)), .int .i64 0]) := by
 rw [zf4s.eq]
 unfold zf4s.f
 rw [zy1i]
 simp only [zy13]
 rw [zyan]
 simp only [zy13, zy3c]
 split
 ·exact zy67
 ·rename_i hn
  simp only [zya1, zy13, zy11, zy3c]
  split
  ·rw [add_j0 m l hm hl (by omega) (by omega), Nat.add_comm]
  ·rw [add_j0 l m hl hm (by omega) (by omega)]


theorem zya4 (l m : List Nat) (hl : Dg B64 l) (hm : Dg B64 m) : cv gp fid.zf4t [nats l, nats m] = some (if 4000 < l.length ∨ 4000 < m.length then .tup [nats [], .int .i64 5] else if val B64 l < val B64 m then .tup [nats [], .int .i64 2] else .tup [nats (dig B64 (val B64 l - val B64 m)), .int .i64 0]) := by
 rw [zf4t.eq]
 unfold zf4t.f
 rw [zy1i]
 simp only [zy13]
 rw [zyan]
 simp only [zy13, zy3c]
 split
 ·exact zy67
 ·rename_i hn
  obtain ⟨e1, r1⟩ := zyhl (Row.nats [] l) (by omega) hl
  obtain ⟨e2, r2⟩ := zyhl (Row.nats [] m) (by omega) hm
  have h1 := zy3y zy0u hl
  have h2 := zy3y zy0u hm
  rw [e1]
  simp only [zy13]
  rw [e2]
  simp only [zy13]
  rw [zydx r1 r2 (by omega) (by omega)]
  simp only [zy13, zy11, zy3c]
  by_cases hlt : val B64 l < val B64 m
  ·rw [if_pos (cmpI_neg.2 hlt), if_pos hlt]
   exact zy67
  ·rw [if_neg (fun e => hlt (cmpI_neg.1 e)), if_neg hlt, bslc_0]
   simp only [zy13]
   generalize ho : (nats m).cut (tl m) = y at *
   have hoff : Off 0 y ∧ Off 2 y := by subst ho; exact ⟨(Off.nats 0 m).cut _, (Off.nats 2 m).cut _⟩
   generalize ho1 : (nats l).cut (tl l) = x at *
   have hxo : ∀ id, Off id x := fun id => by subst ho1; exact (Off.nats id l).cut _
   have fin : ∀ (h : Heap) (id : Nat), live h id = some (nl .u64 (dig B64 (val B64 l))) → Off id y → Row h .u64 y (dig B64 (val B64 m)) →
     ((callW gp fid.zf4c [.rs 1 id 0 (dig B64 (val B64 l)).length, y] h).bind fun r9 => (callW gp fid.zf3g [.rs 1 id 0 (dig B64 (val B64 l)).length] r9.2).bind fun r10 => zy5v r10.2 (.tup [r10.1, .int .i64 0])) = some (.tup [nats (dig B64 (val B64 l - val B64 m)), .int .i64 0]) := by
    intro h id hlv hoy hry
    obtain ⟨f, b', t1, t2, t3, t4, t5⟩ := zyh7 (off := 0) (n := (dig B64 (val B64 l)).length) hoy (zy3s zy0u (val B64 m)) (by omega) (by omega) hlv hry (by omega) (zy3s zy0u _)
    rw [t1]
    simp only [zy13]
    have hf : (dig B64 (val B64 l)).take 0 ++ f ++ (dig B64 (val B64 l)).drop (0 + (dig B64 (val B64 l)).length) = f := by simp
    rw [hf]
    have hrf : Row (h.set id (some (nl .u64 f))) .u64 (.rs 1 id 0 (dig B64 (val B64 l)).length) f := by rw [← t2]; exact Row.own (zyai hlv)
    rw [zyhi hrf (by omega) t3]
    have h5 : (dig B64 (val B64 m)).length ≤ (dig B64 (val B64 l)).length := by
     rcases Nat.lt_or_ge (dig B64 (val B64 l)).length (dig B64 (val B64 m)).length with h | h
     ·exact absurd (zyb1 zy0u h) hlt
     ·exact h
    rw [List.take_of_length_le h5, List.drop_zero, List.take_length, zyhy zy0u, zyhy zy0u] at t5
    have h6 := zyi1 t3
    rw [t2] at h6
    have hb0 : b' = 0 := by
     rcases Nat.lt_or_ge b' 1 with h | h
     ·omega
     ·have : b' = 1 := by omega
      subst this
      omega
    subst hb0
    rw [show val B64 l - val B64 m = val B64 f by omega]
   by_cases h0 : dig B64 (val B64 l) = []
   ·rw [h0] at r1
    have hn0 : Row [] .u64 (.is 0 true (nl .u64 [])) [] := Row.nil [] .u64 true
    rw [zy0o hn0 r1 (by simp)]
    simp only [zy13]
    have hv0 : val B64 l = 0 := (zy3u zy0u).1 h0
    have ht : callW gp fid.zf4c [.is 0 true (nl .u64 []), y] [] = some (nat .u64 0, []) := by
     rw [zf4c.eq]
     unfold zf4c.f
     simp only [zy9y, zy13]
     rw [zf4c.l0_eq]
     simp only [zy11, zy13, zy3c]
     rw [if_neg (by omega)]
    rw [ht]
    simp only [zy13]
    rw [zyhi hn0 (by simp) .nil, hv0, Nat.zero_sub]
    rfl
   ·have ha := zy0n (h := []) r1 h0 (by omega)
    have hnl : nl .u64 [] = [] := rfl
    rw [hnl, ha]
    simp only [zy13]
    refine fin _ 0 rfl hoff.1 ?_
    refine r2.mono fun id off n cs e hl => ?_
    subst ho
    exact absurd e (by simp [AV.cut, nats])

end Go.Proofs.YtiblnpnfaadmcaaGreat.Am
/- Products, and the parts of a quotient. -/
set_option linter.unusedVariables false
set_option linter.unusedSimpArgs false
namespace Go.Proofs.YtiblnpnfaadmcaaGreat.Am
open Go


theorem zyi0 {B : Nat} (n : Nat) : ∀ (l : List Nat), (∀ x ∈ l, x = 0) → val B (l.take n) = 0 := by
 intro l h
 have : l.take n = List.replicate (l.take n).length 0 := List.eq_replicate_iff.2 ⟨rfl, fun x hx => h x (List.mem_of_mem_take hx)⟩
 rw [this, zyi9]

theorem mul_l0 {id : Nat} {a b : List Nat} (ha : Dg B64 a) (hb : Dg B64 b) {n : Nat} (hn : a.length + b.length = n) (hs : n ≤ 100000) : ∀ (k i : Nat) (h : Heap) (cs : List Nat), i + k = a.length → live h id = some (nl .u64 cs) → cs.length = n → Dg B64 cs → (∀ x ∈ cs.drop (i + b.length), x = 0) →
  val B64 cs = val B64 (a.take i) * val B64 b →
  zf2v.l0 (nats b) (.rs 1 id 0 n) (nats a) (.int .i64 a.length) (.int .i64 i) h = some (.tup [nats (dig B64 (val B64 a * val B64 b)), .int .i64 0]) := by
 intro k
 induction k with
 | zero =>
  intro i h cs hik hl hcs hd hz hv
  rw [zf2v.l0_eq]
  simp only [zy11, zy13, zy3c]
  rw [if_neg (by omega)]
  have hr : Row h .u64 (.rs 1 id 0 n) cs := by rw [← hcs]; exact Row.own hl
  rw [zyhi hr (by omega) hd, hv, List.take_of_length_le (by omega)]
 | succ k ih =>
  intro i h cs hik hl hcs hd hz hv
  rw [zf2v.l0_eq]
  simp only [zy11, zy13, zy3c]
  rw [if_pos (by omega), (Row.nats h a).rd (by omega) (by omega)]
  simp only [zya1, zy13, Int.toNat_natCast]
  rw [zy7w (by omega) (by omega)]
  simp only [zy13]
  rw [slc_rs (by omega) (by omega) (by omega)]
  simp only [zy13, Nat.mul_one, Nat.zero_add]
  rw [Int.toNat_natCast, show ((i : Int) + (b.length : Int)).toNat - i = b.length by omega]
  have hx : a.getD i 0 < B64 := ha.getD (by decide)
  obtain ⟨f, c, e1, e2, e3, e4, e5⟩ := zy09 (off := i) (n := b.length) (Off.nats id b) hb hx (by omega) rfl hl (Row.nats h b) (by omega) hd
  rw [e1]
  simp only [zy13]
  rw [zyg9 (by omega) (by omega)]
  simp only [zy13, Nat.mul_one, Nat.zero_add]
  have hlen : (cs.take i ++ f ++ cs.drop (i + b.length)).length = n := by simp [e2]; omega
  have hil : i + b.length < (cs.take i ++ f ++ cs.drop (i + b.length)).length := by omega
  rw [show ((i : Int) + (b.length : Int)).toNat = i + b.length by omega, zygw (zyai hl) hil]
  simp only [zy13]
  rw [zy7w (by omega) (by omega), set_set]
  simp only [zy13]
  have hcs2 : (cs.take i ++ f ++ cs.drop (i + b.length)).set (i + b.length) c = cs.take i ++ f ++ c :: cs.drop (i + b.length + 1) := by
   have hpl : (cs.take i ++ f).length = i + b.length := by simp [e2]; omega
   rw [zy4e cs (i + b.length) (by omega), ← hpl, List.set_append_right _ _ (Nat.le_refl _), Nat.sub_self, List.set_cons_zero]
  rw [hcs2]
  have hd2 : Dg B64 (cs.take i ++ f ++ c :: cs.drop (i + b.length + 1)) := ((hd.take i).append e3).append (.cons e4 (hd.drop _))
  have hz0 : val B64 (cs.drop (i + b.length + 1)) = 0 := by
   have := zyi0 (B := B64) (cs.drop (i + b.length + 1)).length (cs.drop (i + b.length + 1)) (fun x hx => hz x (by
    rw [zy4e cs (i + b.length) (by omega)]; exact List.mem_cons_of_mem _ hx))
   rwa [List.take_length] at this
  refine ih (i + 1) _ (cs.take i ++ f ++ c :: cs.drop (i + b.length + 1)) (by omega) (zyai hl) (by simp [e2]; omega) hd2 ?_ ?_
  ·intro x hx
   have hpl : (cs.take i ++ f).length = i + b.length := by simp [e2]; omega
   rw [List.drop_append, List.drop_of_length_le (by omega), List.nil_append, hpl, show i + 1 + b.length - (i + b.length) = 1 by omega, List.drop_succ_cons, List.drop_zero] at hx
   exact hz x (by rw [zy4e cs (i + b.length) (by omega)]; exact List.mem_cons_of_mem _ hx)
  ·-- the number
   have hpl : (cs.take i ++ f).length = i + b.length := by simp [e2]; omega
   have hti : (cs.take i).length = i := by simp; omega
   rw [zyhv, hpl, zyhw, hz0, zyhv, hti, Nat.mul_zero, Nat.add_zero]
   have hz1 : val B64 (cs.drop (i + b.length)) = 0 := by
    have := zyi0 (B := B64) (cs.drop (i + b.length)).length (cs.drop (i + b.length)) hz
    rwa [List.take_length] at this
   have hsp : val B64 cs = val B64 (cs.take i) + B64 ^ i * val B64 ((cs.drop i).take b.length) := by
    have h1 := zyi5 (B := B64) cs i
    have h2 := zyi5 (B := B64) (cs.drop i) b.length
    rw [List.drop_drop, hz1, Nat.mul_zero, Nat.add_zero] at h2
    rw [h1, hti, h2]
   rw [zyi8, Nat.add_mul, ← hv, hsp, Nat.pow_add]
   generalize val B64 ((cs.drop i).take b.length) = v1 at *
   generalize val B64 (cs.take i) = v0 at *
   generalize val B64 f = vf at *
   generalize val B64 b = vb at *
   generalize a.getD i 0 = x at *
   have e6 : B64 ^ i * (vf + c * B64 ^ b.length) = B64 ^ i * (v1 + x * vb) := by rw [e5]
   rw [Nat.mul_add, Nat.mul_add] at e6
   have e7 : B64 ^ i * B64 ^ b.length * c = B64 ^ i * (c * B64 ^ b.length) := by rw [Nat.mul_assoc, Nat.mul_comm c]
   have e8 : B64 ^ i * x * vb = B64 ^ i * (x * vb) := Nat.mul_assoc _ _ _
   rw [e7, e8]
   omega

theorem limb_mul (l m : List Nat) (hl : Dg B64 l) (hm : Dg B64 m) : cv gp fid.zf2v [nats l, nats m] = some (if 4000 < l.length ∨ 4000 < m.length then .tup [nats [], .int .i64 5] else .tup [nats (dig B64 (val B64 l * val B64 m)), .int .i64 0]) := by
 rw [zf2v.eq]
 unfold zf2v.f
 rw [zy1i]
 simp only [zy13]
 rw [zyan]
 simp only [zy13, zy3c]
 split
 ·exact zy67
 ·rename_i hn
  simp only [zya1, zy13]
  rw [zy7w (by omega) (by omega)]
  simp only [zy13]
  rw [zybk (by omega) (by omega) (by omega)]
  simp only [zy13]
  have e : ((l.length : Int) + (m.length : Int)).toNat = l.length + m.length := by omega
  rw [e]
  exact mul_l0 (id := 0) hl hm rfl (by omega) l.length 0 _ (List.replicate (l.length + m.length) 0) (by omega) zyis (by simp) (Dg.replicate _ (by decide)) (fun x hx => List.eq_of_mem_replicate (List.mem_of_mem_drop hx)) (by simp [val, zyi9])


theorem zyg3 {x c s : Nat} (hx : x < B64) (hc : c < 2 ^ s) (hs : s < 64) : (c ||| (x * 2 ^ s) % 18446744073709551616) + B64 * (x / 2 ^ (64 - s)) = c + x * 2 ^ s ∧ (c ||| (x * 2 ^ s) % 18446744073709551616) < B64 ∧ x / 2 ^ (64 - s) < 2 ^ s := by
 have e64 : (18446744073709551616 : Nat) = 2 ^ (64 - s) * 2 ^ s := by rw [← Nat.pow_add, show 64 - s + s = 64 by omega]
 have hdiv : x / 2 ^ (64 - s) = x * 2 ^ s / 18446744073709551616 := by rw [e64, Nat.mul_div_mul_right _ _ (Nat.two_pow_pos s)]
 have hmod : (x * 2 ^ s) % 18446744073709551616 = (x % 2 ^ (64 - s)) * 2 ^ s := by rw [e64, Nat.mul_mod_mul_right]
 have hor : (c ||| (x * 2 ^ s) % 18446744073709551616) = c + (x * 2 ^ s) % 18446744073709551616 := by
  rw [hmod, Nat.or_comm, or_add hc, Nat.add_comm]
 have h1 := Nat.div_add_mod (x * 2 ^ s) 18446744073709551616
 have h3 : x / 2 ^ (64 - s) < 2 ^ s := by
  rw [Nat.div_lt_iff_lt_mul (Nat.two_pow_pos _), ← Nat.pow_add, show s + (64 - s) = 64 by omega]; exact hx
 have h2 : c + (x * 2 ^ s) % 18446744073709551616 < B64 := by
  rw [hmod]
  have h4 : x % 2 ^ (64 - s) + 1 ≤ 2 ^ (64 - s) := Nat.mod_lt _ (Nat.two_pow_pos _)
  have h5 := Nat.mul_le_mul_right (2 ^ s) h4
  rw [← e64, Nat.add_mul, Nat.one_mul] at h5
  unfold B64
  omega
 rw [hor, hdiv]
 refine ⟨?_, h2, by rw [← hdiv]; exact h3⟩
 unfold B64
 omega

theorem zyg4 {id s : Nat} {y : AV} {l : List Nat} (ho : Off id y) (hdl : Dg B64 l) (hs : s < 64) (hn : l.length ≤ 100000) : ∀ (k i : Nat) (h : Heap) (cs : List Nat), i + k = l.length → live h id = some (nl .u64 cs) → Row h .u64 y l → cs.length = l.length + 1 → Dg B64 cs → cs.getD i 0 < 2 ^ s →
  val B64 (cs.take i) + B64 ^ i * cs.getD i 0 = val B64 (l.take i) * 2 ^ s →
  ∃ f, zf4a.l0 (.int .i64 s) (.rs 1 id 0 (l.length + 1)) y (.int .i64 l.length) (.int .i64 i) h = some (.rs 1 id 0 (l.length + 1), h.set id (some (nl .u64 f))) ∧ f.length = l.length + 1 ∧ Dg B64 f ∧ val B64 f = val B64 l * 2 ^ s ∧ f.getD l.length 0 < 2 ^ s := by
 intro k
 induction k with
 | zero =>
  intro i h cs hik hl hr hcs hd hc hv
  have hi : i = l.length := by omega
  subst hi
  refine ⟨cs, ?_, hcs, hd, ?_, hc⟩
  ·rw [zf4a.l0_eq]
   simp only [zy11, zy13, zy3c]
   rw [if_neg (by omega), zyfy hl]
  ·rw [← List.take_length (l := cs), hcs, zyi7 cs l.length (by omega), hv, List.take_length]
 | succ k ih =>
  intro i h cs hik hl hr hcs hd hc hv
  rw [zf4a.l0_eq]
  simp only [zy11, zy13, zy3c]
  rw [if_pos (by omega), hr.rd (by omega) (by omega), Int.toNat_natCast]
  rw [zyg9 (by omega) (by omega)]
  simp only [zy13, Int.toNat_natCast, Nat.mul_one, Nat.zero_add]
  rw [zyam hl (by omega)]
  simp only [zy13]
  rw [u_shl_i (by omega)]
  simp only [zy13, Int.toNat_natCast]
  have hx : l.getD i 0 < B64 := hdl.getD (by decide)
  have h0 : cs.getD i 0 < B64 := hd.getD (by decide)
  obtain ⟨d1, d2, d3⟩ := zyg3 hx hc hs
  rw [u_or h0 (Nat.mod_lt _ (by omega))]
  simp only [zy13]
  rw [zygw hl (by omega)]
  simp only [zy13]
  rw [zy7w (by omega) (by omega)]
  simp only [zy13]
  rw [zy7z (by omega) (by omega)]
  simp only [zy13]
  rw [u_shr_i hx (by omega), show ((64 : Int) - (s : Int)).toNat = 64 - s by omega]
  simp only [zy13]
  rw [zyg9 (by omega) (by omega), show ((i : Int) + 1).toNat = i + 1 by omega]
  simp only [zy13, Nat.mul_one, Nat.zero_add]
  rw [zygw (zyai hl) (by simp; omega)]
  simp only [zy13, set_set]
  generalize hw : (cs.getD i 0 ||| (l.getD i 0 * 2 ^ s) % 18446744073709551616) = w at *
  generalize hq : l.getD i 0 / 2 ^ (64 - s) = q at *
  have hqB : q < B64 := Nat.lt_of_lt_of_le d3 (by
   have : (2 : Nat) ^ s ≤ 2 ^ 64 := Nat.pow_le_pow_right (by omega) (by omega)
   exact this)
  have hg : ((cs.set i w).set (i + 1) q).getD (i + 1) 0 = q := by rw [zy6e, if_pos ⟨rfl, by simp; omega⟩]
  have ht : ((cs.set i w).set (i + 1) q).take (i + 1) = cs.take i ++ [w] := by rw [set_take, zyfz _ _ _ (by omega)]
  obtain ⟨f, e1, e2, e3, e4, e5⟩ := ih (i + 1) (h.set id (some (nl .u64 ((cs.set i w).set (i + 1) q)))) ((cs.set i w).set (i + 1) q) (by omega) (zyai hl) (hr.other ho _) (by simpa using hcs) ((hd.set d2).set hqB) (by rw [hg]; exact d3) (by
   rw [hg, ht, zyi4, List.length_take, Nat.min_eq_left (by omega), zyi8, Nat.add_mul, ← hv, Nat.pow_succ]
   have e6 : B64 ^ i * (w + B64 * q) = B64 ^ i * (cs.getD i 0 + l.getD i 0 * 2 ^ s) := by rw [d1]
   rw [Nat.mul_add, Nat.mul_add] at e6
   have e7 : B64 ^ i * B64 * q = B64 ^ i * (B64 * q) := Nat.mul_assoc _ _ _
   have e8 : B64 ^ i * l.getD i 0 * 2 ^ s = B64 ^ i * (l.getD i 0 * 2 ^ s) := Nat.mul_assoc _ _ _
   rw [e7, e8]
   omega)
  refine ⟨f, ?_, e2, e3, e4, e5⟩
  rw [show ((i : Int) + 1) = ((i + 1 : Nat) : Int) by omega, e1, set_set]

theorem zyg5 {h : Heap} {s : Nat} {y : AV} {l : List Nat} (ho : Off h.length y) (hdl : Dg B64 l) (hs : s < 64) (hn : l.length ≤ 100000) (hr : Row h .u64 y l) :
  ∃ f, callW gp fid.zf4a [y, .int .i64 s] h = some (.rs 1 h.length 0 (l.length + 1), h ++ [some (nl .u64 f)]) ∧ f.length = l.length + 1 ∧ Dg B64 f ∧ val B64 f = val B64 l * 2 ^ s ∧ f.getD l.length 0 < 2 ^ s := by
 have hz : (List.replicate (l.length + 1) 0).getD 0 0 = 0 := rfl
 obtain ⟨f, e1, e2, e3, e4, e5⟩ := zyg4 (id := h.length) ho hdl hs hn l.length 0 (h ++ [some (nl .u64 (List.replicate (l.length + 1) 0))]) (List.replicate (l.length + 1) 0) (by omega) zyis
  (hr.mono fun id off n cs e hl => zya8 hl) (by simp) (Dg.replicate _ (by decide)) (by rw [hz]; exact Nat.two_pow_pos s) (by simp [val])
 refine ⟨f, ?_, e2, e3, e4, e5⟩
 rw [zf4a.eq]
 unfold zf4a.f
 rw [hr.len]
 simp only [zy13]
 rw [zy7w (by omega) (by omega)]
 simp only [zy13]
 rw [zybk (by omega) (by omega) (by omega)]
 simp only [zy13]
 rw [show ((l.length : Int) + 1).toNat = l.length + 1 by omega]
 have : (h ++ [some (nl .u64 (List.replicate (l.length + 1) 0))]).set h.length (some (nl .u64 f)) = h ++ [some (nl .u64 f)] := by
  rw [List.set_append_right _ _ (Nat.le_refl _), Nat.sub_self]; rfl
 rw [← this]
 exact e1

end Go.Proofs.YtiblnpnfaadmcaaGreat.Am
/- The parts of a quotient: lower, by one digit, guessed. -/
set_option linter.unusedVariables false
set_option linter.unusedSimpArgs false
namespace Go.Proofs.YtiblnpnfaadmcaaGreat.Am
open Go


theorem zyav {x y s : Nat} (hx : x < B64) (hs : s < 64) : (x / 2 ^ s ||| (y * 2 ^ (64 - s)) % 18446744073709551616) * 2 ^ s + x % 2 ^ s = x + B64 * (y % 2 ^ s) ∧ (x / 2 ^ s ||| (y * 2 ^ (64 - s)) % 18446744073709551616) < B64 := by
 have e64 : (18446744073709551616 : Nat) = 2 ^ s * 2 ^ (64 - s) := by rw [← Nat.pow_add, show s + (64 - s) = 64 by omega]
 have hmod : (y * 2 ^ (64 - s)) % 18446744073709551616 = (y % 2 ^ s) * 2 ^ (64 - s) := by rw [e64, Nat.mul_mod_mul_right]
 have hlt : x / 2 ^ s < 2 ^ (64 - s) := by
  rw [Nat.div_lt_iff_lt_mul (Nat.two_pow_pos _), Nat.mul_comm, ← e64]; exact hx
 have hor : (x / 2 ^ s ||| (y * 2 ^ (64 - s)) % 18446744073709551616) = (y % 2 ^ s) * 2 ^ (64 - s) + x / 2 ^ s := by
  rw [hmod, Nat.or_comm, or_add hlt]
 have h1 := Nat.div_add_mod x (2 ^ s)
 have h2 : y % 2 ^ s + 1 ≤ 2 ^ s := Nat.mod_lt _ (Nat.two_pow_pos s)
 have h3 := Nat.mul_le_mul_right (2 ^ (64 - s)) h2
 rw [← e64, Nat.add_mul, Nat.one_mul] at h3
 rw [hor]
 refine ⟨?_, by unfold B64; omega⟩
 rw [Nat.add_mul, Nat.mul_assoc, Nat.mul_comm (2 ^ (64 - s)), ← e64]
 rw [Nat.mul_comm (x / 2 ^ s)]
 unfold B64
 omega

theorem zyaw {id s : Nat} {y : AV} {l : List Nat} (ho : Off id y) (hdl : Dg B64 l) (hs : s < 64) (hn : l.length ≤ 100000) : ∀ (k i : Nat) (h : Heap) (cs : List Nat), i + k = l.length → live h id = some (nl .u64 cs) → Row h .u64 y l → cs.length = l.length → Dg B64 cs →
  val B64 (cs.take i) * 2 ^ s + l.getD 0 0 % 2 ^ s = val B64 (l.take i) + B64 ^ i * (l.getD i 0 % 2 ^ s) →
  ∃ f, zf4d.l0 y (.int .i64 s) (.rs 1 id 0 l.length) y (.int .i64 l.length) (.int .i64 i) h = some (.rs 1 id 0 (tl f), h.set id (some (nl .u64 f))) ∧ f.length = l.length ∧ Dg B64 f ∧ val B64 f = val B64 l / 2 ^ s := by
 intro k
 induction k with
 | zero =>
  intro i h cs hik hl hr hcs hd hv
  refine ⟨cs, ?_, hcs, hd, ?_⟩
  ·rw [zf4d.l0_eq]
   simp only [zy11, zy13, zy3c]
   rw [if_neg (by omega), zyfy hl]
   have hro : Row h .u64 (.rs 1 id 0 l.length) cs := by rw [← hcs]; exact Row.own hl
   obtain ⟨e, _⟩ := zyhl hro (by omega) hd
   rw [e]
   rfl
  ·rw [List.take_of_length_le (by omega), List.take_of_length_le (by omega), zy6d l i (by omega), Nat.zero_mod, Nat.mul_zero, Nat.add_zero] at hv
   rw [← hv, Nat.add_comm, Nat.add_mul_div_right _ _ (Nat.two_pow_pos s), Nat.div_eq_of_lt (Nat.mod_lt _ (Nat.two_pow_pos s)), Nat.zero_add]
 | succ k ih =>
  intro i h cs hik hl hr hcs hd hv
  rw [zf4d.l0_eq]
  simp only [zy11, zy13, zy3c]
  have hx : l.getD i 0 < B64 := hdl.getD (by decide)
  rw [if_pos (by omega), hr.rd (by omega) (by omega), Int.toNat_natCast, u_shr_i hx (by omega), Int.toNat_natCast]
  simp only [zy13]
  rw [zyg9 (by omega) (by omega)]
  simp only [zy13, Int.toNat_natCast, Nat.mul_one, Nat.zero_add]
  rw [zygw hl (by omega)]
  simp only [zy13]
  rw [zy7w (by omega) (by omega), hr.len]
  simp only [zy13, zy11, zy3c]
  have hx2 : l.getD i 0 / 2 ^ s < B64 := Nat.lt_of_le_of_lt (Nat.div_le_self _ _) hx
  have hr' := hr.other ho (some (nl .u64 (cs.set i (l.getD i 0 / 2 ^ s))))
  obtain ⟨d1, d2⟩ := zyav (y := l.getD (i + 1) 0) hx hs
  have next : val B64 ((cs.set i (l.getD i 0 / 2 ^ s ||| (l.getD (i + 1) 0 * 2 ^ (64 - s)) % 18446744073709551616)).take (i + 1)) * 2 ^ s + l.getD 0 0 % 2 ^ s = val B64 (l.take (i + 1)) + B64 ^ (i + 1) * (l.getD (i + 1) 0 % 2 ^ s) := by
   rw [zyfz _ _ _ (by omega), zyi4, List.length_take, Nat.min_eq_left (by omega), zyi8, Nat.add_mul]
   have e6 : B64 ^ i * ((l.getD i 0 / 2 ^ s ||| (l.getD (i + 1) 0 * 2 ^ (64 - s)) % 18446744073709551616) * 2 ^ s + l.getD i 0 % 2 ^ s) = B64 ^ i * (l.getD i 0 + B64 * (l.getD (i + 1) 0 % 2 ^ s)) := by rw [d1]
   rw [Nat.mul_add, Nat.mul_add] at e6
   have e7 : B64 ^ (i + 1) * (l.getD (i + 1) 0 % 2 ^ s) = B64 ^ i * (B64 * (l.getD (i + 1) 0 % 2 ^ s)) := by rw [Nat.pow_succ, Nat.mul_assoc]
   rw [e7, Nat.mul_assoc]
   omega
  split
  ·rename_i hi1
   rw [zyam (zyai hl) (by simp; omega), zy6e, if_pos ⟨rfl, by omega⟩]
   simp only [zy13]
   rw [hr'.rd (by omega) (by omega), show ((i : Int) + 1).toNat = i + 1 by omega]
   rw [zy7z (by omega) (by omega)]
   simp only [zy13]
   rw [u_shl_i (by omega), show ((64 : Int) - (s : Int)).toNat = 64 - s by omega]
   simp only [zy13]
   rw [u_or hx2 (Nat.mod_lt _ (by omega))]
   simp only [zy13]
   rw [zygw (zyai hl) (by simp; omega)]
   simp only [zy13, set_set, List.set_set]
   obtain ⟨f, e1, e2, e3, e4⟩ := ih (i + 1) (h.set id (some (nl .u64 (cs.set i (l.getD i 0 / 2 ^ s ||| (l.getD (i + 1) 0 * 2 ^ (64 - s)) % 18446744073709551616))))) _ (by omega) (zyai hl) (hr.other ho _) (by simpa using hcs) (hd.set d2) next
   refine ⟨f, ?_, e2, e3, e4⟩
   rw [show ((i : Int) + 1) = ((i + 1 : Nat) : Int) by omega, e1, set_set]
  ·rename_i hi1
   have h0 : l.getD (i + 1) 0 = 0 := zy6d l _ (by omega)
   have e0 : (l.getD i 0 / 2 ^ s ||| (l.getD (i + 1) 0 * 2 ^ (64 - s)) % 18446744073709551616) = l.getD i 0 / 2 ^ s := by rw [h0, Nat.zero_mul, Nat.zero_mod, Nat.or_zero]
   rw [e0] at next
   obtain ⟨f, e1, e2, e3, e4⟩ := ih (i + 1) (h.set id (some (nl .u64 (cs.set i (l.getD i 0 / 2 ^ s))))) _ (by omega) (zyai hl) hr' (by simpa using hcs) (hd.set hx2) next
   refine ⟨f, ?_, e2, e3, e4⟩
   rw [show ((i : Int) + 1) = ((i + 1 : Nat) : Int) by omega, e1, set_set]

theorem zyax {h : Heap} {s : Nat} {y : AV} {l : List Nat} (ho : Off h.length y) (hdl : Dg B64 l) (hs : s < 64) (hn : l.length ≤ 100000) (hr : Row h .u64 y l) :
  ∃ f, callW gp fid.zf4d [y, .int .i64 s] h = some (.rs 1 h.length 0 (tl f), h ++ [some (nl .u64 f)]) ∧ Dg B64 f ∧ val B64 f = val B64 l / 2 ^ s := by
 obtain ⟨f, e1, e2, e3, e4⟩ := zyaw (id := h.length) ho hdl hs hn l.length 0 (h ++ [some (nl .u64 (List.replicate l.length 0))]) (List.replicate l.length 0) (by omega) zyis
  (hr.mono fun id off n cs e hl => zya8 hl) (by simp) (Dg.replicate _ (by decide)) (by simp [val])
 refine ⟨f, ?_, e3, e4⟩
 rw [zf4d.eq]
 unfold zf4d.f
 rw [hr.len]
 simp only [zy13]
 rw [zybk (by omega) (by omega) (by omega)]
 simp only [zy13]
 rw [Int.toNat_natCast]
 have : (h ++ [some (nl .u64 (List.replicate l.length 0))]).set h.length (some (nl .u64 f)) = h ++ [some (nl .u64 f)] := by
  rw [List.set_append_right _ _ (Nat.le_refl _), Nat.sub_self]; rfl
 rw [← this]
 exact e1


theorem div_by {h : Heap} {hi lo y : Nat} (h1 : hi < y) (h2 : lo < B64) (h3 : y < B64) : byVal (callW gp) h fid.zf4o [nat .u64 hi, nat .u64 lo, nat .u64 y] = some (.tup [nat .u64 ((hi * 18446744073709551616 + lo) / y), nat .u64 ((hi * 18446744073709551616 + lo) % y)]) :=
 zy1m (imm_l3 zy7j zy7j zy7j (by omega) (by omega) (by omega)) (div64 hi lo y h1 h2 h3)

theorem short_l0 {a : List Nat} {x : Nat} (ha : Dg B64 a) (hx0 : 0 < x) (hx : x < B64) (hn : a.length ≤ 100000) : ∀ (k r : Nat) (cs : List Nat), k ≤ a.length → cs.length = a.length → Dg B64 cs → r < x → val B64 (cs.drop k) * x + r = val B64 (a.drop k) →
  zf49.l0 (nats a) (nat .u64 x) (.rs 1 0 0 a.length) (nat .u64 r) (.int .i64 ((k : Int) - 1)) [some (nl .u64 cs)] = some (.tup [nats (dig B64 (val B64 a / x)), nat .u64 (val B64 a % x)]) := by
 intro k
 induction k with
 | zero =>
  intro r cs hk hcs hd hr hv
  rw [zf49.l0_eq]
  simp only [zy0y, zy13, zy3c]
  rw [if_neg (by omega)]
  have hro : Row [some (nl .u64 cs)] .u64 (.rs 1 0 0 a.length) cs := by rw [← hcs]; exact Row.own rfl
  obtain ⟨e, rr⟩ := zyhl hro (by omega) hd
  rw [e]
  simp only [zy13]
  rw [zy6a (rr.frzN (by omega)) ((zy7j 11 (by omega)).2 _)]
  rw [List.drop_zero, List.drop_zero] at hv
  have h1 : val B64 a / x = val B64 cs := by
   rw [← hv, Nat.add_comm, Nat.add_mul_div_right _ _ hx0, Nat.div_eq_of_lt hr, Nat.zero_add]
  have h2 : val B64 a % x = r := by
   rw [← hv, Nat.add_comm, Nat.add_mul_mod_self_right, Nat.mod_eq_of_lt hr]
  rw [h1, h2]
  rfl
 | succ k ih =>
  intro r cs hk hcs hd hr hv
  rw [zf49.l0_eq]
  simp only [zy0y, zy13, zy3c]
  rw [if_pos (by omega), show (((k + 1 : Nat) : Int) - 1) = (k : Int) by omega, (Row.nats _ a).rd (by omega) (by omega), Int.toNat_natCast]
  have hy : a.getD k 0 < B64 := ha.getD (by decide)
  rw [div_by hr hy hx]
  simp only [zy13, ext0, ext1]
  rw [zyg9 (by omega) (by omega)]
  simp only [zy13, Int.toNat_natCast, Nat.mul_one, Nat.zero_add]
  rw [zygw (l := cs) rfl (by omega)]
  simp only [zy13]
  rw [zy7z (by omega) (by omega)]
  simp only [zy13]
  have hq : (r * 18446744073709551616 + a.getD k 0) / x < B64 := by
   rw [Nat.div_lt_iff_lt_mul hx0]
   have h1 : (r + 1) * 18446744073709551616 ≤ x * 18446744073709551616 := Nat.mul_le_mul_right _ hr
   rw [Nat.mul_comm B64]
   unfold B64 at hy ⊢
   omega
  have hm : (r * 18446744073709551616 + a.getD k 0) % x < x := Nat.mod_lt _ hx0
  have hdm := Nat.div_add_mod (r * 18446744073709551616 + a.getD k 0) x
  refine ih _ _ (by omega) (by simpa using hcs) (hd.set hq) hm ?_
  rw [zy4e _ k (by simp; omega), zy6e, if_pos ⟨rfl, by omega⟩, zyfw _ _ _ _ (by omega), zyhw, zy4e a k (by omega), zyhw, ← hv]
  generalize (r * 18446744073709551616 + a.getD k 0) / x = q at *
  generalize (r * 18446744073709551616 + a.getD k 0) % x = r' at *
  rw [Nat.add_mul, Nat.mul_add]
  have e : B64 * val B64 (cs.drop (k + 1)) * x = B64 * (val B64 (cs.drop (k + 1)) * x) := Nat.mul_assoc _ _ _
  rw [e, Nat.mul_comm q x]
  unfold B64 at *
  omega

theorem short_cv (a : List Nat) (x : Nat) (ha : Dg B64 a) (hx0 : 0 < x) (hx : x < B64) (hn : a.length ≤ 100000) : cv gp fid.zf49 [nats a, nat .u64 x] = some (.tup [nats (dig B64 (val B64 a / x)), nat .u64 (val B64 a % x)]) := by
 rw [zf49.eq]
 unfold zf49.f
 simp only [zya1, zy13]
 rw [zybk (by omega) (by omega) (by omega)]
 simp only [zy13]
 rw [zy7z (by omega) (by omega)]
 simp only [zy13]
 rw [Int.toNat_natCast]
 exact short_l0 ha hx0 hx hn a.length 0 (List.replicate a.length 0) (by omega) (by simp) (Dg.replicate _ (by decide)) hx0 (by simp [val])


theorem guess_cv (hi lo top : Nat) (h1 : lo < B64) (h2 : top < B64) : cv gp fid.zf4b [nat .u64 hi, nat .u64 lo, nat .u64 top] = some (nat .u64 (if top ≤ hi then 18446744073709551615 else (hi * 18446744073709551616 + lo) / top)) := by
 rw [zf4b.eq]
 unfold zf4b.f
 simp only [zybp, zy13, zy3c]
 split
 ·rfl
 ·rw [div_by (by omega) h1 h2]
  simp only [zy13, ext0, ext1]
  rfl

end Go.Proofs.YtiblnpnfaadmcaaGreat.Am
/- The quotient of two rows. -/
set_option linter.unusedVariables false
set_option linter.unusedSimpArgs false
namespace Go.Proofs.YtiblnpnfaadmcaaGreat.Am
open Go

theorem zyfx {l : List Nat} {i : Nat} (h : i < l.length) : l.set i (l.getD i 0) = l := by
 apply List.ext_getElem?
 intro j
 rw [List.getElem?_set]
 split
 ·rename_i e
  subst e
  rw [List.getD_eq_getElem?_getD, List.getElem?_eq_getElem h]
  rfl
 ·rfl

structure DmAt (h : Heap) (idR idB idQ : Nat) (R BB Q : List Nat) : Prop where
 r : live h idR = some (nl .u64 R)
 b : live h idB = some (nl .u64 BB)
 q : live h idQ = some (nl .u64 Q)
 rb : idR ≠ idB
 rq : idR ≠ idQ
 bq : idB ≠ idQ

theorem DmAt.by_row {h : Heap} {idR idB idQ : Nat} {R BB Q : List Nat} (d : DmAt h idR idB idQ R BB Q) {k V : Nat} (hk : k ≤ BB.length) (hV : BB.take k = dig B64 V) : Row h .u64 (.rs 1 idB 0 k) (dig B64 V) := by
 have := Row.part (off := 0) (n := k) d.b (by omega)
 rwa [List.drop_zero, hV] at this

theorem dm_l1 {idR idB idQ idP i k m1 nq V : Nat} {y9 : AV} {R BB : List Nat} (hk : k ≤ BB.length) (hV : BB.take k = dig B64 V) (hV0 : 0 < V) (hR : i + (k + 1) ≤ R.length) (hRs : R.length ≤ 100000) (hdR : Dg B64 R) (hi : i < nq) (hpr : idP ≠ idR) (hpb : idP ≠ idB) (hpq : idP ≠ idQ) :
  ∀ (qh : Nat) (h : Heap) (Q Pd : List Nat), DmAt h idR idB idQ R BB Q → Q.length = nq → nq ≤ 100000 → live h idP = some (nl .u64 Pd) → Q.getD i 0 = qh → qh < B64 → Pd.length = k + 1 → Dg B64 Pd → val B64 Pd = qh * V → val B64 ((R.drop i).take (k + 1)) / V ≤ qh →
  ∃ h' f, zf3s.l1 y9 (.rs 1 idR 0 m1) (.rs 1 idB 0 k) (.int .i64 k) (.rs 1 idQ 0 nq) (.int .i64 i) (.rs 1 idR i (k + 1)) (.rs 1 idP 0 (k + 1)) h =
    zf3s.l0 y9 (.rs 1 idR 0 m1) (.rs 1 idB 0 k) (.int .i64 k) (.rs 1 idQ 0 nq) (.int .i64 ((i : Int) - 1)) h' ∧
   DmAt h' idR idB idQ (R.take i ++ f ++ R.drop (i + (k + 1))) BB (Q.set i (val B64 ((R.drop i).take (k + 1)) / V)) ∧ f.length = k + 1 ∧ Dg B64 f ∧ val B64 f = val B64 ((R.drop i).take (k + 1)) % V := by
 have hlk : (dig B64 V).length = k := by rw [← hV, List.length_take, Nat.min_eq_left hk]
 have hVk : V < B64 ^ k := by have := zyb0 zy0u (n := V); rwa [hlk] at this
 have hVk1 : B64 ^ k ≤ B64 ^ (k + 1) := Nat.pow_le_pow_right (by decide) (by omega)
 have hpl : ((R.drop i).take (k + 1)).length = k + 1 := by simp; omega
 have hdp : Dg B64 ((R.drop i).take (k + 1)) := (hdR.drop i).take _
 intro qh
 induction qh with
 | zero =>
  intro h Q Pd d hQ hnq hp hq0 hqB hPl hdP hPv hle
  have hz : val B64 ((R.drop i).take (k + 1)) / V = 0 := Nat.le_zero.1 hle
  have hlt : val B64 ((R.drop i).take (k + 1)) < V := (Nat.div_eq_zero_iff_lt hV0).1 hz
  rw [zf3s.l1_eq]
  obtain ⟨e1, r1⟩ := zyhl (Row.part (off := i) (n := k + 1) d.r hR) (by omega) hdp
  have hrp : Row h .u64 (.rs 1 idP 0 (k + 1)) Pd := by rw [← hPl]; exact Row.own hp
  obtain ⟨e2, r2⟩ := zyhl hrp (by omega) hdP
  have l1 := zy3y zy0u hdp
  have l2 := zy3y zy0u hdP
  rw [e1]
  simp only [zy13]
  rw [e2]
  simp only [zy13]
  rw [zydx r1 r2 (by omega) (by omega)]
  simp only [zy13, zy11, zy3c]
  rw [if_neg (by rw [cmpI_neg, hPv]; omega)]
  obtain ⟨f, b', t1, t2, t3, t4, t5⟩ := zyh7 (h := h) (id := idR) (off := i) (n := k + 1) (y1 := .rs 1 idP 0 (k + 1)) (Off.rs hpr) hdP (by omega) (by omega) d.r hrp hR hdR
  rw [t1]
  simp only [zy13]
  rw [zy7z (by omega) (by omega)]
  simp only [zy13]
  rw [List.take_of_length_le (by omega), hPv] at t5
  have hf := zyi1 t3
  rw [t2] at hf
  have hpv := zyi1 hdp
  rw [hpl] at hpv
  have hb0 : b' = 0 := by
   rcases Nat.lt_or_ge b' 1 with h | h
   ·omega
   ·have : b' = 1 := by omega
    subst this
    omega
  subst hb0
  refine ⟨_, f, rfl, ?_, t2, t3, ?_⟩
  ·rw [hz]
   have hQs : Q.set i 0 = Q := by rw [← hq0]; exact zyfx (by omega)
   rw [hQs]
   exact ⟨zyai d.r, by rw [zyah d.rb]; exact d.b, by rw [zyah d.rq]; exact d.q, d.rb, d.rq, d.bq⟩
  ·rw [Nat.mod_eq_of_lt hlt]; omega
 | succ qh ih =>
  intro h Q Pd d hQ hnq hp hq0 hqB hPl hdP hPv hle
  rw [zf3s.l1_eq]
  obtain ⟨e1, r1⟩ := zyhl (Row.part (off := i) (n := k + 1) d.r hR) (by omega) hdp
  have hrp : Row h .u64 (.rs 1 idP 0 (k + 1)) Pd := by rw [← hPl]; exact Row.own hp
  obtain ⟨e2, r2⟩ := zyhl hrp (by omega) hdP
  have l1 := zy3y zy0u hdp
  have l2 := zy3y zy0u hdP
  rw [e1]
  simp only [zy13]
  rw [e2]
  simp only [zy13]
  rw [zydx r1 r2 (by omega) (by omega)]
  simp only [zy13, zy11, zy3c]
  have hmul : (qh + 1) * V = qh * V + V := by rw [Nat.add_mul, Nat.one_mul]
  by_cases hlt : val B64 ((R.drop i).take (k + 1)) < val B64 Pd
  ·rw [if_pos (cmpI_neg.2 hlt)]
   rw [zyg9 (by omega) (by omega)]
   simp only [zy13, Int.toNat_natCast, Nat.mul_one, Nat.zero_add]
   rw [zyam d.q (by omega), hq0]
   simp only [zy13]
   rw [u_sub (by omega), show (qh + 1 + 18446744073709551616 - 1) % 18446744073709551616 = qh by unfold B64 at hqB; omega]
   simp only [zy13]
   rw [zygw d.q (by omega)]
   simp only [zy13]
   have d' : DmAt (h.set idQ (some (nl .u64 (Q.set i qh)))) idR idB idQ R BB (Q.set i qh) :=
    ⟨by rw [zyah (Ne.symm d.rq)]; exact d.r, by rw [zyah (Ne.symm d.bq)]; exact d.b, zyai d.q, d.rb, d.rq, d.bq⟩
   have hp' : live (h.set idQ (some (nl .u64 (Q.set i qh)))) idP = some (nl .u64 Pd) := by rw [zyah (Ne.symm hpq)]; exact hp
   obtain ⟨f, b', t1, t2, t3, t4, t5⟩ := zyh7 (id := idP) (off := 0) (n := k + 1) (y1 := .rs 1 idB 0 k) (Off.rs (Ne.symm hpb)) (zy3s zy0u V) (by omega) (by omega) hp' (d'.by_row hk hV) (by omega) hdP
   rw [t1]
   simp only [zy13]
   rw [List.take_of_length_le (by omega), zyhy zy0u, List.drop_zero, List.take_of_length_le (by omega), hPv] at t5
   have hf := zyi1 t3
   rw [t2] at hf
   have hb0 : b' = 0 := by
    rcases Nat.lt_or_ge b' 1 with h | h
    ·omega
    ·have : b' = 1 := by omega
     subst this
     omega
   subst hb0
   have hcs : Pd.take 0 ++ f ++ Pd.drop (0 + (k + 1)) = f := by rw [List.drop_of_length_le (by omega)]; simp
   rw [hcs]
   have hlow : val B64 ((R.drop i).take (k + 1)) / V ≤ qh := by
    rw [hPv] at hlt
    have : val B64 ((R.drop i).take (k + 1)) / V < qh + 1 := (Nat.div_lt_iff_lt_mul hV0).2 hlt
    omega
   have hQi : i < Q.length := by omega
   obtain ⟨h', f', g1, g2, g3, g4, g5⟩ := ih ((h.set idQ (some (nl .u64 (Q.set i qh)))).set idP (some (nl .u64 f))) (Q.set i qh) f
    ⟨by rw [zyah hpr]; exact d'.r, by rw [zyah hpb]; exact d'.b, by rw [zyah hpq]; exact d'.q, d.rb, d.rq, d.bq⟩ (by simpa using hQ) hnq (zyai hp') (by rw [zy6e, if_pos ⟨rfl, hQi⟩]) (by omega) t2 t3 (by omega) hlow
   refine ⟨h', f', g1, ?_, g3, g4, g5⟩
   rw [List.set_set] at g2
   exact g2
  ·rw [if_neg (fun e => hlt (cmpI_neg.1 e))]
   obtain ⟨f, b', t1, t2, t3, t4, t5⟩ := zyh7 (h := h) (id := idR) (off := i) (n := k + 1) (y1 := .rs 1 idP 0 (k + 1)) (Off.rs hpr) hdP (by omega) (by omega) d.r hrp hR hdR
   rw [t1]
   simp only [zy13]
   rw [zy7z (by omega) (by omega)]
   simp only [zy13]
   rw [List.take_of_length_le (by omega), hPv] at t5
   have hf := zyi1 t3
   rw [t2] at hf
   have hpv := zyi1 hdp
   rw [hpl] at hpv
   rw [hPv] at hlt
   have hb0 : b' = 0 := by
    rcases Nat.lt_or_ge b' 1 with h | h
    ·omega
    ·have : b' = 1 := by omega
     subst this
     omega
   subst hb0
   have hqe : val B64 ((R.drop i).take (k + 1)) / V = qh + 1 := Nat.le_antisymm hle ((Nat.le_div_iff_mul_le hV0).2 (by omega))
   refine ⟨_, f, rfl, ?_, t2, t3, ?_⟩
   ·rw [hqe]
    have hQs : Q.set i (qh + 1) = Q := by rw [← hq0]; exact zyfx (by omega)
    rw [hQs]
    exact ⟨zyai d.r, by rw [zyah d.rb]; exact d.b, by rw [zyah d.rq]; exact d.q, d.rb, d.rq, d.bq⟩
   ·rw [zybl, hqe]; omega

theorem guess_ge {P V top k : Nat} (hV0 : 0 < V) (hk : 1 ≤ k) (hPV : P < V * B64) (ht : top = V / B64 ^ (k - 1)) (htop : 0 < top) :
  P / V ≤ (if top ≤ P / B64 ^ k then 18446744073709551615 else (P / B64 ^ (k - 1)) / top) := by
 have h1 : P / V < B64 := by rw [Nat.div_lt_iff_lt_mul hV0, Nat.mul_comm]; exact hPV
 split
 ·unfold B64 at h1; omega
 ·rw [Nat.le_div_iff_mul_le htop, Nat.le_div_iff_mul_le (Nat.pow_pos (by decide))]
  have h2 : top * B64 ^ (k - 1) ≤ V := by rw [ht]; exact Nat.div_mul_le_self _ _
  have h3 : P / V * V ≤ P := Nat.div_mul_le_self _ _
  rw [Nat.mul_assoc]
  exact Nat.le_trans (Nat.mul_le_mul_left _ h2) h3

theorem zyhg {l : List Nat} (hl : Dg B64 l) {i : Nat} (hi : i < l.length) (hlast : i + 1 = l.length) : l.getD i 0 = val B64 l / B64 ^ i := by
 have h1 := zyi7 (B := B64) l i hi
 rw [hlast, List.take_length] at h1
 have h2 := zyi1 (hl.take i)
 rw [List.length_take, Nat.min_eq_left (by omega)] at h2
 rw [h1, Nat.add_mul_div_left _ _ (Nat.pow_pos (by decide)), Nat.div_eq_of_lt h2, Nat.zero_add]
theorem top_two {l : List Nat} (hl : Dg B64 l) {k : Nat} (hk : 1 ≤ k) (hlast : k + 1 = l.length) : l.getD k 0 * B64 + l.getD (k - 1) 0 = val B64 l / B64 ^ (k - 1) := by
 obtain ⟨j, rfl⟩ : ∃ j, k = j + 1 := ⟨k - 1, by omega⟩
 rw [Nat.add_sub_cancel]
 have h1 := zyi7 (B := B64) l (j + 1) (by omega)
 rw [hlast, List.take_length, zyi7 (B := B64) l j (by omega)] at h1
 have h2 := zyi1 (hl.take j)
 rw [List.length_take, Nat.min_eq_left (by omega)] at h2
 have e : val B64 l = val B64 (l.take j) + B64 ^ j * (l.getD (j + 1) 0 * B64 + l.getD j 0) := by
  rw [h1, Nat.pow_succ, Nat.mul_add]
  have : B64 ^ j * B64 * l.getD (j + 1) 0 = B64 ^ j * (l.getD (j + 1) 0 * B64) := by rw [Nat.mul_assoc, Nat.mul_comm B64]
  omega
 rw [e, Nat.add_mul_div_left _ _ (Nat.pow_pos (by decide)), Nat.div_eq_of_lt h2, Nat.zero_add]

theorem zyhz {l : List Nat} {i : Nat} (hi : i < l.length) : val B64 (l.drop i) = l.getD i 0 + B64 * val B64 (l.drop (i + 1)) := by rw [zy4e l i hi, zyhw]

theorem guess_by {h : Heap} {hi lo top : Nat} (h1 : lo < B64) (h2 : top < B64) : byVal (callW gp) h fid.zf4b [nat .u64 hi, nat .u64 lo, nat .u64 top] = some (nat .u64 (if top ≤ hi then 18446744073709551615 else (hi * 18446744073709551616 + lo) / top)) :=
 zy1m (imm_l3 zy7j zy7j zy7j (by omega) (by omega) (by omega)) (guess_cv hi lo top h1 h2)

theorem zy69 {h : Heap} {x y : AV} {l m : List Nat} (hx : Row h .u64 x l) (hy : Row h .u64 y m) {k : IntKind} {z : Int} : zy5v h (.tup [x, y, .int k z]) = some (.tup [nats l, nats m, .int k z]) :=
 frz_tup3 (hx.frzN (by omega)) (hy.frzN (by omega)) rfl

theorem dm_l0 {idR idB idQ k m1 nq V U s : Nat} {BB : List Nat} (hk : k ≤ BB.length) (hV : BB.take k = dig B64 V) (hk1 : 1 ≤ k) (hs : s < 64) (hm : m1 ≤ 50000) (hnq : nq + k = m1) (hV0 : V ≠ 0) :
  ∀ (j : Nat) (h : Heap) (R Q : List Nat), j ≤ nq → DmAt h idR idB idQ R BB Q → R.length = m1 → Q.length = nq → Dg B64 R → Dg B64 Q → val B64 (R.drop j) < V → val B64 R + V * (B64 ^ j * val B64 (Q.drop j)) = U → 
  zf3s.l0 (.int .i64 s) (.rs 1 idR 0 m1) (.rs 1 idB 0 k) (.int .i64 k) (.rs 1 idQ 0 nq) (.int .i64 ((j : Int) - 1)) h = some (.tup [nats (dig B64 (U / V)), nats (dig B64 (U % V / 2 ^ s)), .int .i64 0]) := by
 have hlk : (dig B64 V).length = k := by rw [← hV, List.length_take, Nat.min_eq_left hk]
 have hVk : V < B64 ^ k := by have := zyb0 zy0u (n := V); rwa [hlk] at this
 have hVlow : B64 ^ (k - 1) ≤ V := by have := zye6 zy0u hV0; rwa [hlk] at this
 intro j
 induction j with
 | zero =>
  intro h R Q hj d hR hQ hdR hdQ hlt hU
  rw [zf3s.l0_eq]
  simp only [zy0y, zy13, zy3c]
  rw [if_neg (by omega)]
  rw [List.drop_zero] at hlt
  rw [List.drop_zero, Nat.pow_zero, Nat.one_mul] at hU
  have hrq : Row h .u64 (.rs 1 idQ 0 nq) Q := by rw [← hQ]; exact Row.own d.q
  obtain ⟨e1, r1⟩ := zyhl hrq (by omega) hdQ
  rw [e1]
  simp only [zy13]
  have hrr : Row h .u64 (.rs 1 idR 0 m1) R := by rw [← hR]; exact Row.own d.r
  obtain ⟨f, t1, t2, t3⟩ := zyax (h := h) (s := s) (Off.rs (Nat.ne_of_lt (zyae d.r))) hdR hs (by omega) hrr
  rw [t1]
  simp only [zy13]
  have hrf : Row (h ++ [some (nl .u64 f)]) .u64 (.rs 1 h.length 0 (tl f)) (dig B64 (val B64 f)) := by
   rw [← zyh9 zy0u t2]
   have := Row.part (h := h ++ [some (nl .u64 f)]) (off := 0) (n := tl f) zya9 (by have := tl_le f; omega)
   rwa [List.drop_zero] at this
  rw [zy69 (r1.mono fun id off n cs e hl => zya8 hl) hrf]
  have hdiv : U / V = val B64 Q := by rw [← hU, Nat.add_mul_div_left _ _ (by omega), Nat.div_eq_of_lt hlt, Nat.zero_add]
  have hmod : U % V = val B64 R := by rw [← hU, Nat.add_mul_mod_self_left, Nat.mod_eq_of_lt hlt]
  rw [hdiv, hmod, t3]
 | succ i ih =>
  intro h R Q hj d hR hQ hdR hdQ hlt hU
  rw [zf3s.l0_eq]
  simp only [zy0y, zy13, zy3c]
  rw [if_pos (by omega), show (((i + 1 : Nat) : Int) - 1) = (i : Int) by omega]
  rw [zy7w (by omega) (by omega)]
  simp only [zy13]
  rw [zy7w (by omega) (by omega)]
  simp only [zy13]
  rw [slc_rs (by omega) (by omega) (by omega)]
  simp only [zy13, Nat.mul_one, Nat.zero_add, Int.toNat_natCast]
  rw [show ((i : Int) + (k : Int) + 1).toNat - i = k + 1 by omega]
  have hpart : Row h .u64 (.rs 1 idR i (k + 1)) ((R.drop i).take (k + 1)) := Row.part d.r (by omega)
  have hpl : ((R.drop i).take (k + 1)).length = k + 1 := by simp; omega
  have hdp : Dg B64 ((R.drop i).take (k + 1)) := (hdR.drop i).take _
  rw [hpart.rd (by omega) (by omega)]
  rw [zy7z (by omega) (by omega)]
  simp only [zy13]
  rw [hpart.rd (by omega) (by omega)]
  have hby := d.by_row hk hV
  rw [hby.rd (by omega) (by omega)]
  rw [Int.toNat_natCast, show ((k : Int) - 1).toNat = k - 1 by omega]
  rw [guess_by (hdp.getD (by decide)) ((zy3s zy0u V).getD (by decide))]
  simp only [zy13]
  rw [zyg9 (by omega) (by omega)]
  simp only [zy13, Int.toNat_natCast, Nat.mul_one, Nat.zero_add]
  rw [zygw d.q (by omega)]
  simp only [zy13]
  rw [zy7w (by omega) (by omega)]
  simp only [zy13]
  rw [zybk (by omega) (by omega) (by omega)]
  simp only [zy13]
  rw [slc_rs0 (by omega) (by omega)]
  simp only [zy13, Int.toNat_natCast]
  rw [show ((k : Int) + 1).toNat = k + 1 by omega]
  -- the part of the number, and the guessed digit
  have hhigh : val B64 (R.drop (i + (k + 1))) = 0 := by
   have h1 := zyi5 (B := B64) (R.drop (i + 1)) k
   rw [List.drop_drop, List.length_take, List.length_drop, Nat.min_eq_left (by omega), show i + 1 + k = i + (k + 1) by omega] at h1
   rcases Nat.eq_zero_or_pos (val B64 (R.drop (i + (k + 1)))) with h0 | h0
   ·exact h0
   ·have : B64 ^ k * 1 ≤ B64 ^ k * val B64 (R.drop (i + (k + 1))) := Nat.mul_le_mul_left _ h0
    omega
  have hPd : val B64 (R.drop i) = val B64 ((R.drop i).take (k + 1)) := by
   have h1 := zyi5 (B := B64) (R.drop i) (k + 1)
   rw [List.drop_drop, hhigh, Nat.mul_zero, Nat.add_zero] at h1
   exact h1
  have hPV : val B64 ((R.drop i).take (k + 1)) < V * B64 := by
   rw [← hPd, zyhz (by omega)]
   have h1 : R.getD i 0 < B64 := hdR.getD (by decide)
   have h2 : B64 * (val B64 (R.drop (i + 1)) + 1) ≤ B64 * V := Nat.mul_le_mul_left _ hlt
   rw [Nat.mul_add, Nat.mul_one] at h2
   rw [Nat.mul_comm V]
   omega
  have htop : (dig B64 V).getD (k - 1) 0 = V / B64 ^ (k - 1) := by
   have := zyhg (zy3s zy0u V) (i := k - 1) (by omega) (by omega)
   rwa [zyhy zy0u] at this
  have htop0 : 0 < (dig B64 V).getD (k - 1) 0 := by rw [htop]; exact Nat.div_pos hVlow (Nat.pow_pos (by decide))
  have htopB : (dig B64 V).getD (k - 1) 0 < B64 := (zy3s zy0u V).getD (by decide)
  have hg := guess_ge (P := val B64 ((R.drop i).take (k + 1))) (by omega) hk1 hPV htop htop0
  have g1 := zyhg hdp (i := k) (by omega) (by omega)
  have g2 := top_two hdp hk1 (by omega)
  rw [← g1, ← g2] at hg
  have hqB : (if (dig B64 V).getD (k - 1) 0 ≤ ((R.drop i).take (k + 1)).getD k 0 then 18446744073709551615 else (((R.drop i).take (k + 1)).getD k 0 * 18446744073709551616 + ((R.drop i).take (k + 1)).getD (k - 1) 0) / (dig B64 V).getD (k - 1) 0) < B64 := by
   split
   ·decide
   ·rename_i hlt2
    rw [Nat.div_lt_iff_lt_mul htop0]
    have h1 : ((R.drop i).take (k + 1)).getD (k - 1) 0 < B64 := hdp.getD (by decide)
    have h2 : (((R.drop i).take (k + 1)).getD k 0 + 1) * 18446744073709551616 ≤ (dig B64 V).getD (k - 1) 0 * 18446744073709551616 := Nat.mul_le_mul_right _ (by omega)
    have h1' : ((R.drop i).take (k + 1)).getD (k - 1) 0 < 18446744073709551616 := h1
    rw [Nat.mul_comm B64]
    show _ < (dig B64 V).getD (k - 1) 0 * 18446744073709551616
    omega
  generalize (if (dig B64 V).getD (k - 1) 0 ≤ ((R.drop i).take (k + 1)).getD k 0 then 18446744073709551615 else (((R.drop i).take (k + 1)).getD k 0 * 18446744073709551616 + ((R.drop i).take (k + 1)).getD (k - 1) 0) / (dig B64 V).getD (k - 1) 0) = qh at *
  -- the product
  have hlen : (h.set idQ (some (nl .u64 (Q.set i qh)))).length = h.length := by simp
  have hlR := zyae d.r
  have hlB := zyae d.b
  have hlQ := zyae d.q
  have d1 : DmAt (h.set idQ (some (nl .u64 (Q.set i qh)))) idR idB idQ R BB (Q.set i qh) :=
   ⟨by rw [zyah (Ne.symm d.rq)]; exact d.r, by rw [zyah (Ne.symm d.bq)]; exact d.b, zyai d.q, d.rb, d.rq, d.bq⟩
  have d2 : DmAt (h.set idQ (some (nl .u64 (Q.set i qh))) ++ [some (nl .u64 (List.replicate (k + 1) 0))]) idR idB idQ R BB (Q.set i qh) :=
   ⟨zya8 d1.r, zya8 d1.b, zya8 d1.q, d.rb, d.rq, d.bq⟩
  have hP : live (h.set idQ (some (nl .u64 (Q.set i qh))) ++ [some (nl .u64 (List.replicate (k + 1) 0))]) h.length = some (nl .u64 (List.replicate (k + 1) 0)) := zyaa hlen.symm
  rw [hlen]
  generalize h.set idQ (some (nl .u64 (Q.set i qh))) ++ [some (nl .u64 (List.replicate (k + 1) 0))] = h2 at *
  rw [zyam d2.q (by simp; omega), zy6e, if_pos ⟨rfl, by omega⟩]
  simp only [zy13]
  obtain ⟨f, c, t1, t2, t3, t4, t5⟩ := zy09 (h := h2) (id := h.length) (off := 0) (n := k) (x := qh) (Off.rs (Nat.ne_of_lt hlB)) (zy3s zy0u V) hqB (by omega) hlk hP (d2.by_row hk hV) (by simp) (Dg.replicate _ (by decide))
  rw [t1]
  simp only [zy13]
  rw [zyg9 (by omega) (by omega)]
  simp only [zy13, Int.toNat_natCast, Nat.mul_one, Nat.zero_add]
  have hcs : ((List.replicate (k + 1) 0).take 0 ++ f ++ (List.replicate (k + 1) 0).drop k) = f ++ [0] := by simp
  rw [hcs, zygw (zyai hP) (by simp; omega)]
  simp only [zy13, set_set, List.set_set]
  have hcs2 : (f ++ [0]).set k c = f ++ [c] := by rw [← t2, List.set_append_right _ _ (Nat.le_refl _), Nat.sub_self]; rfl
  rw [hcs2]
  rw [List.drop_zero, List.take_replicate, zyi9, zyhy zy0u, Nat.zero_add] at t5
  have hPd2 : val B64 (f ++ [c]) = qh * V := by rw [zyi4, t2, Nat.mul_comm]; exact t5
  have hne : ∀ id, id < h.length → h.length ≠ id := fun id hid e => by omega
  have d3 : DmAt (h2.set h.length (some (nl .u64 (f ++ [c])))) idR idB idQ R BB (Q.set i qh) :=
   ⟨by rw [zyah (hne _ hlR)]; exact d2.r, by rw [zyah (hne _ hlB)]; exact d2.b, by rw [zyah (hne _ hlQ)]; exact d2.q, d.rb, d.rq, d.bq⟩
  obtain ⟨h', f', u1, u2, u3, u4, u5⟩ := dm_l1 (idP := h.length) (i := i) (m1 := m1) (nq := nq) (y9 := .int .i64 s) hk hV (by omega) (by omega) (by omega) hdR (by omega) (hne _ hlR) (hne _ hlB) (hne _ hlQ)
   qh _ (Q.set i qh) (f ++ [c]) d3 (by simpa using hQ) (by omega) (zyai hP) (by rw [zy6e, if_pos ⟨rfl, by omega⟩]) hqB (by simp [t2]) (t3.append (.cons t4 .nil)) hPd2 hg
  rw [u1]
  rw [List.set_set] at u2
  have hti : (R.take i).length = i := by simp; omega
  have hR'd : (R.take i ++ f' ++ R.drop (i + (k + 1))).drop i = f' ++ R.drop (i + (k + 1)) := by
   rw [List.append_assoc, List.drop_append, List.drop_of_length_le (by omega), hti, Nat.sub_self]; rfl
  have hlt' : val B64 ((R.drop i).take (k + 1)) % V < V := Nat.mod_lt _ (by omega)
  have hqd : val B64 ((R.drop i).take (k + 1)) / V < B64 := Nat.lt_of_le_of_lt hg hqB
  refine ih h' (R.take i ++ f' ++ R.drop (i + (k + 1))) (Q.set i (val B64 ((R.drop i).take (k + 1)) / V)) (by omega) u2 (by simp [u3]; omega) (by simpa using hQ) (((hdR.take i).append u4).append (hdR.drop _)) (hdQ.set hqd) ?_ ?_
  ·rw [hR'd, zyhv, hhigh, Nat.mul_zero, Nat.add_zero, u5]
   exact hlt'
  ·have e1 : val B64 (R.take i ++ f' ++ R.drop (i + (k + 1))) = val B64 (R.take i) + B64 ^ i * (val B64 ((R.drop i).take (k + 1)) % V) := by
    rw [List.append_assoc, zyhv, hti, zyhv, hhigh, Nat.mul_zero, Nat.add_zero, u5]
   have e2 : val B64 R = val B64 (R.take i) + B64 ^ i * val B64 ((R.drop i).take (k + 1)) := by
    have := zyi5 (B := B64) R i
    rwa [hti, hPd] at this
   have e3 : (Q.set i (val B64 ((R.drop i).take (k + 1)) / V)).drop i = (val B64 ((R.drop i).take (k + 1)) / V) :: Q.drop (i + 1) := by
    rw [zy4e _ i (by simp; omega), zy6e, if_pos ⟨rfl, by omega⟩, zyfw _ _ _ _ (by omega)]
   rw [e1, e3, zyhw, ← hU, e2]
   have hdm := Nat.div_add_mod (val B64 ((R.drop i).take (k + 1))) V
   generalize val B64 ((R.drop i).take (k + 1)) / V = q at *
   generalize val B64 ((R.drop i).take (k + 1)) % V = r at *
   generalize val B64 ((R.drop i).take (k + 1)) = P at *
   generalize val B64 (Q.drop (i + 1)) = vq at *
   have e4 : V * (B64 ^ i * (q + B64 * vq)) = B64 ^ i * (V * q) + V * (B64 ^ (i + 1) * vq) := by
    rw [Nat.mul_add, Nat.mul_add, Nat.pow_succ]
    congr 1 <;> ac_rfl
   rw [e4, ← hdm, Nat.mul_add]
   omega

end Go.Proofs.YtiblnpnfaadmcaaGreat.Am
/- limb.DivMod. -/
set_option linter.unusedVariables false
set_option linter.unusedSimpArgs false
namespace Go.Proofs.YtiblnpnfaadmcaaGreat.Am
open Go

theorem zy1q {G : Prog} {h : Heap} {f : Nat} {args xs : List AV} {v : AV} (ha : args.mapM (zy5v h) = some xs) (hc : cv G f xs = some v) (hn : args.all noRef = true) : byVal (callW G) h f args = some v := by
 rw [zy1k, ha]
 simp only [zy13, hc, hn, Bool.true_or, if_true]

theorem lz_by {h : Heap} {x : Nat} (hx : x < B64) : byVal (callW gp) h fid.zf3x [nat .u64 x] = some (.int .i64 ((64 - blen x : Nat) : Int)) :=
 zy1m (zy7g zy7j (by omega)) (lz64 x hx)

theorem zy68 {h : Heap} {f g : Bool} {k : IntKind} {z : Int} : zy5v h (.tup [.is 0 f [], .is 0 g [], .int k z]) = some (.tup [nats [], nats [], .int k z]) := Eq.trans rfl rfl
theorem frz_nri {h : Heap} {x : AV} {f : Bool} {l : List Nat} (hr : Row h .u64 x l) {k : IntKind} {z : Int} : zy5v h (.tup [.is 0 f [], x, .int k z]) = some (.tup [nats [], nats l, .int k z]) :=
 zy69 (Row.nil h .u64 f) hr

theorem dig_one {x : Nat} (hx : x < B64) (h0 : x ≠ 0) : dig B64 x = [x] := by
 rw [zy41 zy0u h0, Nat.mod_eq_of_lt hx, Nat.div_eq_of_lt hx, zy43]

theorem dm_big {h : Heap} {x y : AV} {a b : Nat} (hx : Row h .u64 x (dig B64 a)) (hy : Row h .u64 y (dig B64 b)) (hox : ∀ id, Off id x) (hoy : ∀ id, Off id y) (hab : b ≤ a) (hla : (dig B64 a).length ≤ 4000) (hlb : 2 ≤ (dig B64 b).length) :
  ((opLen false y).bind fun v20 => (opBin .sub v20 (.int .i64 1)).bind fun v21 => (zydh 1 y v21).bind fun v22 => (zyd4 h none v22).bind fun v23 => (byVal (callW gp) h fid.zf3x [v23]).bind fun v24 => (callW gp fid.zf4a [x, v24] h).bind fun r25 => (callW gp fid.zf4a [y, v24] r25.2).bind fun r26 => (callW gp fid.zf3g [r26.1] r26.2).bind fun r27 => (opLen false r27.1).bind fun v28 => (opLen false r25.1).bind fun v29 => (opBin .sub v29 v28).bind fun v30 => (opMks r27.2 1 [nat .u64 0] v30 v30).bind fun r31 => (opLen false r31.1).bind fun v32 => (opBin .sub v32 (.int .i64 1)).bind fun v33 => zf3s.l0 v24 r25.1 r27.1 v28 r31.1 v33 r31.2) =
   some (.tup [nats (dig B64 (a / b)), nats (dig B64 (a % b)), .int .i64 0]) := by
 have hb0 : b ≠ 0 := fun e => by rw [e, zy43] at hlb; simp at hlb
 have hlab : (dig B64 b).length ≤ (dig B64 a).length := by
  rcases Nat.lt_or_ge (dig B64 a).length (dig B64 b).length with h | h
  ·have := zyb1 zy0u h; omega
  ·exact h
 rw [hy.len]
 simp only [zy13]
 rw [zy7z (by omega) (by omega)]
 simp only [zy13]
 rw [hy.rd (by omega) (by omega), show (((dig B64 b).length : Int) - 1).toNat = (dig B64 b).length - 1 by omega]
 have htB : (dig B64 b).getD ((dig B64 b).length - 1) 0 < B64 := (zy3s zy0u b).getD (by decide)
 have ht0 := zy42 zy0u hb0
 have htv : (dig B64 b).getD ((dig B64 b).length - 1) 0 = b / B64 ^ ((dig B64 b).length - 1) := by
  have := zyhg (zy3s zy0u b) (i := (dig B64 b).length - 1) (by omega) (by omega)
  rwa [zyhy zy0u] at this
 rw [lz_by htB]
 simp only [zy13]
 generalize hk : (dig B64 b).length = k at *
 generalize (dig B64 b).getD (k - 1) 0 = t at *
 have hbl : blen t ≤ 64 := zy15 (k := 64) htB
 have hbl0 := zy17 ht0
 obtain ⟨s, hs⟩ : ∃ s, s = 64 - blen t := ⟨_, rfl⟩
 rw [← hs]
 have hs64 : s < 64 := by omega
 have e64 : B64 = 2 ^ 64 := rfl
 have hp0 := Nat.two_pow_pos s
 -- the divisor, its highest bit set
 have hts1 : (t + 1) * 2 ^ s ≤ B64 := by
  have := Nat.mul_le_mul_right (2 ^ s) (show t + 1 ≤ 2 ^ blen t from zy16 t)
  rwa [← Nat.pow_add, show blen t + s = 64 by omega, ← e64] at this
 have hts2 : 2 ^ 63 ≤ t * 2 ^ s := by
  have := Nat.mul_le_mul_right (2 ^ s) (zy9i ht0)
  rwa [← Nat.pow_add, show blen t - 1 + s = 63 by omega] at this
 have hblt : b < (t + 1) * B64 ^ (k - 1) := by
  rw [htv, Nat.mul_comm]
  exact Nat.lt_mul_div_succ b (Nat.pow_pos (by decide))
 have hbge : t * B64 ^ (k - 1) ≤ b := by rw [htv]; exact Nat.div_mul_le_self _ _
 have hVlt : b * 2 ^ s < B64 ^ k := by
  have h1 : b * 2 ^ s < (t + 1) * B64 ^ (k - 1) * 2 ^ s := Nat.mul_lt_mul_of_pos_right hblt hp0
  have h2 : (t + 1) * B64 ^ (k - 1) * 2 ^ s = (t + 1) * 2 ^ s * B64 ^ (k - 1) := by ac_rfl
  have h3 := Nat.mul_le_mul_right (B64 ^ (k - 1)) hts1
  have h4 : B64 * B64 ^ (k - 1) = B64 ^ k := by rw [Nat.mul_comm, ← Nat.pow_succ, show (k - 1).succ = k by omega]
  omega
 have hVge : 2 ^ 63 * B64 ^ (k - 1) ≤ b * 2 ^ s := by
  have h1 := Nat.mul_le_mul_right (2 ^ s) hbge
  have h2 : t * B64 ^ (k - 1) * 2 ^ s = t * 2 ^ s * B64 ^ (k - 1) := by ac_rfl
  have h3 := Nat.mul_le_mul_right (B64 ^ (k - 1)) hts2
  omega
 have hV0 : b * 2 ^ s ≠ 0 := Nat.mul_ne_zero hb0 (by omega)
 have hVk : (dig B64 (b * 2 ^ s)).length = k := by
  have h1 := zy3z zy0u hVlt
  rcases Nat.lt_or_ge (dig B64 (b * 2 ^ s)).length k with h | h
  ·have h2 := zyb0 zy0u (n := b * 2 ^ s)
   have h3 : B64 ^ (dig B64 (b * 2 ^ s)).length ≤ B64 ^ (k - 1) := Nat.pow_le_pow_right (by decide) (by omega)
   have h4 : 1 * B64 ^ (k - 1) ≤ 2 ^ 63 * B64 ^ (k - 1) := Nat.mul_le_mul_right _ (by decide)
   omega
  ·omega
 -- the rows
 obtain ⟨R, r1, r2, r3, r4, r5⟩ := zyg5 (h := h) (s := s) (hox h.length) (zy3s zy0u a) hs64 (by omega) hx
 rw [r1]
 simp only [zy13]
 obtain ⟨BB, b1, b2, b3, b4, b5⟩ := zyg5 (h := h ++ [some (nl .u64 R)]) (s := s) (hoy _) (zy3s zy0u b) hs64 (by omega) (hy.mono fun id off n cs e hl => zya8 hl)
 rw [b1]
 simp only [zy13]
 rw [zyhy zy0u] at r4 b4
 rw [hk] at b2
 have hBrow : Row (h ++ [some (nl .u64 R)] ++ [some (nl .u64 BB)]) .u64 (.rs 1 (h ++ [some (nl .u64 R)]).length 0 (k + 1)) BB := by rw [← b2]; exact Row.own zya9
 rw [hk]
 obtain ⟨t1, t2⟩ := zyhl hBrow (by omega) b3
 rw [t1]
 simp only [zy13]
 have htl : tl BB = k := by rw [tl_eq zy0u b3, b4, hVk]
 rw [htl]
 simp only [AV.cut, zya2, zy13]
 rw [zy7z (by omega) (by omega)]
 simp only [zy13]
 rw [zybk (by omega) (by omega) (by omega)]
 simp only [zy13, zya2]
 generalize hm : (dig B64 a).length = m at *
 rw [show (((m + 1 : Nat) : Int) - (k : Int)).toNat = m + 1 - k by omega]
 rw [zy7z (by omega) (by omega)]
 simp only [zy13]
 have hlenB : (h ++ [some (nl .u64 R)]).length = h.length + 1 := by simp
 have hlenQ : (h ++ [some (nl .u64 R)] ++ [some (nl .u64 BB)]).length = h.length + 2 := by simp
 have d : DmAt (h ++ [some (nl .u64 R)] ++ [some (nl .u64 BB)] ++ [some (nl .u64 (List.replicate (m + 1 - k) 0))]) h.length (h ++ [some (nl .u64 R)]).length (h ++ [some (nl .u64 R)] ++ [some (nl .u64 BB)]).length R BB (List.replicate (m + 1 - k) 0) :=
  ⟨zya8 (zya8 zya9), zya8 zya9, zya9, by omega, by omega, by omega⟩
 have hBk : BB.take k = dig B64 (b * 2 ^ s) := by rw [← b4, ← zyh9 zy0u b3, htl]
 have hRtop : val B64 (R.drop (m + 1 - k)) < b * 2 ^ s := by
  have h1 := zyi7 (B := B64) (R.drop (m + 1 - k)) (k - 1) (by simp; omega)
  rw [show k - 1 + 1 = k by omega, List.take_of_length_le (by simp; omega), getD_drop, show m + 1 - k + (k - 1) = m by omega] at h1
  have h2 := zyi1 ((r3.drop (m + 1 - k)).take (k - 1))
  rw [List.length_take, List.length_drop, Nat.min_eq_left (by omega)] at h2
  have h3 : B64 ^ (k - 1) * (R.getD m 0 + 1) ≤ B64 ^ (k - 1) * 2 ^ 63 := Nat.mul_le_mul_left _ (Nat.le_trans r5 (Nat.pow_le_pow_right (by decide) (by omega)))
  rw [Nat.mul_add, Nat.mul_one, Nat.mul_comm _ (2 ^ 63)] at h3
  omega
 have hfin := dm_l0 (U := a * 2 ^ s) (m1 := m + 1) (nq := m + 1 - k) (k := k) (s := s) (V := b * 2 ^ s) (BB := BB) (by omega) hBk (by omega) hs64 (by omega) (by omega) hV0 (m + 1 - k) _ R (List.replicate (m + 1 - k) 0) (Nat.le_refl _) d r2 (by simp) r3 (Dg.replicate _ (by decide)) hRtop (by
  rw [List.drop_of_length_le (by simp)]; simp [val, r4])
 rw [hfin, Nat.mul_div_mul_right _ _ hp0, Nat.mul_mod_mul_right, Nat.mul_div_cancel _ hp0]

theorem zya3 (l m : List Nat) (hl : Dg B64 l) (hm : Dg B64 m) : cv gp fid.zf3s [nats l, nats m] = some (if 4000 < l.length ∨ 4000 < m.length then .tup [nats [], nats [], .int .i64 5] else if val B64 m = 0 then .tup [nats [], nats [], .int .i64 3] else .tup [nats (dig B64 (val B64 l / val B64 m)), nats (dig B64 (val B64 l % val B64 m)), .int .i64 0]) := by
 rw [zf3s.eq]
 unfold zf3s.f
 rw [zy1i]
 simp only [zy13]
 rw [zyan]
 simp only [zy13, zy3c]
 split
 ·exact zy68
 ·rename_i hn
  obtain ⟨e1, r1⟩ := zyhl (Row.nats [] l) (by omega) hl
  obtain ⟨e2, r2⟩ := zyhl (Row.nats [] m) (by omega) hm
  have h1 := zy3y zy0u hl
  have h2 := zy3y zy0u hm
  rw [e1]
  simp only [zy13]
  rw [e2]
  simp only [zy13]
  have hox : ∀ id, Off id ((nats l).cut (tl l)) := fun id => (Off.nats id l).cut _
  have hoy : ∀ id, Off id ((nats m).cut (tl m)) := fun id => (Off.nats id m).cut _
  have hnx : noRef ((nats l).cut (tl l)) = true := by
   show ((nl .u64 l).take (tl l)).all (zyca 11) = true
   rw [zyc7]
   exact zy78 (zy7k _ _) (by omega)
  generalize (nats l).cut (tl l) = x at *
  generalize (nats m).cut (tl m) = y at *
  generalize val B64 l = a at *
  generalize val B64 m = b at *
  have hlen2 : opLen false y = some (.int .i64 ((dig B64 b).length : Nat)) := r2.len
  rw [hlen2]
  simp only [zy13, zy0x, zy3c]
  by_cases hb0 : b = 0
  ·rw [if_pos (by rw [hb0, zy43]; rfl), if_pos hb0]
   exact zy68
  ·have hbl : (dig B64 b).length ≠ 0 := fun e => hb0 ((zy3w zy0u).1 e)
   rw [if_neg (by omega), if_neg hb0, zydx r1 r2 (by omega) (by omega)]
   simp only [zy13, zy11, zy3c]
   by_cases hlt : a < b
   ·rw [if_pos (cmpI_neg.2 hlt), bslc_0, Nat.div_eq_of_lt hlt, Nat.mod_eq_of_lt hlt, zy43]
    simp only [zy13]
    have hnl : nl .u64 [] = [] := rfl
    have hn0 : Row [] .u64 (.is 0 true (nl .u64 [])) [] := Row.nil [] .u64 true
    by_cases h0 : dig B64 a = []
    ·rw [h0] at r1
     rw [zy0o hn0 r1 (by simp), h0]
     simp only [zy13]
     exact frz_nri hn0
    ·rw [hnl, zy0n (h := []) r1 h0 (by omega)]
     simp only [zy13]
     exact frz_nri (Row.own rfl)
   ·rw [if_neg (fun e => hlt (cmpI_neg.1 e))]
    by_cases hl1 : (dig B64 b).length = 1
    ·rw [if_pos (by omega)]
     rw [r2.rd (by omega) (by omega)]
     have hbB : b < B64 := by have := zyb0 zy0u (n := b); rwa [hl1, Nat.pow_one] at this
     rw [dig_one hbB hb0]
     simp only [Int.toNat_zero, List.getD_cons_zero]
     have hsh : byVal (callW gp) [] fid.zf49 [x, nat .u64 b] = some (.tup [nats (dig B64 (a / b)), nat .u64 (a % b)]) := by
      have hsc := short_cv (dig B64 a) b (zy3s zy0u a) (by omega) hbB (by omega)
      rw [zyhy zy0u] at hsc
      exact zy1q (mapM2 r1.frz rfl) hsc (by rw [List.all_cons, hnx]; rfl)
     rw [hsh]
     simp only [zy13, ext0, ext1]
     rw [bslc_1]
     simp only [zy13]
     have hmB : a % b < B64 := Nat.lt_trans (Nat.mod_lt _ (by omega)) hbB
     have hro : Row [] .u64 (.is 1 true (nl .u64 [a % b])) [a % b] := Row.is true [a % b]
     obtain ⟨e3, r3⟩ := zyhl hro (by simp) (.cons hmB .nil)
     rw [e3]
     simp only [zy13]
     have hv : val B64 [a % b] = a % b := by simp [val]
     rw [hv] at r3
     exact zy69 (Row.nats _ _) r3
    ·rw [if_neg (by omega)]
     have hbig := dm_big r1 r2 hox hoy (by omega) (by omega) (by omega)
     rw [hlen2, zy13] at hbig
     exact hbig

end Go.Proofs.YtiblnpnfaadmcaaGreat.Am
/- Same, and what the laws' own examples say. -/
set_option linter.unusedVariables false
set_option linter.unusedSimpArgs false
namespace Go.Proofs.YtiblnpnfaadmcaaGreat.Am
open Go

end Go.Proofs.YtiblnpnfaadmcaaGreat.Am
