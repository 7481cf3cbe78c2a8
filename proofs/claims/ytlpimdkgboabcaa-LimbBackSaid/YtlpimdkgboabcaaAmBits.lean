/- Go's library below the limbs: order, lengths, products and quotients of words. -/
import Derived.Test.YtlpimdkgboabcaaT2
import Derived.Test.YtlpimdkgboabcaaAmLem
import Derived.Test.YtlpimdkgboabcaaAmDig
set_option linter.unusedVariables false
set_option linter.unusedSimpArgs false
namespace Go.Proofs.Ytlpimdkgboabcaa.Am
open Go

theorem frz_nn {h : Heap} {k k' : IntKind} {a b : Nat} : freeze h (.tup [nat k a, nat k' b]) = some (.tup [nat k a, nat k' b]) := rfl

theorem isNaN_int (x : Int) : cv gp fid.cmp_isNaN_int [.int .i64 x] = some (.bool false) := by
  rw [cmp_isNaN_int.eq]
  simp only [cmp_isNaN_int.f, bin_neq, bind_s, frz_bool, ne_eq, not_true_eq_false, decide_false]
theorem isNaN_uint64 (x : Nat) : cv gp fid.cmp_isNaN_uint64 [nat .u64 x] = some (.bool false) := by
  rw [cmp_isNaN_uint64.eq]
  simp only [cmp_isNaN_uint64.f, nat_neq, bind_s, frz_bool, ne_eq, not_true_eq_false, decide_false]

theorem imm_l1 {d : Nat} {a : AV} (h : Imm d a) (hd : d ≤ 12) : ∀ c ∈ [a], Imm 12 c := fun c hc => by
  rw [List.mem_singleton.1 hc]; exact h.mono hd

theorem compare_int (x y : Int) : cv gp fid.cmp_Compare_int [.int .i64 x, .int .i64 y] = some (.int .i64 (if x < y then -1 else if y < x then 1 else 0)) := by
  rw [cmp_Compare_int.eq]
  have e : ∀ z : Int, byVal (callW gp) [] fid.cmp_isNaN_int [.int .i64 z] = some (.bool false) := fun z => byVal_imm (imm_l1 imm_int (by omega)) (isNaN_int z)
  simp only [cmp_Compare_int.f, e, bind_s, cond_f, bin_lss, bin_gtr, cond_d, frz_int]
  split <;> (try split) <;> rfl
theorem compare_uint64 (x y : Nat) : cv gp fid.cmp_Compare_uint64 [nat .u64 x, nat .u64 y] = some (.int .i64 (cmpI x y)) := by
  rw [cmp_Compare_uint64.eq]
  have e : ∀ z : Nat, byVal (callW gp) [] fid.cmp_isNaN_uint64 [nat .u64 z] = some (.bool false) := fun z => byVal_imm (imm_l1 imm_nat (by omega)) (isNaN_uint64 z)
  simp only [cmp_Compare_uint64.f, e, bind_s, cond_f, nat_lss, nat_gtr, cond_d, frz_int, cmpI]
  split <;> (try split) <;> rfl

/-! ### How long a word is -/

def blen (x : Nat) : Nat := if x = 0 then 0 else Nat.log2 x + 1
theorem blen_lt (x : Nat) : x < 2 ^ blen x := by
  unfold blen
  split
  · subst x; simp
  · exact Nat.lt_log2_self
theorem le_blen {x : Nat} (h : x ≠ 0) : 2 ^ (blen x - 1) ≤ x := by
  unfold blen
  rw [if_neg h, Nat.add_sub_cancel]
  exact Nat.log2_self_le h
theorem blen_pos {x : Nat} (h : x ≠ 0) : 0 < blen x := by unfold blen; rw [if_neg h]; omega
theorem blen_le {x k : Nat} (h : x < 2 ^ k) : blen x ≤ k := by
  unfold blen
  split
  · omega
  · rename_i h0
    have := (Nat.log2_lt h0).2 h
    omega
theorem blen_shift {x k : Nat} (h : 2 ^ k ≤ x) : blen (x / 2 ^ k) + k = blen x := by
  have hx : x ≠ 0 := fun e => by rw [e] at h; have := Nat.two_pow_pos k; omega
  have hd : x / 2 ^ k ≠ 0 := fun e => by
    have := (Nat.div_eq_zero_iff_lt (Nat.two_pow_pos k)).1 e
    omega
  have h1 := blen_lt (x / 2 ^ k)
  have h2 := le_blen hd
  have h3 := blen_pos hd
  have e1 : x < 2 ^ (blen (x / 2 ^ k) + k) := by
    rw [Nat.pow_add]
    exact (Nat.div_lt_iff_lt_mul (Nat.two_pow_pos k)).1 h1
  have e2 : 2 ^ (blen (x / 2 ^ k) + k - 1) ≤ x := by
    have : blen (x / 2 ^ k) + k - 1 = (blen (x / 2 ^ k) - 1) + k := by omega
    rw [this, Nat.pow_add]
    exact (Nat.le_div_iff_mul_le (Nat.two_pow_pos k)).1 h2
  have h4 := blen_le e1
  have h5 : ¬ blen x ≤ blen (x / 2 ^ k) + k - 1 := fun h => by
    have := Nat.lt_of_lt_of_le (blen_lt x) (Nat.pow_le_pow_right (n := 2) (by omega) h)
    omega
  omega

theorem len64_tab (y n : AV) : bits_Len64.j2 y n = (opConv .u8 y).bind fun v9 => (opStri (str ((List.range 256).map blen)) v9).bind fun v10 => (opConv .i64 v10).bind fun v11 => (opBin .add n v11).bind fun v12 => freeze [] v12 := by kernel_rfl

theorem len64_j2 {y : Nat} {n : Int} (hy : y < 256) (h1 : 0 ≤ n) (h2 : n ≤ 1000) : bits_Len64.j2 (nat .u64 y) (.int .i64 n) = some (.int .i64 (n + (blen y : Nat))) := by
  have hb : blen y ≤ 8 := blen_le (k := 8) hy
  have hs : opStri (str ((List.range 256).map blen)) (nat .u8 y) = some (nat .u8 (blen y)) := by
    unfold nat
    rw [stri_str (fun x hx => ?_) (by omega) (by simp; omega)]
    · rw [Int.toNat_natCast, List.getD_eq_getElem?_getD, List.getElem?_map, List.getElem?_range hy]; rfl
    · obtain ⟨i, hi, rfl⟩ := List.mem_map.1 hx
      have := blen_le (x := i) (k := 8) (List.mem_range.1 hi)
      omega
  rw [len64_tab]
  simp only [conv_ub, Nat.mod_eq_of_lt hy, bind_s, hs, conv_iu (n := blen y) (k := .u8) (by omega)]
  rw [int_add (by omega) (by omega)]
  rfl

theorem len64 (x : Nat) (hx : x < 18446744073709551616) : cv gp fid.bits_Len64 [nat .u64 x] = some (.int .i64 (blen x : Nat)) := by
  have j1 : ∀ (y : Nat) (n : Int), y < 65536 → 0 ≤ n → n ≤ 100 → bits_Len64.j1 (nat .u64 y) (.int .i64 n) = some (.int .i64 (n + (blen y : Nat))) := by
    intro y n hy h1 h2
    unfold bits_Len64.j1
    simp only [nat_geq, bind_s, cond_d]
    split
    · rename_i h
      have := blen_shift (x := y) (k := 8) h
      rw [u_shr (by omega), int_add (by omega) (by omega)]
      simp only [bind_s]
      rw [len64_j2 (by omega) (by omega) (by omega)]
      congr 2; omega
    · rw [len64_j2 (by omega) (by omega) (by omega)]
  have j0 : ∀ (y : Nat) (n : Int), y < 4294967296 → 0 ≤ n → n ≤ 50 → bits_Len64.j0 (nat .u64 y) (.int .i64 n) = some (.int .i64 (n + (blen y : Nat))) := by
    intro y n hy h1 h2
    unfold bits_Len64.j0
    simp only [nat_geq, bind_s, cond_d]
    split
    · rename_i h
      have := blen_shift (x := y) (k := 16) h
      rw [u_shr (by omega), int_add (by omega) (by omega)]
      simp only [bind_s]
      rw [j1 _ _ (by omega) (by omega) (by omega)]
      congr 2; omega
    · rw [j1 _ _ (by omega) (by omega) (by omega)]
  rw [bits_Len64.eq]
  unfold bits_Len64.f
  simp only [nat_geq, bind_s, cond_d]
  split
  · rename_i h
    have := blen_shift (x := x) (k := 32) h
    rw [u_shr hx]
    simp only [bind_s]
    rw [j0 _ _ (by omega) (by omega) (by omega)]
    congr 2; omega
  · rw [j0 _ _ (by omega) (by omega) (by omega)]
    congr 2; omega

theorem lz64 (x : Nat) (hx : x < 18446744073709551616) : cv gp fid.bits_LeadingZeros64 [nat .u64 x] = some (.int .i64 ((64 - blen x : Nat) : Int)) := by
  have h : blen x ≤ 64 := blen_le (k := 64) hx
  rw [bits_LeadingZeros64.eq]
  unfold bits_LeadingZeros64.f
  rw [byVal_imm (imm_l1 imm_nat (by omega)) (len64 x hx)]
  simp only [bind_s]
  rw [int_sub (by omega) (by omega)]
  simp only [bind_s, frz_int]
  congr 2; omega

theorem mask32 (x : Nat) : x &&& 4294967295 = x % 4294967296 := Nat.and_two_pow_sub_one_eq_mod x 32

theorem mul64 (x y : Nat) (hx : x < 18446744073709551616) (hy : y < 18446744073709551616) : cv gp fid.bits_Mul64 [nat .u64 x, nat .u64 y] = some (.tup [nat .u64 (x * y / 18446744073709551616), nat .u64 (x * y % 18446744073709551616)]) := by
  rw [bits_Mul64.eq]
  unfold bits_Mul64.f
  have hx0 : x % 4294967296 < 4294967296 := Nat.mod_lt _ (by omega)
  have hy0 : y % 4294967296 < 4294967296 := Nat.mod_lt _ (by omega)
  have hx1 : x / 4294967296 < 4294967296 := by omega
  have hy1 : y / 4294967296 < 4294967296 := by omega
  have ex : x = 4294967296 * (x / 4294967296) + x % 4294967296 := by omega
  have ey : y = 4294967296 * (y / 4294967296) + y % 4294967296 := by omega
  have exy : x * y = 18446744073709551616 * (x / 4294967296 * (y / 4294967296)) + 4294967296 * (x / 4294967296 * (y % 4294967296)) + 4294967296 * (x % 4294967296 * (y / 4294967296)) + x % 4294967296 * (y % 4294967296) := by
    generalize x / 4294967296 = x1 at *
    generalize x % 4294967296 = x0 at *
    generalize y / 4294967296 = y1 at *
    generalize y % 4294967296 = y0 at *
    subst ex ey
    grind
  simp only [u_and hx (by omega : 4294967295 < 18446744073709551616), u_and hy (by omega : 4294967295 < 18446744073709551616), u_shr hx, u_shr hy, bind_s, mask32, u_mul]
  have b00 : x % 4294967296 * (y % 4294967296) ≤ 4294967295 * 4294967295 := Nat.mul_le_mul (by omega) (by omega)
  have b10 : x / 4294967296 * (y % 4294967296) ≤ 4294967295 * 4294967295 := Nat.mul_le_mul (by omega) (by omega)
  have b01 : x % 4294967296 * (y / 4294967296) ≤ 4294967295 * 4294967295 := Nat.mul_le_mul (by omega) (by omega)
  have b11 : x / 4294967296 * (y / 4294967296) ≤ 4294967295 * 4294967295 := Nat.mul_le_mul (by omega) (by omega)
  simp only [show (2 : Nat) ^ 32 = 4294967296 from rfl]
  rw [exy]
  generalize x / 4294967296 * (y / 4294967296) = p11 at *
  generalize x / 4294967296 * (y % 4294967296) = p10 at *
  generalize x % 4294967296 * (y / 4294967296) = p01 at *
  generalize x % 4294967296 * (y % 4294967296) = p00 at *
  rw [Nat.mod_eq_of_lt (a := p00) (by omega), Nat.mod_eq_of_lt (a := p10) (by omega), Nat.mod_eq_of_lt (a := p01) (by omega), Nat.mod_eq_of_lt (a := p11) (by omega)]
  rw [u_shr (by omega)]
  simp only [bind_s, u_add]
  rw [u_and (Nat.mod_lt _ (by omega)) (by omega)]
  simp only [bind_s, mask32]
  rw [u_shr (Nat.mod_lt _ (by omega))]
  simp only [bind_s, u_add]
  rw [u_shr (Nat.mod_lt _ (by omega))]
  simp only [bind_s, u_add, u_mul, show (2 : Nat) ^ 32 = 4294967296 from rfl]
  rw [frz_nn]
  congr 4 <;> omega

end Go.Proofs.Ytlpimdkgboabcaa.Am
