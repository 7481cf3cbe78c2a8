/- The document's answer for layer 1: quotients; limbs and digits, strings and digits. -/
import Derived.Test.YtlpimdkgboabcaaAmRef
set_option linter.unusedVariables false
set_option linter.unusedSimpArgs false
namespace Go.Proofs.Ytlpimdkgboabcaa.Am
open Go

/-! ### DivMod -/

theorem pow32 (i : Nat) : (2 : Nat) ^ i = B32 ^ (i / 32) * 2 ^ (i % 32) := by
  have : B32 = 2 ^ 32 := rfl
  rw [this, ← Nat.pow_mul, ← Nat.pow_add, Nat.div_add_mod]

/-- A digit's bit is the number's. -/
theorem bit_of {l : List Nat} (h : Dg B32 l) (i : Nat) : l.getD (i / 32) 0 / 2 ^ (i % 32) % 2 = val B32 l / 2 ^ i % 2 := by
  rw [getD_val h, pow32 i, ← Nat.div_div_eq_div_mul]
  generalize val B32 l / B32 ^ (i / 32) = x
  have hi : i % 32 < 32 := Nat.mod_lt _ (by omega)
  generalize i % 32 = k at hi
  have e : B32 = 2 ^ k * (2 * 2 ^ (31 - k)) := by
    have : B32 = 2 ^ (k + (1 + (31 - k))) := by rw [show k + (1 + (31 - k)) = 32 by omega]
    rw [this, Nat.pow_add, Nat.pow_add, Nat.pow_one]
  rw [e, Nat.mod_mul_right_div_self]
  exact Nat.mod_mul_right_mod _ _ _

theorem dm_step {A b i : Nat} (hb : 0 < b) : A / 2 ^ i = 2 * (A / 2 ^ (i + 1)) + A / 2 ^ i % 2 := by
  rw [Nat.pow_succ, ← Nat.div_div_eq_div_mul]
  omega
theorem dm_quo {H b bit : Nat} (hb : 0 < b) (hbit : bit < 2) : (2 * H + bit) / b = 2 * (H / b) + (if b ≤ 2 * (H % b) + bit then 1 else 0) ∧ (2 * H + bit) % b = 2 * (H % b) + bit - (if b ≤ 2 * (H % b) + bit then b else 0) := by
  have h1 := Nat.div_add_mod H b
  have h2 := Nat.mod_lt H hb
  generalize H / b = q at *
  generalize H % b = r at *
  subst h1
  have e : 2 * (b * q + r) + bit = 2 * r + bit + b * (2 * q) := by rw [Nat.mul_add, Nat.mul_left_comm]; omega
  rw [e, Nat.add_mul_div_left _ _ hb, Nat.add_mul_mod_self_left]
  split
  · rename_i h
    obtain ⟨d, hd⟩ : ∃ d, 2 * r + bit = d + b := ⟨2 * r + bit - b, by omega⟩
    rw [hd, Nat.add_div_right _ hb, Nat.add_mod_right, Nat.div_eq_of_lt (by omega), Nat.mod_eq_of_lt (by omega)]
    omega
  · rename_i h
    rw [Nat.div_eq_of_lt (by omega), Nat.mod_eq_of_lt (by omega)]
    omega

/-- A number that ends in zeros has a digit that ends in zeros. -/
theorem digit_room {l : List Nat} (h : Dg B32 l) {i m : Nat} (hm : val B32 l = m * 2 ^ (i + 1)) : l.getD (i / 32) 0 + 2 ^ (i % 32) < B32 := by
  rw [getD_val h, hm, Nat.pow_succ, pow32 i]
  have hi : i % 32 < 32 := Nat.mod_lt _ (by omega)
  generalize i % 32 = k at hi
  have hp : 0 < B32 ^ (i / 32) := Nat.pow_pos (by decide)
  have e : m * (B32 ^ (i / 32) * 2 ^ k * 2) / B32 ^ (i / 32) = (m * 2) * 2 ^ k := by
    rw [show m * (B32 ^ (i / 32) * 2 ^ k * 2) = B32 ^ (i / 32) * (m * 2 * 2 ^ k) by ac_rfl, Nat.mul_div_cancel_left _ hp]
  rw [e]
  have e2 : B32 = 2 * 2 ^ (31 - k) * 2 ^ k := by
    have : B32 = 2 ^ (1 + (31 - k) + k) := by rw [show 1 + (31 - k) + k = 32 by omega]
    rw [this, Nat.pow_add, Nat.pow_add, Nat.pow_one]
  rw [e2, Nat.mul_mod_mul_right, Nat.mul_comm m 2, Nat.mul_mod_mul_left]
  have h3 : m % 2 ^ (31 - k) < 2 ^ (31 - k) := Nat.mod_lt _ (Nat.pow_pos (by omega))
  generalize m % 2 ^ (31 - k) = x at h3
  generalize 2 ^ (31 - k) = y at h3
  have h4 : (2 * x + 1) * 2 ^ k < 2 * y * 2 ^ k := Nat.mul_lt_mul_of_pos_right (by omega) (Nat.pow_pos (by omega))
  rw [Nat.add_mul, Nat.one_mul] at h4
  exact h4

theorem rdm_l0 {a : List Nat} {b : Nat} (ha : Dg B32 a) (hb : 0 < b) (hn : a.length ≤ 90000) (hm : (dig B32 b).length ≤ 90000) : ∀ (k : Nat) (q : List Nat) (f : Bool), k ≤ 32 * a.length → q.length = a.length → Dg B32 q → val B32 q = val B32 a / 2 ^ k / b * 2 ^ k →
    gussetref01_DivMod.l0 (nats a) (nats (dig B32 b)) (.rs 1 0 0 a.length) (isl f (dig B32 (val B32 a / 2 ^ k % b))) (.int .i64 ((k : Int) - 1)) [some (nl .u64 q)] = some (.tup [nats (dig B32 (val B32 a / b)), nats (dig B32 (val B32 a % b))]) := by
  intro k
  induction k with
  | zero =>
    intro q f hk hq hd hv
    rw [gussetref01_DivMod.l0_eq]
    simp (disch := omega) only [len_is, len_rs, len_nats, len_str, bind_s, i_add, i_sub, i_mul, i_add1, i_add2, i_add3, i_add8, i_sub1, i_sub2, i_mul2, i_mul4, i_mul8, i_lmul2, i_lmul4, i_lmul8, i_lmul32, i_quo2, i_rem2, i_quo4, i_rem4, i_quo8, i_rem8, i_quo32, i_rem32, bin_lss, bin_leq, bin_gtr, bin_geq, bin_eql, bin_neq, nat_lss, nat_leq, nat_gtr, nat_geq, nat_eql, nat_neq, v_add, v_sub, v_mul, v_conv, i_conv, u_quo, u_rem, u_shr, u_shl, nsidx_rs, nsidx_is, nsidx_nats, nstri, ld_rp, load_ip, rd_nl, st_rp, stc_nl, live_0, live_1, live_2, nmks, nmks0, nmm, nl_len, h_app, h_set0, h_set1, cond_y, cond_n, cond_t, cond_f, guard_ty, guard_tn, guard_fy, guard_fn, guard_tt, guard_tf, guard_ft, guard_ff, ext0, ext1, ext2, frz_nat, frz_bool, frz_int, bslc_0, bslc_1, bslc_2, Int.toNat_natCast, List.nil_append, List.length_nil, List.length_cons, Nat.zero_add, Nat.mul_one, List.length_set]
    have hr : Row [some (nl .u64 q)] .u64 (.rs 1 0 0 a.length) q := own_row live_one hq
    rw [trim_run hr (by omega), bind_s]
    have h2 := trim_row b32_two hr hd
    rw [Nat.pow_zero, Nat.mul_one, Nat.div_one] at hv
    rw [Nat.pow_zero, Nat.div_one, ← hv]
    exact frz_tup2 (h2.frzN (by omega)) (isl_row.frzN (by omega))
  | succ k ih =>
    intro q f hk hq hd hv
    rw [gussetref01_DivMod.l0_eq]
    rw [show (((k + 1 : Nat) : Int) - 1) = (k : Int) by omega]
    have hlen : ∀ {x : Nat}, x < b + b → (dig B32 x).length ≤ 100000 := fun {x} hx => by
      have h1 := lt_of_dig_len b32_two (n := b)
      refine Nat.le_trans (dig_len_lt b32_two (k := (dig B32 b).length + 1) ?_) (by omega)
      have : B32 ^ (dig B32 b).length * 2 ≤ B32 ^ (dig B32 b).length * B32 := Nat.mul_le_mul_left _ (by decide)
      rw [Nat.pow_succ]
      omega
    have hrl : val B32 a / 2 ^ (k + 1) % b < b := Nat.mod_lt _ hb
    have hbit : a.getD (k / 32) 0 / 2 ^ (k % 32) % 2 < 2 := Nat.mod_lt _ (by omega)
    have hx := ha.l32 (k / 32)
    have hidx : k / 32 < a.length := by omega
    simp (disch := omega) only [len_is, len_rs, len_nats, len_str, bind_s, i_add, i_sub, i_mul, i_add1, i_add2, i_add3, i_add8, i_sub1, i_sub2, i_mul2, i_mul4, i_mul8, i_lmul2, i_lmul4, i_lmul8, i_lmul32, i_quo2, i_rem2, i_quo4, i_rem4, i_quo8, i_rem8, i_quo32, i_rem32, bin_lss, bin_leq, bin_gtr, bin_geq, bin_eql, bin_neq, nat_lss, nat_leq, nat_gtr, nat_geq, nat_eql, nat_neq, v_add, v_sub, v_mul, v_conv, i_conv, u_quo, u_rem, u_shr, u_shl, nsidx_rs, nsidx_is, nsidx_nats, nstri, ld_rp, load_ip, rd_nl, st_rp, stc_nl, live_0, live_1, live_2, nmks, nmks0, nmm, nl_len, h_app, h_set0, h_set1, cond_y, cond_n, cond_t, cond_f, guard_ty, guard_tn, guard_fy, guard_fn, guard_tt, guard_tf, guard_ft, guard_ff, ext0, ext1, ext2, frz_nat, frz_bool, frz_int, bslc_0, bslc_1, bslc_2, Int.toNat_natCast, List.nil_append, List.length_nil, List.length_cons, Nat.zero_add, Nat.mul_one, List.length_set]
    rw [double_by _ _ (dig_Dg b32_two _) (Nat.le_trans (hlen (by omega)) (by omega)) hbit, val_dig b32_two]
    simp only [bind_s]
    obtain ⟨h1, h2⟩ := dm_quo (H := val B32 a / 2 ^ (k + 1)) hb hbit
    have hst := dm_step (A := val B32 a) (i := k) hb
    rw [← bit_of ha k] at hst
    rw [← hst] at h1 h2
    generalize a.getD (k / 32) 0 / 2 ^ (k % 32) % 2 = bit at *
    generalize hr' : 2 * (val B32 a / 2 ^ (k + 1) % b) + bit = r' at *
    rw [← isl_nats (l := dig B32 r'), rcmp_by _ _ (Nat.le_trans (hlen (by omega)) (by omega)) (by omega)]
    simp only [bind_s, bin_geq, cond_d]
    by_cases hc : b ≤ r'
    · have hc2 : (0 : Int) ≤ cmpI r' b := by
        unfold cmpI; split <;> (try split) <;> omega
      rw [if_pos hc] at h1 h2
      rw [if_pos hc2, byVal_isl (imm_l1 imm_nats (by omega)) (rsub_cv _ _ (dig_Dg b32_two _) (dig_Dg b32_two _) (hlen (by omega)) (by
        rcases Nat.lt_or_ge (dig B32 r').length (dig B32 b).length with h | h
        · have := lt_of_len_lt b32_two h; omega
        · exact h) (by rw [val_dig b32_two, val_dig b32_two]; exact hc)), val_dig b32_two, val_dig b32_two]
      simp only [bind_s]
      have hroom := digit_room hd hv
      have hroom2 : q.getD (k / 32) 0 + 2 ^ (k % 32) < 4294967296 := hroom
      have hp2 : (2 : Nat) ^ (k % 32) < 4294967296 := by omega
      have e1 : 1 * 2 ^ (k % 32) % 18446744073709551616 = 2 ^ (k % 32) := by rw [Nat.one_mul]; exact Nat.mod_eq_of_lt (Nat.lt_trans hp2 (by decide))
      simp (disch := omega) only [len_is, len_rs, len_nats, len_str, bind_s, i_add, i_sub, i_mul, i_add1, i_add2, i_add3, i_add8, i_sub1, i_sub2, i_mul2, i_mul4, i_mul8, i_lmul2, i_lmul4, i_lmul8, i_lmul32, i_quo2, i_rem2, i_quo4, i_rem4, i_quo8, i_rem8, i_quo32, i_rem32, bin_lss, bin_leq, bin_gtr, bin_geq, bin_eql, bin_neq, nat_lss, nat_leq, nat_gtr, nat_geq, nat_eql, nat_neq, v_add, v_sub, v_mul, v_conv, i_conv, u_quo, u_rem, u_shr, u_shl, nsidx_rs, nsidx_is, nsidx_nats, nstri, ld_rp, load_ip, rd_nl, st_rp, stc_nl, live_0, live_1, live_2, nmks, nmks0, nmm, nl_len, h_app, h_set0, h_set1, cond_y, cond_n, cond_t, cond_f, guard_ty, guard_tn, guard_fy, guard_fn, guard_tt, guard_tf, guard_ft, guard_ff, ext0, ext1, ext2, frz_nat, frz_bool, frz_int, bslc_0, bslc_1, bslc_2, Int.toNat_natCast, List.nil_append, List.length_nil, List.length_cons, Nat.zero_add, Nat.mul_one, List.length_set, e1]
      rw [int_sub (by omega) (by omega)]
      simp only [bind_s]
      rw [← h2, ← isl_nats (l := dig B32 (val B32 a / 2 ^ k % b))]
      refine ih _ false (by omega) (by simpa using hq) (hd.set hroom) ?_
      rw [val_set (b := 2 ^ (k % 32)) (by omega) rfl, hv, h1, Nat.pow_succ, Nat.add_mul, Nat.one_mul]
      rw [Nat.mul_comm (2 ^ (k % 32)), ← pow32]
      rw [Nat.mul_comm (2 ^ k) 2, ← Nat.mul_assoc, Nat.mul_comm (val B32 a / (2 * 2 ^ k) / b) 2]
    · have hc2 : ¬ (0 : Int) ≤ cmpI r' b := by
        unfold cmpI; rw [if_pos (by omega)]; omega
      rw [if_neg hc] at h1 h2
      rw [if_neg hc2]
      rw [int_sub (by omega) (by omega)]
      simp only [bind_s]
      rw [Nat.sub_zero] at h2
      rw [← h2]
      refine ih _ false (by omega) hq hd ?_
      rw [hv, h1, Nat.pow_succ, Nat.add_zero]
      rw [Nat.mul_comm (2 ^ k) 2, ← Nat.mul_assoc, Nat.mul_comm (val B32 a / (2 * 2 ^ k) / b) 2]
theorem rdm_cv (a : List Nat) (b : Nat) (ha : Dg B32 a) (hb : 0 < b) (hn : a.length ≤ 90000) (hm : (dig B32 b).length ≤ 90000) : cv gp fid.gussetref01_DivMod [nats a, nats (dig B32 b)] = some (.tup [nats (dig B32 (val B32 a / b)), nats (dig B32 (val B32 a % b))]) := by
  rw [gussetref01_DivMod.eq]
  unfold gussetref01_DivMod.f
  simp (disch := omega) only [len_is, len_rs, len_nats, len_str, bind_s, i_add, i_sub, i_mul, i_add1, i_add2, i_add3, i_add8, i_sub1, i_sub2, i_mul2, i_mul4, i_mul8, i_lmul2, i_lmul4, i_lmul8, i_lmul32, i_quo2, i_rem2, i_quo4, i_rem4, i_quo8, i_rem8, i_quo32, i_rem32, bin_lss, bin_leq, bin_gtr, bin_geq, bin_eql, bin_neq, nat_lss, nat_leq, nat_gtr, nat_geq, nat_eql, nat_neq, v_add, v_sub, v_mul, v_conv, i_conv, u_quo, u_rem, u_shr, u_shl, nsidx_rs, nsidx_is, nsidx_nats, nstri, ld_rp, load_ip, rd_nl, st_rp, stc_nl, live_0, live_1, live_2, nmks, nmks0, nmm, nl_len, h_app, h_set0, h_set1, cond_y, cond_n, cond_t, cond_f, guard_ty, guard_tn, guard_fy, guard_fn, guard_tt, guard_tf, guard_ft, guard_ff, ext0, ext1, ext2, frz_nat, frz_bool, frz_int, bslc_0, bslc_1, bslc_2, Int.toNat_natCast, List.nil_append, List.length_nil, List.length_cons, Nat.zero_add, Nat.mul_one, List.length_set]
  rw [int_sub (by omega) (by omega)]
  simp only [bind_s]
  have hz : val B32 a / 2 ^ (32 * a.length) = 0 := by
    have h1 := val_lt ha
    have : B32 ^ a.length = 2 ^ (32 * a.length) := by rw [Nat.pow_mul]
    rw [← this]
    exact Nat.div_eq_of_lt h1
  have := rdm_l0 ha hb hn hm (32 * a.length) (List.replicate a.length 0) true (Nat.le_refl _) (by simp) (Dg.replicate _ (by decide)) (by rw [val_zeros, hz]; simp)
  rw [hz, Nat.zero_mod, dig_zero] at this
  exact this

/-! ### Split and Join -/

theorem split_l0 {a : List Nat} (ha : Dg B64 a) (hn : a.length ≤ 1000000) : ∀ (k i : Nat) (h : Heap) (id : Nat) (cs : List Nat), i + k = a.length → live h id = some (nl .u64 cs) → cs.length = 2 * i → Dg B32 cs → val B32 cs = val B64 (a.take i) →
    gussetref01_Split.l0 (nats a) (.rs 1 id 0 cs.length) (.int .i64 (i : Nat)) h = some (nats (dig B32 (val B64 a))) := by
  intro k
  induction k with
  | zero =>
    intro i h id cs hik hl hcs hd hv
    rw [gussetref01_Split.l0_eq]
    simp (disch := omega) only [len_is, len_rs, len_nats, len_str, bind_s, i_add, i_sub, i_mul, i_add1, i_add2, i_add3, i_add8, i_sub1, i_sub2, i_mul2, i_mul4, i_mul8, i_lmul2, i_lmul4, i_lmul8, i_lmul32, i_quo2, i_rem2, i_quo4, i_rem4, i_quo8, i_rem8, i_quo32, i_rem32, bin_lss, bin_leq, bin_gtr, bin_geq, bin_eql, bin_neq, nat_lss, nat_leq, nat_gtr, nat_geq, nat_eql, nat_neq, v_add, v_sub, v_mul, v_conv, i_conv, u_quo, u_rem, u_shr, u_shl, nsidx_rs, nsidx_is, nsidx_nats, nstri, ld_rp, load_ip, rd_nl, st_rp, stc_nl, live_0, live_1, live_2, nmks, nmks0, nmm, nl_len, h_app, h_set0, h_set1, cond_y, cond_n, cond_t, cond_f, guard_ty, guard_tn, guard_fy, guard_fn, guard_tt, guard_tf, guard_ft, guard_ff, ext0, ext1, ext2, frz_nat, frz_bool, frz_int, bslc_0, bslc_1, bslc_2, Int.toNat_natCast, List.nil_append, List.length_nil, List.length_cons, Nat.zero_add, Nat.mul_one, List.length_set]
    rw [trim_fz b32_two (Row.own hl) (by omega) hd, hv, List.take_of_length_le (by omega)]
  | succ k ih =>
    intro i h id cs hik hl hcs hd hv
    rw [gussetref01_Split.l0_eq]
    have hx := ha.l64 i
    simp (disch := omega) only [len_is, len_rs, len_nats, len_str, bind_s, i_add, i_sub, i_mul, i_add1, i_add2, i_add3, i_add8, i_sub1, i_sub2, i_mul2, i_mul4, i_mul8, i_lmul2, i_lmul4, i_lmul8, i_lmul32, i_quo2, i_rem2, i_quo4, i_rem4, i_quo8, i_rem8, i_quo32, i_rem32, bin_lss, bin_leq, bin_gtr, bin_geq, bin_eql, bin_neq, nat_lss, nat_leq, nat_gtr, nat_geq, nat_eql, nat_neq, v_add, v_sub, v_mul, v_conv, i_conv, u_quo, u_rem, u_shr, u_shl, nsidx_rs, nsidx_is, nsidx_nats, nstri, ld_rp, load_ip, rd_nl, st_rp, stc_nl, live_0, live_1, live_2, nmks, nmks0, nmm, nl_len, h_app, h_set0, h_set1, cond_y, cond_n, cond_t, cond_f, guard_ty, guard_tn, guard_fy, guard_fn, guard_tt, guard_tf, guard_ft, guard_ff, ext0, ext1, ext2, frz_nat, frz_bool, frz_int, bslc_0, bslc_1, bslc_2, Int.toNat_natCast, List.nil_append, List.length_nil, List.length_cons, Nat.zero_add, Nat.mul_one, List.length_set]
    have hr : Row h .u64 (.is 2 true (nl .u64 [a.getD i 0 % 4294967296, a.getD i 0 / 4294967296])) [a.getD i 0 % 4294967296, a.getD i 0 / 4294967296] := .is true [a.getD i 0 % 4294967296, a.getD i 0 / 4294967296]
    rw [app_row hl hr (by simp) (by simp; omega)]
    simp (disch := omega) only [len_is, len_rs, len_nats, len_str, bind_s, i_add, i_sub, i_mul, i_add1, i_add2, i_add3, i_add8, i_sub1, i_sub2, i_mul2, i_mul4, i_mul8, i_lmul2, i_lmul4, i_lmul8, i_lmul32, i_quo2, i_rem2, i_quo4, i_rem4, i_quo8, i_rem8, i_quo32, i_rem32, bin_lss, bin_leq, bin_gtr, bin_geq, bin_eql, bin_neq, nat_lss, nat_leq, nat_gtr, nat_geq, nat_eql, nat_neq, v_add, v_sub, v_mul, v_conv, i_conv, u_quo, u_rem, u_shr, u_shl, nsidx_rs, nsidx_is, nsidx_nats, nstri, ld_rp, load_ip, rd_nl, st_rp, stc_nl, live_0, live_1, live_2, nmks, nmks0, nmm, nl_len, h_app, h_set0, h_set1, cond_y, cond_n, cond_t, cond_f, guard_ty, guard_tn, guard_fy, guard_fn, guard_tt, guard_tf, guard_ft, guard_ff, ext0, ext1, ext2, frz_nat, frz_bool, frz_int, bslc_0, bslc_1, bslc_2, Int.toNat_natCast, List.nil_append, List.length_nil, List.length_cons, Nat.zero_add, Nat.mul_one, List.length_set]
    have e : cs.length + 2 = (cs ++ [a.getD i 0 % 4294967296, a.getD i 0 / 4294967296]).length := by simp
    simp only [List.length_cons, List.length_nil, Nat.zero_add, Nat.reduceAdd]
    rw [e]
    refine ih (i + 1) _ _ _ (by omega) (live_app_self' (by simp)) (by simp; omega) (hd.append (.cons (Nat.mod_lt _ (by decide)) (.cons (show _ < 4294967296 by omega) .nil))) ?_
    rw [val_append, hv, val_take_succ', hcs, Nat.pow_mul]
    congr 1
    simp only [val_cons, val_nil]
    rw [show B32 ^ 2 = B64 by decide]
    congr 1
    have := Nat.div_add_mod (a.getD i 0) 4294967296
    show a.getD i 0 % 4294967296 + 4294967296 * (a.getD i 0 / 4294967296 + 4294967296 * 0) = a.getD i 0
    omega
theorem split_cv (a : List Nat) (ha : Dg B64 a) (hn : a.length ≤ 1000000) : cv gp fid.gussetref01_Split [nats a] = some (nats (dig B32 (val B64 a))) := by
  rw [gussetref01_Split.eq]
  unfold gussetref01_Split.f
  simp (disch := omega) only [len_is, len_rs, len_nats, len_str, bind_s, i_add, i_sub, i_mul, i_add1, i_add2, i_add3, i_add8, i_sub1, i_sub2, i_mul2, i_mul4, i_mul8, i_lmul2, i_lmul4, i_lmul8, i_lmul32, i_quo2, i_rem2, i_quo4, i_rem4, i_quo8, i_rem8, i_quo32, i_rem32, bin_lss, bin_leq, bin_gtr, bin_geq, bin_eql, bin_neq, nat_lss, nat_leq, nat_gtr, nat_geq, nat_eql, nat_neq, v_add, v_sub, v_mul, v_conv, i_conv, u_quo, u_rem, u_shr, u_shl, nsidx_rs, nsidx_is, nsidx_nats, nstri, ld_rp, load_ip, rd_nl, st_rp, stc_nl, live_0, live_1, live_2, nmks, nmks0, nmm, nl_len, h_app, h_set0, h_set1, cond_y, cond_n, cond_t, cond_f, guard_ty, guard_tn, guard_fy, guard_fn, guard_tt, guard_tf, guard_ft, guard_ff, ext0, ext1, ext2, frz_nat, frz_bool, frz_int, bslc_0, bslc_1, bslc_2, Int.toNat_natCast, List.nil_append, List.length_nil, List.length_cons, Nat.zero_add, Nat.mul_one, List.length_set]
  exact split_l0 ha hn a.length 0 _ 0 [] (by omega) live_one rfl .nil rfl

/-- A slice that is grown by appending: none yet, or the whole of a block. -/
def Grown (h : Heap) (k : IntKind) (x : AV) (l : List Nat) : Prop := (l = [] ∧ x = .is 0 true []) ∨ ∃ id, x = .rs 1 id 0 l.length ∧ live h id = some (nl k l)
theorem Grown.row {h : Heap} {k : IntKind} {x : AV} {l : List Nat} (g : Grown h k x l) : Row h k x l := by
  rcases g with ⟨rfl, rfl⟩ | ⟨id, rfl, hl⟩
  · exact Row.nil h k true
  · exact Row.own hl
theorem Grown.app {h : Heap} {k : IntKind} {x y : AV} {l m : List Nat} (g : Grown h k x l) (hy : Row h k y m) (hm : m ≠ []) (hs : l.length + m.length ≤ 4294967296) : ∃ x' h', opApp h 1 x y = some (x', h') ∧ Grown h' k x' (l ++ m) := by
  rcases g with ⟨rfl, rfl⟩ | ⟨id, rfl, hl⟩
  · exact ⟨_, _, app_nil hy hm (by simpa using hs), .inr ⟨h.length, rfl, live_app_self⟩⟩
  · exact ⟨_, _, app_row hl hy hm hs, .inr ⟨h.length, by rw [List.length_append], live_app_self' (by simp)⟩⟩

theorem join_l0 {n : Nat} (hn : (dig B32 n).length ≤ 1000000) : ∀ (k i : Nat) (h : Heap) (x y : AV) (cs : List Nat), 2 * i + k = (dig B32 n).length + 1 → (∀ h', Row h' .u64 x (dig B32 n)) → Grown h .u64 y cs → cs.length = i → cs ++ dig B64 (n / B32 ^ (2 * i)) = dig B64 n →
    gussetref01_Join.l0 x y (.int .i64 ((2 * i : Nat) : Int)) h = some (nats (dig B64 n)) := by
  intro k
  induction k using Nat.strongRecOn with
  | _ k ih =>
    intro i h x y cs hik hx hy hcs hv
    rw [gussetref01_Join.l0_eq]
    rw [(hx h).len]
    simp (disch := omega) only [len_is, len_rs, len_nats, len_str, bind_s, i_add, i_sub, i_mul, i_add1, i_add2, i_add3, i_add8, i_sub1, i_sub2, i_mul2, i_mul4, i_mul8, i_lmul2, i_lmul4, i_lmul8, i_lmul32, i_quo2, i_rem2, i_quo4, i_rem4, i_quo8, i_rem8, i_quo32, i_rem32, bin_lss, bin_leq, bin_gtr, bin_geq, bin_eql, bin_neq, nat_lss, nat_leq, nat_gtr, nat_geq, nat_eql, nat_neq, v_add, v_sub, v_mul, v_conv, i_conv, u_quo, u_rem, u_shr, u_shl, nsidx_rs, nsidx_is, nsidx_nats, nstri, ld_rp, load_ip, rd_nl, st_rp, stc_nl, live_0, live_1, live_2, nmks, nmks0, nmm, nl_len, h_app, h_set0, h_set1, cond_y, cond_n, cond_t, cond_f, guard_ty, guard_tn, guard_fy, guard_fn, guard_tt, guard_tf, guard_ft, guard_ff, ext0, ext1, ext2, frz_nat, frz_bool, frz_int, bslc_0, bslc_1, bslc_2, Int.toNat_natCast, List.nil_append, List.length_nil, List.length_cons, Nat.zero_add, Nat.mul_one, List.length_set, cond_d]
    split
    · rename_i hlt
      have hlt' : 2 * i < (dig B32 n).length := by omega
      rw [(hx h).rdn hlt', dig_getD b32_two]
      have hne : n / B32 ^ (2 * i) ≠ 0 := fun e => by
        have h1 := (dig_len_gt b32_two).1 hlt'
        have h2 : 0 < B32 ^ (2 * i) := Nat.pow_pos (by decide)
        have := Nat.div_pos h1 h2
        omega
      have hsq := dig_sq b32_two (C := B64) (by decide) hne
      have e2 : n / B32 ^ (2 * i) / B32 = n / B32 ^ (2 * i + 1) := by rw [Nat.div_div_eq_div_mul, Nat.pow_succ]
      have e3 : n / B32 ^ (2 * i) / B32 / B32 = n / B32 ^ (2 * (i + 1)) := by rw [e2, Nat.div_div_eq_div_mul, ← Nat.pow_succ]; rfl
      rw [e3, e2] at hsq
      rw [hsq] at hv
      have h3 : n / B32 ^ (2 * i) % B32 < 4294967296 := Nat.mod_lt _ (by decide)
      have h4 : n / B32 ^ (2 * i + 1) % B32 < 4294967296 := Nat.mod_lt _ (by decide)
      have go : ∀ z, z = n / B32 ^ (2 * i) % B32 + B32 * (n / B32 ^ (2 * i + 1) % B32) → ((opApp h 1 y (.is 1 true (nl .u64 [z]))).bind fun r15 => gussetref01_Join.l0 x r15.1 (.int .i64 ((2 * i + 2 : Nat) : Int)) r15.2) = some (nats (dig B64 n)) := by
        intro z hz
        have hr : Row h .u64 (.is 1 true (nl .u64 [z])) [z] := .is true [z]
        obtain ⟨y', h', e4, g'⟩ := hy.app hr (by simp) (by simp; omega)
        rw [e4, bind_s]
        rw [show 2 * i + 2 = 2 * (i + 1) by omega]
        by_cases hk : 2 ≤ k
        · exact ih (k - 2) (by omega) (i + 1) h' x y' _ (by omega) hx g' (by simp; omega) (by rw [← hv, hz]; simp)
        · omega
      simp (disch := omega) only [len_is, len_rs, len_nats, len_str, bind_s, i_add, i_sub, i_mul, i_add1, i_add2, i_add3, i_add8, i_sub1, i_sub2, i_mul2, i_mul4, i_mul8, i_lmul2, i_lmul4, i_lmul8, i_lmul32, i_quo2, i_rem2, i_quo4, i_rem4, i_quo8, i_rem8, i_quo32, i_rem32, bin_lss, bin_leq, bin_gtr, bin_geq, bin_eql, bin_neq, nat_lss, nat_leq, nat_gtr, nat_geq, nat_eql, nat_neq, v_add, v_sub, v_mul, v_conv, i_conv, u_quo, u_rem, u_shr, u_shl, nsidx_rs, nsidx_is, nsidx_nats, nstri, ld_rp, load_ip, rd_nl, st_rp, stc_nl, live_0, live_1, live_2, nmks, nmks0, nmm, nl_len, h_app, h_set0, h_set1, cond_y, cond_n, cond_t, cond_f, guard_ty, guard_tn, guard_fy, guard_fn, guard_tt, guard_tf, guard_ft, guard_ff, ext0, ext1, ext2, frz_nat, frz_bool, frz_int, bslc_0, bslc_1, bslc_2, Int.toNat_natCast, List.nil_append, List.length_nil, List.length_cons, Nat.zero_add, Nat.mul_one, List.length_set, cond_d]
      split
      · rename_i hl2
        rw [(hx h).rdn (by omega), dig_getD b32_two]
        simp (disch := omega) only [len_is, len_rs, len_nats, len_str, bind_s, i_add, i_sub, i_mul, i_add1, i_add2, i_add3, i_add8, i_sub1, i_sub2, i_mul2, i_mul4, i_mul8, i_lmul2, i_lmul4, i_lmul8, i_lmul32, i_quo2, i_rem2, i_quo4, i_rem4, i_quo8, i_rem8, i_quo32, i_rem32, bin_lss, bin_leq, bin_gtr, bin_geq, bin_eql, bin_neq, nat_lss, nat_leq, nat_gtr, nat_geq, nat_eql, nat_neq, v_add, v_sub, v_mul, v_conv, i_conv, u_quo, u_rem, u_shr, u_shl, nsidx_rs, nsidx_is, nsidx_nats, nstri, ld_rp, load_ip, rd_nl, st_rp, stc_nl, live_0, live_1, live_2, nmks, nmks0, nmm, nl_len, h_app, h_set0, h_set1, cond_y, cond_n, cond_t, cond_f, guard_ty, guard_tn, guard_fy, guard_fn, guard_tt, guard_tf, guard_ft, guard_ff, ext0, ext1, ext2, frz_nat, frz_bool, frz_int, bslc_0, bslc_1, bslc_2, Int.toNat_natCast, List.nil_append, List.length_nil, List.length_cons, Nat.zero_add, Nat.mul_one, List.length_set]
        exact go _ rfl
      · rename_i hl2
        refine go _ ?_
        have : n / B32 ^ (2 * i + 1) = 0 := by
          rcases Nat.eq_zero_or_pos (n / B32 ^ (2 * i + 1)) with h | h
          · exact h
          · have h5 : B32 ^ (2 * i + 1) ≤ n := by
              rcases Nat.lt_or_ge n (B32 ^ (2 * i + 1)) with h6 | h6
              · rw [Nat.div_eq_of_lt h6] at h; omega
              · exact h6
            have := (dig_len_gt b32_two).2 h5
            omega
        rw [this]; simp
    · rename_i hge
      have : n / B32 ^ (2 * i) = 0 := by
        refine Nat.div_eq_of_lt ?_
        rcases Nat.lt_or_ge n (B32 ^ (2 * i)) with h6 | h6
        · exact h6
        · have := (dig_len_gt b32_two).2 h6
          omega
      rw [this, dig_zero, List.append_nil] at hv
      rw [hy.row.frz, hv]
theorem join_cv (n : Nat) (hn : (dig B32 n).length ≤ 1000000) : cv gp fid.gussetref01_Join [nats (dig B32 n)] = some (nats (dig B64 n)) := by
  rw [gussetref01_Join.eq]
  unfold gussetref01_Join.f
  have hr : ∀ h, Row h .u64 (nats (dig B32 n)) (dig B32 n) := fun h => Row.nats h _
  rw [trim_run (hr []) (by omega), bind_s]
  have hx : ∀ h, Row h .u64 ((nats (dig B32 n)).cut2 (tl (dig B32 n))) (dig B32 n) := fun h => by
    have := trim_row b32_two (hr h) (dig_Dg b32_two n)
    rwa [val_dig b32_two] at this
  exact join_l0 hn ((dig B32 n).length + 1) 0 [] _ _ [] (by omega) hx (.inl ⟨rfl, rfl⟩) rfl (by simp)

/-! ### Strings -/

theorem isNat_cv (l : List Nat) (hl : ∀ x ∈ l, x < 256) : cv gp fid.gussetref01_IsNat [str l] = some (.bool (decide (l.getD 0 1 ≠ 0))) := by
  rw [gussetref01_IsNat.eq]
  unfold gussetref01_IsNat.f
  rw [str_nil, str_eql hl (by simp)]
  simp only [bind_s, guard_df]
  cases l with
  | nil => rfl
  | cons x l =>
    rw [if_neg (by simp), stri_str hl (by omega) (by simp)]
    simp only [bind_s, nat_neq, frz_bool]
    rfl

theorem digit_shift {x p i : Nat} (w : Nat) (B : Nat) (hB : B = 256 ^ w) (hw : 0 < w) : x * 2 ^ (i % w * 8) * B ^ (i / w) = x * 256 ^ i := by
  rw [hB, Nat.mul_assoc, Nat.mul_comm (i % w) 8, Nat.pow_mul 2 8, ← Nat.pow_mul 256, show (2 : Nat) ^ 8 = 256 by decide, ← Nat.pow_add, Nat.add_comm, Nat.div_add_mod]

theorem byte_room {cs : List Nat} {B w i V : Nat} (hB : B = 256 ^ w) (hw : 0 < w) (hd : Dg B cs) (hv : val B cs = V) (hV : V < 256 ^ i) : cs.getD (i / w) 0 < 2 ^ (i % w * 8) := by
  rw [getD_val hd, hv]
  have : V / B ^ (i / w) < 256 ^ (i % w) := by
    rw [Nat.div_lt_iff_lt_mul (Nat.pow_pos (by rw [hB]; exact Nat.pow_pos (by omega))), hB, ← Nat.pow_mul, ← Nat.pow_add, Nat.add_comm, Nat.div_add_mod]
    exact hV
  have e : (2 : Nat) ^ (i % w * 8) = 256 ^ (i % w) := by rw [Nat.mul_comm, Nat.pow_mul]
  rw [e]
  exact Nat.lt_of_le_of_lt (Nat.mod_le _ _) this

theorem rev_getD {l : List Nat} {i : Nat} (h : i < l.length) : l.getD (l.length - 1 - i) 0 = l.reverse.getD i 0 := by
  rw [List.getD_eq_getElem?_getD, List.getD_eq_getElem?_getD, List.getElem?_reverse h]

theorem byte_fits {c b r w : Nat} (hb : b < 256) (hc : c < 2 ^ (r * 8)) (hr : r < w) : c + b * 2 ^ (r * 8) < 256 ^ w := by
  have e : (2 : Nat) ^ (r * 8) = 256 ^ r := by rw [Nat.mul_comm, Nat.pow_mul]
  rw [e] at hc ⊢
  have h1 : 256 ^ (r + 1) ≤ 256 ^ w := Nat.pow_le_pow_right (by omega) hr
  rw [Nat.pow_succ] at h1
  have h2 : b * 256 ^ r ≤ 255 * 256 ^ r := Nat.mul_le_mul_right _ (by omega)
  omega

theorem digits_l0 {l : List Nat} (hl : ∀ x ∈ l, x < 256) (hn : l.length ≤ 1000000) : ∀ (k i : Nat) (cs : List Nat), i + k = l.length → cs.length = (l.length + 3) / 4 → Dg B32 cs → val B32 cs = val 256 (l.reverse.take i) →
    gussetref01_Digits.l0 (str l) (.rs 1 0 0 ((l.length + 3) / 4)) (.int .i64 (i : Nat)) [some (nl .u64 cs)] = some (nats (dig B32 (val 256 l.reverse))) := by
  intro k
  induction k with
  | zero =>
    intro i cs hik hcs hd hv
    rw [gussetref01_Digits.l0_eq]
    simp (disch := omega) only [len_is, len_rs, len_nats, len_str, bind_s, i_add, i_sub, i_mul, i_add1, i_add2, i_add3, i_add8, i_sub1, i_sub2, i_mul2, i_mul4, i_mul8, i_lmul2, i_lmul4, i_lmul8, i_lmul32, i_quo2, i_rem2, i_quo4, i_rem4, i_quo8, i_rem8, i_quo32, i_rem32, bin_lss, bin_leq, bin_gtr, bin_geq, bin_eql, bin_neq, nat_lss, nat_leq, nat_gtr, nat_geq, nat_eql, nat_neq, v_add, v_sub, v_mul, v_conv, i_conv, u_quo, u_rem, u_shr, u_shl, nsidx_rs, nsidx_is, nsidx_nats, nstri, ld_rp, load_ip, rd_nl, st_rp, stc_nl, live_0, live_1, live_2, nmks, nmks0, nmm, nl_len, h_app, h_set0, h_set1, cond_y, cond_n, cond_t, cond_f, guard_ty, guard_tn, guard_fy, guard_fn, guard_tt, guard_tf, guard_ft, guard_ff, ext0, ext1, ext2, frz_nat, frz_bool, frz_int, bslc_0, bslc_1, bslc_2, Int.toNat_natCast, List.nil_append, List.length_nil, List.length_cons, Nat.zero_add, Nat.mul_one, List.length_set]
    have hr : Row [some (nl .u64 cs)] .u64 (.rs 1 0 0 ((l.length + 3) / 4)) cs := own_row live_one hcs
    rw [trim_fz b32_two hr (by omega) hd, hv, List.take_of_length_le (by simp; omega)]
  | succ k ih =>
    intro i cs hik hcs hd hv
    rw [gussetref01_Digits.l0_eq]
    have hdr : Dg 256 l.reverse := fun x hx => hl x (List.mem_reverse.1 hx)
    have hb : l.reverse.getD i 0 < 256 := hdr.getD (by decide)
    have hV : val 256 (l.reverse.take i) < 256 ^ i := by
      have := val_lt (hdr.take i)
      rwa [List.length_take, Nat.min_eq_left (by simp; omega)] at this
    have hroom := byte_room (w := 4) (i := i) (by decide) (by omega) hd hv hV
    have hfit := byte_fits hb hroom (w := 4) (Nat.mod_lt _ (by omega))
    have e256 : (256 : Nat) ^ 4 = 4294967296 := by decide
    rw [e256] at hfit
    have hidx : i / 4 < (l.length + 3) / 4 := by omega
    simp (disch := first | omega | assumption) only [len_is, len_rs, len_nats, len_str, bind_s, i_add, i_sub, i_mul, i_add1, i_add2, i_add3, i_add8, i_sub1, i_sub2, i_mul2, i_mul4, i_mul8, i_lmul2, i_lmul4, i_lmul8, i_lmul32, i_quo2, i_rem2, i_quo4, i_rem4, i_quo8, i_rem8, i_quo32, i_rem32, bin_lss, bin_leq, bin_gtr, bin_geq, bin_eql, bin_neq, nat_lss, nat_leq, nat_gtr, nat_geq, nat_eql, nat_neq, v_add, v_sub, v_mul, v_conv, i_conv, u_quo, u_rem, u_shr, u_shl, nsidx_rs, nsidx_is, nsidx_nats, nstri, ld_rp, load_ip, rd_nl, st_rp, stc_nl, live_0, live_1, live_2, nmks, nmks0, nmm, nl_len, h_app, h_set0, h_set1, cond_y, cond_n, cond_t, cond_f, guard_ty, guard_tn, guard_fy, guard_fn, guard_tt, guard_tf, guard_ft, guard_ff, ext0, ext1, ext2, frz_nat, frz_bool, frz_int, bslc_0, bslc_1, bslc_2, Int.toNat_natCast, List.nil_append, List.length_nil, List.length_cons, Nat.zero_add, Nat.mul_one, List.length_set]
    rw [rev_getD (by omega)]
    generalize hbb : l.reverse.getD i 0 = b at *
    have e1 : b * 2 ^ (i % 4 * 8) % 18446744073709551616 = b * 2 ^ (i % 4 * 8) := Nat.mod_eq_of_lt (by omega)
    simp (disch := first | omega | assumption) only [len_is, len_rs, len_nats, len_str, bind_s, i_add, i_sub, i_mul, i_add1, i_add2, i_add3, i_add8, i_sub1, i_sub2, i_mul2, i_mul4, i_mul8, i_lmul2, i_lmul4, i_lmul8, i_lmul32, i_quo2, i_rem2, i_quo4, i_rem4, i_quo8, i_rem8, i_quo32, i_rem32, bin_lss, bin_leq, bin_gtr, bin_geq, bin_eql, bin_neq, nat_lss, nat_leq, nat_gtr, nat_geq, nat_eql, nat_neq, v_add, v_sub, v_mul, v_conv, i_conv, u_quo, u_rem, u_shr, u_shl, nsidx_rs, nsidx_is, nsidx_nats, nstri, ld_rp, load_ip, rd_nl, st_rp, stc_nl, live_0, live_1, live_2, nmks, nmks0, nmm, nl_len, h_app, h_set0, h_set1, cond_y, cond_n, cond_t, cond_f, guard_ty, guard_tn, guard_fy, guard_fn, guard_tt, guard_tf, guard_ft, guard_ff, ext0, ext1, ext2, frz_nat, frz_bool, frz_int, bslc_0, bslc_1, bslc_2, Int.toNat_natCast, List.nil_append, List.length_nil, List.length_cons, Nat.zero_add, Nat.mul_one, List.length_set, e1]
    refine ih (i + 1) _ (by omega) (by simpa using hcs) (hd.set hfit) ?_
    rw [val_set (b := b * 2 ^ (i % 4 * 8)) (by omega) rfl, hv, digit_shift (p := 0) 4 B32 (by decide) (by omega), val_take_succ', hbb, Nat.mul_comm]
theorem digits_cv (l : List Nat) (hl : ∀ x ∈ l, x < 256) (hn : l.length ≤ 1000000) : cv gp fid.gussetref01_Digits [str l] = some (nats (dig B32 (val 256 l.reverse))) := by
  rw [gussetref01_Digits.eq]
  unfold gussetref01_Digits.f
  simp (disch := omega) only [len_is, len_rs, len_nats, len_str, bind_s, i_add, i_sub, i_mul, i_add1, i_add2, i_add3, i_add8, i_sub1, i_sub2, i_mul2, i_mul4, i_mul8, i_lmul2, i_lmul4, i_lmul8, i_lmul32, i_quo2, i_rem2, i_quo4, i_rem4, i_quo8, i_rem8, i_quo32, i_rem32, bin_lss, bin_leq, bin_gtr, bin_geq, bin_eql, bin_neq, nat_lss, nat_leq, nat_gtr, nat_geq, nat_eql, nat_neq, v_add, v_sub, v_mul, v_conv, i_conv, u_quo, u_rem, u_shr, u_shl, nsidx_rs, nsidx_is, nsidx_nats, nstri, ld_rp, load_ip, rd_nl, st_rp, stc_nl, live_0, live_1, live_2, nmks, nmks0, nmm, nl_len, h_app, h_set0, h_set1, cond_y, cond_n, cond_t, cond_f, guard_ty, guard_tn, guard_fy, guard_fn, guard_tt, guard_tf, guard_ft, guard_ff, ext0, ext1, ext2, frz_nat, frz_bool, frz_int, bslc_0, bslc_1, bslc_2, Int.toNat_natCast, List.nil_append, List.length_nil, List.length_cons, Nat.zero_add, Nat.mul_one, List.length_set]
  exact digits_l0 hl hn l.length 0 _ (by omega) (by simp) (Dg.replicate _ (by decide)) (by simp [val, val_zeros])
theorem digits_nb (n : Nat) (hn : (nb n).length ≤ 1000000) : cv gp fid.gussetref01_Digits [str (nb n)] = some (nats (dig B32 n)) := by
  rw [digits_cv _ (nb_lt n) hn, nb_val]

end Go.Proofs.Ytlpimdkgboabcaa.Am
