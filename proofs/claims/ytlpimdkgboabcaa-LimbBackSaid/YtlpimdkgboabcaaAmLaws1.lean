/- The laws of layer 1. -/
import Derived.Test.YtlpimdkgboabcaaAmNat
import Derived.Test.YtlpimdkgboabcaaAmLimbRing
import Derived.Test.YtlpimdkgboabcaaAmArgs
set_option linter.unusedVariables false
set_option exponentiation.threshold 1000
set_option linter.unusedSimpArgs false
namespace Go.Proofs.Ytlpimdkgboabcaa.Am
open Go

theorem un_notd {p : Prop} [Decidable p] : opUn .not (.bool (decide p)) = some (.bool (decide (¬ p))) := by by_cases h : p <;> simp [opUn, h]
theorem un_t : opUn .not (.bool true) = some (.bool false) := Eq.trans rfl rfl
theorem un_f : opUn .not (.bool false) = some (.bool true) := Eq.trans rfl rfl

section
variable {h : Heap}
theorem c_split {a : List Nat} (ha : Dg B64 a) (hn : a.length ≤ 1000000) : byVal (callW gp) h fid.gussetref01_Split [nats a] = some (nats (dig B32 (val B64 a))) := byVal_imm (imm_l1 imm_nats (by omega)) (split_cv a ha hn)
theorem c_join {n : Nat} (hn : (dig B32 n).length ≤ 1000000) : byVal (callW gp) h fid.gussetref01_Join [nats (dig B32 n)] = some (nats (dig B64 n)) := byVal_imm (imm_l1 imm_nats (by omega)) (join_cv n hn)
theorem c_radd {x y : Nat} (hx : (dig B32 x).length ≤ 100000) (hy : (dig B32 y).length ≤ 100000) : byVal (callW gp) h fid.gussetref01_Add [nats (dig B32 x), nats (dig B32 y)] = some (nats (dig B32 (x + y))) :=
  byVal_imm (imm_l2 imm_nats imm_nats (by omega) (by omega)) (by rw [radd_cv _ _ (dig_Dg b32_two x) (dig_Dg b32_two y) hx hy, val_dig b32_two, val_dig b32_two])
theorem c_rmul {x y : Nat} (hx : (dig B32 x).length ≤ 100000) (hy : (dig B32 y).length ≤ 100000) : byVal (callW gp) h fid.gussetref01_Mul [nats (dig B32 x), nats (dig B32 y)] = some (nats (dig B32 (x * y))) :=
  byVal_imm (imm_l2 imm_nats imm_nats (by omega) (by omega)) (by rw [rmul_cv _ _ (dig_Dg b32_two x) (dig_Dg b32_two y) hx hy, val_dig b32_two, val_dig b32_two])
theorem c_rsub {x y : Nat} (hx : (dig B32 x).length ≤ 100000) (hy : y ≤ x) : byVal (callW gp) h fid.gussetref01_Sub [nats (dig B32 x), nats (dig B32 y)] = some (nats (dig B32 (x - y))) :=
  byVal_imm (imm_l2 imm_nats imm_nats (by omega) (by omega)) (by
    rw [rsub_cv _ _ (dig_Dg b32_two x) (dig_Dg b32_two y) hx ?_ ?_, val_dig b32_two, val_dig b32_two]
    · rcases Nat.lt_or_ge (dig B32 x).length (dig B32 y).length with h | h
      · have := lt_of_len_lt b32_two h; omega
      · exact h
    · rw [val_dig b32_two, val_dig b32_two]; exact hy)
theorem c_rdm {x y : Nat} (hx : (dig B32 x).length ≤ 90000) (hy : (dig B32 y).length ≤ 90000) (h0 : 0 < y) : byVal (callW gp) h fid.gussetref01_DivMod [nats (dig B32 x), nats (dig B32 y)] = some (.tup [nats (dig B32 (x / y)), nats (dig B32 (x % y))]) :=
  byVal_imm (imm_l2 imm_nats imm_nats (by omega) (by omega)) (by rw [rdm_cv _ _ (dig_Dg b32_two x) h0 hx hy, val_dig b32_two])
theorem c_rcmp {x y : Nat} (hx : (dig B32 x).length ≤ 1000000) (hy : (dig B32 y).length ≤ 1000000) : byVal (callW gp) h fid.gussetref01_Cmp [nats (dig B32 x), nats (dig B32 y)] = some (.int .i64 (cmpI x y)) :=
  byVal_imm (imm_l2 imm_nats imm_nats (by omega) (by omega)) (rcmp_cv x y hx hy)
theorem c_add {a b : List Nat} (ha : Dg B64 a) (hb : Dg B64 b) (h1 : a.length ≤ 4000) (h2 : b.length ≤ 4000) : byVal (callW gp) h fid.limb_Add [nats a, nats b] = some (.tup [nats (dig B64 (val B64 a + val B64 b)), .int .i64 0]) := add_by a b ha hb h1 h2
theorem c_mul {a b : List Nat} (ha : Dg B64 a) (hb : Dg B64 b) (h1 : a.length ≤ 4000) (h2 : b.length ≤ 4000) : byVal (callW gp) h fid.limb_Mul [nats a, nats b] = some (.tup [nats (dig B64 (val B64 a * val B64 b)), .int .i64 0]) := mulr_by a b ha hb h1 h2
theorem c_cmp {a b : List Nat} (ha : Dg B64 a) (hb : Dg B64 b) (h1 : a.length ≤ 4000) (h2 : b.length ≤ 4000) : byVal (callW gp) h fid.limb_Cmp [nats a, nats b] = some (.tup [.int .i64 (cmpI (val B64 a) (val B64 b)), .int .i64 0]) := by
  rw [byVal_imm (imm_l2 imm_nats imm_nats (by omega) (by omega)) (limb_cmp a b ha hb), if_neg (by omega)]
theorem c_sub {a b : List Nat} (ha : Dg B64 a) (hb : Dg B64 b) (h1 : a.length ≤ 4000) (h2 : b.length ≤ 4000) (hlt : val B64 b ≤ val B64 a) : byVal (callW gp) h fid.limb_Sub [nats a, nats b] = some (.tup [nats (dig B64 (val B64 a - val B64 b)), .int .i64 0]) := by
  rw [byVal_imm (imm_l2 imm_nats imm_nats (by omega) (by omega)) (limb_sub a b ha hb), if_neg (by omega), if_neg (by omega)]
theorem c_subn {a b : List Nat} (ha : Dg B64 a) (hb : Dg B64 b) (h1 : a.length ≤ 4000) (h2 : b.length ≤ 4000) (hlt : val B64 a < val B64 b) : byVal (callW gp) h fid.limb_Sub [nats a, nats b] = some (.tup [nats [], .int .i64 2]) := by
  rw [byVal_imm (imm_l2 imm_nats imm_nats (by omega) (by omega)) (limb_sub a b ha hb), if_neg (by omega), if_pos (by omega)]
theorem c_dm {a b : List Nat} (ha : Dg B64 a) (hb : Dg B64 b) (h1 : a.length ≤ 4000) (h2 : b.length ≤ 4000) (h0 : 0 < val B64 b) : byVal (callW gp) h fid.limb_DivMod [nats a, nats b] = some (.tup [nats (dig B64 (val B64 a / val B64 b)), nats (dig B64 (val B64 a % val B64 b)), .int .i64 0]) := by
  rw [byVal_imm (imm_l2 imm_nats imm_nats (by omega) (by omega)) (limb_divmod a b ha hb), if_neg (by omega), if_neg (by omega)]
theorem c_dm0 {a b : List Nat} (ha : Dg B64 a) (hb : Dg B64 b) (h1 : a.length ≤ 4000) (h2 : b.length ≤ 4000) (h0 : val B64 b = 0) : byVal (callW gp) h fid.limb_DivMod [nats a, nats b] = some (.tup [nats [], nats [], .int .i64 3]) := by
  rw [byVal_imm (imm_l2 imm_nats imm_nats (by omega) (by omega)) (limb_divmod a b ha hb), if_neg (by omega), if_pos h0]
theorem c_same {a b : List Nat} (hs : a.length ≤ 4611686018427387904) : byVal (callW gp) h fid.gussetref01_Same [nats a, nats b] = some (.bool (decide (a = b))) := same_by a b hs
theorem c_copied {a : List Nat} (hs : a.length ≤ 1000) : byVal (callW gp) h fid.gussetlaw01_copied [nats a] = some (nats a) := byVal_imm (imm_l1 imm_nats (by omega)) (by
  rw [gussetlaw01_copied.eq]
  unfold gussetlaw01_copied.f
  by_cases h0 : a = []
  · subst h0
    rw [app_none (k := .u64) (l := []) (Row.nil [] .u64 true) (Row.nats [] []) (by simp)]
    rfl
  · rw [app_nil (Row.nats [] a) h0 (by omega)]
    simp only [bind_s, List.nil_append, List.length_nil]
    exact (Row.own (k := .u64) live_one).frz)
theorem c_small {a b : List Nat} : byVal (callW gp) h fid.gussetlaw01_small [nats a, nats b] = some (.bool (decide (a.length ≤ 60 ∧ b.length ≤ 60))) := byVal_imm (imm_l2 imm_nats imm_nats (by omega) (by omega)) (by
  rw [gussetlaw01_small.eq]
  unfold gussetlaw01_small.f
  simp only [len_nats, bind_s, bin_leq, guard_dt]
  split
  · rw [frz_bool]
    congr 2
    exact decide_eq_decide.2 (by omega)
  · rw [decide_eq_false (by omega)]; rfl)
theorem c_isNat {l : List Nat} (hl : ∀ x ∈ l, x < 256) : byVal (callW gp) h fid.gussetref01_IsNat [str l] = some (.bool (decide (l.getD 0 1 ≠ 0))) := byVal_imm (imm_l1 imm_strl (by omega)) (isNat_cv l hl)
theorem c_digits {l : List Nat} (hl : ∀ x ∈ l, x < 256) (hn : l.length ≤ 1000000) : byVal (callW gp) h fid.gussetref01_Digits [str l] = some (nats (dig B32 (val 256 l.reverse))) := byVal_imm (imm_l1 imm_strl (by omega)) (digits_cv l hl hn)
theorem c_rnat {n : Nat} (hn : (dig B32 n).length ≤ 100000) : byVal (callW gp) h fid.gussetref01_Nat [nats (dig B32 n)] = some (str (nb n)) := byVal_imm (imm_l1 imm_nats (by omega)) (rnat_cv n hn)
theorem c_nat {l : List Nat} (hl : Dg B64 l) (hn : l.length ≤ 4000) : byVal (callW gp) h fid.limb_Nat [nats l] = some (.tup [str (nb (val B64 l)), .int .i64 0]) := by
  rw [byVal_imm (imm_l1 imm_nats (by omega)) (lnat_cv l hl), if_neg (by omega)]
theorem c_of {l : List Nat} (hl : ∀ x ∈ l, x < 256) : byVal (callW gp) h fid.limb_Of [str l] = some (if 32000 < l.length then .tup [nats [], .int .i64 5] else if l.getD 0 1 = 0 then .tup [nats [], .int .i64 1] else .tup [nats (dig B64 (val 256 l.reverse)), .int .i64 0]) :=
  byVal_imm (imm_l1 imm_strl (by omega)) (of_cv l hl)
end

theorem len32 {a : List Nat} (ha : Dg B64 a) {n : Nat} (hn : a.length ≤ n) : (dig B32 (val B64 a)).length ≤ 2 * n := dig_len_lt b32_two (by
  have h1 := val_lt ha
  have h2 : B64 ^ a.length ≤ B64 ^ n := Nat.pow_le_pow_right (by decide) hn
  have h3 : B64 ^ n = B32 ^ (2 * n) := by rw [Nat.pow_mul]; rfl
  omega)
theorem len_add {B x y n : Nat} (hB : 2 ≤ B) (hx : (dig B x).length ≤ n) (hy : (dig B y).length ≤ n) : (dig B (x + y)).length ≤ n + 1 := dig_len_lt hB (by
  have h1 := lt_of_dig_len hB (n := x)
  have h2 := lt_of_dig_len hB (n := y)
  have h3 : B ^ (dig B x).length ≤ B ^ n := Nat.pow_le_pow_right (by omega) hx
  have h4 : B ^ (dig B y).length ≤ B ^ n := Nat.pow_le_pow_right (by omega) hy
  have h5 : B ^ n * 2 ≤ B ^ n * B := Nat.mul_le_mul_left _ hB
  rw [Nat.pow_succ]
  omega)
theorem len_mul {B x y n m : Nat} (hB : 2 ≤ B) (hx : (dig B x).length ≤ n) (hy : (dig B y).length ≤ m) : (dig B (x * y)).length ≤ n + m := dig_len_lt hB (by
  have h1 := lt_of_dig_len hB (n := x)
  have h2 := lt_of_dig_len hB (n := y)
  have h3 : B ^ (dig B x).length ≤ B ^ n := Nat.pow_le_pow_right (by omega) hx
  have h4 : B ^ (dig B y).length ≤ B ^ m := Nat.pow_le_pow_right (by omega) hy
  rw [Nat.pow_add]
  exact Nat.mul_lt_mul'' (by omega) (by omega))
theorem len_le {B x y : Nat} (hB : 2 ≤ B) (h : x ≤ y) : (dig B x).length ≤ (dig B y).length := by
  rcases Nat.lt_or_ge (dig B y).length (dig B x).length with h1 | h1
  · have := lt_of_len_lt hB h1; omega
  · exact h1

/-! ### The laws -/

theorem limbProducts_cv (a b : List Nat) (ha : Dg B64 a) (hb : Dg B64 b) : cv gp fid.gussetlaw01_LimbProducts [nats a, nats b] = some (.bool true) := by
  rw [gussetlaw01_LimbProducts.eq]
  unfold gussetlaw01_LimbProducts.f
  rw [c_small]
  by_cases hs : a.length ≤ 60 ∧ b.length ≤ 60
  · obtain ⟨h1, h2⟩ := hs
    have q1 := len32 ha h1
    have q2 := len32 hb h2
    have q3 := len_mul b32_two q1 q2
    have q4 : (dig B64 (val B64 a * val B64 b)).length ≤ 120 := dig_len_lt b64_two (by
      have e1 := val_lt ha
      have e2 := val_lt hb
      rw [show (120 : Nat) = 60 + 60 from rfl, Nat.pow_add]
      exact Nat.mul_lt_mul'' (Nat.lt_of_lt_of_le e1 (Nat.pow_le_pow_right (by decide) h1)) (Nat.lt_of_lt_of_le e2 (Nat.pow_le_pow_right (by decide) h2)))
    simp (disch := first | omega | assumption | with_reducible rfl) only [len_is, len_rs, len_nats, len_str, bind_s, i_add, i_sub, i_mul, i_add1, i_add2, i_add3, i_add8, i_sub1, i_sub2, i_mul2, i_mul4, i_mul8, i_lmul2, i_lmul4, i_lmul8, i_lmul32, i_quo2, i_rem2, i_quo4, i_rem4, i_quo8, i_rem8, i_quo32, i_rem32, bin_lss, bin_leq, bin_gtr, bin_geq, bin_eql, bin_neq, nat_lss, nat_leq, nat_gtr, nat_geq, nat_eql, nat_neq, v_add, v_sub, v_mul, v_conv, i_conv, u_quo, u_rem, u_shr, u_shl, nsidx_rs, nsidx_is, nsidx_nats, nstri, ld_rp, load_ip, rd_nl, st_rp, stc_nl, live_0, live_1, live_2, nmks, nmks0, nmm, nl_len, h_app, h_set0, h_set1, cond_y, cond_n, cond_t, cond_f, guard_ty, guard_tn, guard_fy, guard_fn, guard_tt, guard_tf, guard_ft, guard_ff, ext0, ext1, ext2, frz_nat, frz_bool, frz_int, bslc_0, bslc_1, bslc_2, Int.toNat_natCast, List.nil_append, List.length_nil, List.length_cons, Nat.zero_add, Nat.mul_one, List.length_set, ne_eq, eq_self, not_true_eq_false, not_false_eq_true, decide_true, decide_false, Decidable.not_not, un_notd, c_mul, c_split, c_rmul, c_join, c_same]
    exact live_tail
  · simp (disch := first | omega | assumption) only [len_is, len_rs, len_nats, len_str, bind_s, i_add, i_sub, i_mul, i_add1, i_add2, i_add3, i_add8, i_sub1, i_sub2, i_mul2, i_mul4, i_mul8, i_lmul2, i_lmul4, i_lmul8, i_lmul32, i_quo2, i_rem2, i_quo4, i_rem4, i_quo8, i_rem8, i_quo32, i_rem32, bin_lss, bin_leq, bin_gtr, bin_geq, bin_eql, bin_neq, nat_lss, nat_leq, nat_gtr, nat_geq, nat_eql, nat_neq, v_add, v_sub, v_mul, v_conv, i_conv, u_quo, u_rem, u_shr, u_shl, nsidx_rs, nsidx_is, nsidx_nats, nstri, ld_rp, load_ip, rd_nl, st_rp, stc_nl, live_0, live_1, live_2, nmks, nmks0, nmm, nl_len, h_app, h_set0, h_set1, cond_y, cond_n, cond_t, cond_f, guard_ty, guard_tn, guard_fy, guard_fn, guard_tt, guard_tf, guard_ft, guard_ff, ext0, ext1, ext2, frz_nat, frz_bool, frz_int, bslc_0, bslc_1, bslc_2, Int.toNat_natCast, List.nil_append, List.length_nil, List.length_cons, Nat.zero_add, Nat.mul_one, List.length_set, ne_eq, eq_self, not_true_eq_false, not_false_eq_true, decide_true, decide_false, Decidable.not_not, un_notd]
    exact live_tail

theorem limbSums_cv (a b : List Nat) (ha : Dg B64 a) (hb : Dg B64 b) : cv gp fid.gussetlaw01_LimbSums [nats a, nats b] = some (.bool true) := by
  rw [gussetlaw01_LimbSums.eq]
  unfold gussetlaw01_LimbSums.f
  rw [c_small]
  by_cases hs : a.length ≤ 60 ∧ b.length ≤ 60
  · obtain ⟨h1, h2⟩ := hs
    have q1 := len32 ha h1
    have q2 := len32 hb h2
    have q3 := len_add b32_two q1 q2
    have q5 : (dig B64 (val B64 a + val B64 b)).length ≤ 61 := dig_len_lt b64_two (by
      have e1 := val_lt ha
      have e2 := val_lt hb
      have e3 : B64 ^ a.length ≤ B64 ^ 60 := Nat.pow_le_pow_right (by decide) h1
      have e4 : B64 ^ b.length ≤ B64 ^ 60 := Nat.pow_le_pow_right (by decide) h2
      have e5 : B64 ^ 61 = B64 ^ 60 * B64 := Nat.pow_succ ..
      have e6 : B64 ^ 60 * 2 ≤ B64 ^ 60 * B64 := Nat.mul_le_mul_left _ (by decide)
      omega)
    have q6 : (dig B32 (val B64 a - val B64 b)).length ≤ 120 := Nat.le_trans (len_le b32_two (Nat.sub_le _ _)) q1
    have q7 : (dig B64 (val B64 a - val B64 b)).length ≤ 61 := Nat.le_trans (len_le b64_two (by omega)) q5
    by_cases hlt : val B64 a < val B64 b
    · have hc := cmpI_neg.2 hlt
      simp (disch := first | omega | assumption | with_reducible rfl) only [len_is, len_rs, len_nats, len_str, bind_s, i_add, i_sub, i_mul, i_add1, i_add2, i_add3, i_add8, i_sub1, i_sub2, i_mul2, i_mul4, i_mul8, i_lmul2, i_lmul4, i_lmul8, i_lmul32, i_quo2, i_rem2, i_quo4, i_rem4, i_quo8, i_rem8, i_quo32, i_rem32, bin_lss, bin_leq, bin_gtr, bin_geq, bin_eql, bin_neq, nat_lss, nat_leq, nat_gtr, nat_geq, nat_eql, nat_neq, v_add, v_sub, v_mul, v_conv, i_conv, u_quo, u_rem, u_shr, u_shl, nsidx_rs, nsidx_is, nsidx_nats, nstri, ld_rp, load_ip, rd_nl, st_rp, stc_nl, live_0, live_1, live_2, nmks, nmks0, nmm, nl_len, h_app, h_set0, h_set1, cond_y, cond_n, cond_t, cond_f, guard_ty, guard_tn, guard_fy, guard_fn, guard_tt, guard_tf, guard_ft, guard_ff, ext0, ext1, ext2, frz_nat, frz_bool, frz_int, bslc_0, bslc_1, bslc_2, Int.toNat_natCast, List.nil_append, List.length_nil, List.length_cons, Nat.zero_add, Nat.mul_one, List.length_set, ne_eq, eq_self, not_true_eq_false, not_false_eq_true, decide_true, decide_false, Decidable.not_not, un_notd, c_copied, c_split, c_cmp, c_add, c_subn, c_rcmp, c_radd, c_join, c_same]
      exact live_tail
    · have hc : ¬ cmpI (val B64 a) (val B64 b) < 0 := fun e => hlt (cmpI_neg.1 e)
      simp (disch := first | omega | assumption | with_reducible rfl) only [len_is, len_rs, len_nats, len_str, bind_s, i_add, i_sub, i_mul, i_add1, i_add2, i_add3, i_add8, i_sub1, i_sub2, i_mul2, i_mul4, i_mul8, i_lmul2, i_lmul4, i_lmul8, i_lmul32, i_quo2, i_rem2, i_quo4, i_rem4, i_quo8, i_rem8, i_quo32, i_rem32, bin_lss, bin_leq, bin_gtr, bin_geq, bin_eql, bin_neq, nat_lss, nat_leq, nat_gtr, nat_geq, nat_eql, nat_neq, v_add, v_sub, v_mul, v_conv, i_conv, u_quo, u_rem, u_shr, u_shl, nsidx_rs, nsidx_is, nsidx_nats, nstri, ld_rp, load_ip, rd_nl, st_rp, stc_nl, live_0, live_1, live_2, nmks, nmks0, nmm, nl_len, h_app, h_set0, h_set1, cond_y, cond_n, cond_t, cond_f, guard_ty, guard_tn, guard_fy, guard_fn, guard_tt, guard_tf, guard_ft, guard_ff, ext0, ext1, ext2, frz_nat, frz_bool, frz_int, bslc_0, bslc_1, bslc_2, Int.toNat_natCast, List.nil_append, List.length_nil, List.length_cons, Nat.zero_add, Nat.mul_one, List.length_set, ne_eq, eq_self, not_true_eq_false, not_false_eq_true, decide_true, decide_false, Decidable.not_not, un_notd, c_copied, c_split, c_cmp, c_add, c_sub, c_rcmp, c_radd, c_rsub, c_join, c_same]
      exact live_tail
  · simp (disch := first | omega | assumption) only [len_is, len_rs, len_nats, len_str, bind_s, i_add, i_sub, i_mul, i_add1, i_add2, i_add3, i_add8, i_sub1, i_sub2, i_mul2, i_mul4, i_mul8, i_lmul2, i_lmul4, i_lmul8, i_lmul32, i_quo2, i_rem2, i_quo4, i_rem4, i_quo8, i_rem8, i_quo32, i_rem32, bin_lss, bin_leq, bin_gtr, bin_geq, bin_eql, bin_neq, nat_lss, nat_leq, nat_gtr, nat_geq, nat_eql, nat_neq, v_add, v_sub, v_mul, v_conv, i_conv, u_quo, u_rem, u_shr, u_shl, nsidx_rs, nsidx_is, nsidx_nats, nstri, ld_rp, load_ip, rd_nl, st_rp, stc_nl, live_0, live_1, live_2, nmks, nmks0, nmm, nl_len, h_app, h_set0, h_set1, cond_y, cond_n, cond_t, cond_f, guard_ty, guard_tn, guard_fy, guard_fn, guard_tt, guard_tf, guard_ft, guard_ff, ext0, ext1, ext2, frz_nat, frz_bool, frz_int, bslc_0, bslc_1, bslc_2, Int.toNat_natCast, List.nil_append, List.length_nil, List.length_cons, Nat.zero_add, Nat.mul_one, List.length_set, ne_eq, eq_self, not_true_eq_false, not_false_eq_true, decide_true, decide_false, Decidable.not_not, un_notd]
    exact live_tail

theorem limbQuotients_cv (a b : List Nat) (ha : Dg B64 a) (hb : Dg B64 b) : cv gp fid.gussetlaw01_LimbQuotients [nats a, nats b] = some (.bool true) := by
  rw [gussetlaw01_LimbQuotients.eq]
  unfold gussetlaw01_LimbQuotients.f
  rw [c_small]
  by_cases hs : a.length ≤ 60 ∧ b.length ≤ 60
  · obtain ⟨h1, h2⟩ := hs
    have q1 := len32 ha h1
    have q2 := len32 hb h2
    have q3 := dig_len_le b64_two ha
    have q4 := dig_len_le b64_two hb
    by_cases h0 : val B64 b = 0
    · have q5 : (dig B32 (val B64 b)).length = 0 := by rw [h0, dig_zero]; rfl
      simp (disch := first | omega | assumption | with_reducible rfl) only [len_is, len_rs, len_nats, len_str, bind_s, i_add, i_sub, i_mul, i_add1, i_add2, i_add3, i_add8, i_sub1, i_sub2, i_mul2, i_mul4, i_mul8, i_lmul2, i_lmul4, i_lmul8, i_lmul32, i_quo2, i_rem2, i_quo4, i_rem4, i_quo8, i_rem8, i_quo32, i_rem32, bin_lss, bin_leq, bin_gtr, bin_geq, bin_eql, bin_neq, nat_lss, nat_leq, nat_gtr, nat_geq, nat_eql, nat_neq, v_add, v_sub, v_mul, v_conv, i_conv, u_quo, u_rem, u_shr, u_shl, nsidx_rs, nsidx_is, nsidx_nats, nstri, ld_rp, load_ip, rd_nl, st_rp, stc_nl, live_0, live_1, live_2, nmks, nmks0, nmm, nl_len, h_app, h_set0, h_set1, cond_y, cond_n, cond_t, cond_f, guard_ty, guard_tn, guard_fy, guard_fn, guard_tt, guard_tf, guard_ft, guard_ff, ext0, ext1, ext2, frz_nat, frz_bool, frz_int, bslc_0, bslc_1, bslc_2, Int.toNat_natCast, List.nil_append, List.length_nil, List.length_cons, Nat.zero_add, Nat.mul_one, List.length_set, ne_eq, eq_self, not_true_eq_false, not_false_eq_true, decide_true, decide_false, Decidable.not_not, un_notd, c_copied, c_split, c_dm0, c_same]
      exact live_tail
    · have q5 : (dig B32 (val B64 b)).length ≠ 0 := fun e => h0 ((dig_len_eq b32_two).1 e)
      have q6 := Nat.le_trans (len_le b32_two (Nat.div_le_self (val B64 a) (val B64 b))) q1
      have q7 := Nat.le_trans (len_le b32_two (Nat.mod_le (val B64 a) (val B64 b))) q1
      have q8 := Nat.le_trans (len_le b64_two (Nat.div_le_self (val B64 a) (val B64 b))) q3
      have q9 := Nat.le_trans (len_le b64_two (Nat.mod_le (val B64 a) (val B64 b))) q3
      simp (disch := first | omega | assumption | with_reducible rfl) only [len_is, len_rs, len_nats, len_str, bind_s, i_add, i_sub, i_mul, i_add1, i_add2, i_add3, i_add8, i_sub1, i_sub2, i_mul2, i_mul4, i_mul8, i_lmul2, i_lmul4, i_lmul8, i_lmul32, i_quo2, i_rem2, i_quo4, i_rem4, i_quo8, i_rem8, i_quo32, i_rem32, bin_lss, bin_leq, bin_gtr, bin_geq, bin_eql, bin_neq, nat_lss, nat_leq, nat_gtr, nat_geq, nat_eql, nat_neq, v_add, v_sub, v_mul, v_conv, i_conv, u_quo, u_rem, u_shr, u_shl, nsidx_rs, nsidx_is, nsidx_nats, nstri, ld_rp, load_ip, rd_nl, st_rp, stc_nl, live_0, live_1, live_2, nmks, nmks0, nmm, nl_len, h_app, h_set0, h_set1, cond_y, cond_n, cond_t, cond_f, guard_ty, guard_tn, guard_fy, guard_fn, guard_tt, guard_tf, guard_ft, guard_ff, ext0, ext1, ext2, frz_nat, frz_bool, frz_int, bslc_0, bslc_1, bslc_2, Int.toNat_natCast, List.nil_append, List.length_nil, List.length_cons, Nat.zero_add, Nat.mul_one, List.length_set, ne_eq, eq_self, not_true_eq_false, not_false_eq_true, decide_true, decide_false, Decidable.not_not, un_notd, c_copied, c_split, c_dm, c_rdm, c_join, c_same]
      exact live_tail
  · simp (disch := first | omega | assumption) only [len_is, len_rs, len_nats, len_str, bind_s, i_add, i_sub, i_mul, i_add1, i_add2, i_add3, i_add8, i_sub1, i_sub2, i_mul2, i_mul4, i_mul8, i_lmul2, i_lmul4, i_lmul8, i_lmul32, i_quo2, i_rem2, i_quo4, i_rem4, i_quo8, i_rem8, i_quo32, i_rem32, bin_lss, bin_leq, bin_gtr, bin_geq, bin_eql, bin_neq, nat_lss, nat_leq, nat_gtr, nat_geq, nat_eql, nat_neq, v_add, v_sub, v_mul, v_conv, i_conv, u_quo, u_rem, u_shr, u_shl, nsidx_rs, nsidx_is, nsidx_nats, nstri, ld_rp, load_ip, rd_nl, st_rp, stc_nl, live_0, live_1, live_2, nmks, nmks0, nmm, nl_len, h_app, h_set0, h_set1, cond_y, cond_n, cond_t, cond_f, guard_ty, guard_tn, guard_fy, guard_fn, guard_tt, guard_tf, guard_ft, guard_ff, ext0, ext1, ext2, frz_nat, frz_bool, frz_int, bslc_0, bslc_1, bslc_2, Int.toNat_natCast, List.nil_append, List.length_nil, List.length_cons, Nat.zero_add, Nat.mul_one, List.length_set, ne_eq, eq_self, not_true_eq_false, not_false_eq_true, decide_true, decide_false, Decidable.not_not, un_notd]
    exact live_tail

theorem limbNats_cv (s l : List Nat) (hs : ∀ x ∈ s, x < 256) (hl : Dg B64 l) : cv gp fid.gussetlaw01_LimbNats [str s, nats l] = some (.bool true) := by
  rw [gussetlaw01_LimbNats.eq]
  unfold gussetlaw01_LimbNats.f
  simp only [len_str, len_nats, bind_s, bin_gtr, guard_df, cond_d]
  split
  · exact live_tail
  split
  · exact live_tail
  rename_i h1 h2
  have q1 := len32 hl (n := 60) (by omega)
  rw [c_of hs, c_isNat hs, if_neg (by omega)]
  by_cases h0 : s.getD 0 1 = 0
  · have h00 : ¬ (¬ s.getD 0 1 = 0) := fun e => e h0
    rw [if_pos h0]
    simp (disch := first | omega | assumption | with_reducible rfl) only [len_is, len_rs, len_nats, len_str, bind_s, i_add, i_sub, i_mul, i_add1, i_add2, i_add3, i_add8, i_sub1, i_sub2, i_mul2, i_mul4, i_mul8, i_lmul2, i_lmul4, i_lmul8, i_lmul32, i_quo2, i_rem2, i_quo4, i_rem4, i_quo8, i_rem8, i_quo32, i_rem32, bin_lss, bin_leq, bin_gtr, bin_geq, bin_eql, bin_neq, nat_lss, nat_leq, nat_gtr, nat_geq, nat_eql, nat_neq, v_add, v_sub, v_mul, v_conv, i_conv, u_quo, u_rem, u_shr, u_shl, nsidx_rs, nsidx_is, nsidx_nats, nstri, ld_rp, load_ip, rd_nl, st_rp, stc_nl, live_0, live_1, live_2, nmks, nmks0, nmm, nl_len, h_app, h_set0, h_set1, cond_y, cond_n, cond_t, cond_f, guard_ty, guard_tn, guard_fy, guard_fn, guard_tt, guard_tf, guard_ft, guard_ff, ext0, ext1, ext2, frz_nat, frz_bool, frz_int, bslc_0, bslc_1, bslc_2, Int.toNat_natCast, List.nil_append, List.length_nil, List.length_cons, Nat.zero_add, Nat.mul_one, List.length_set, ne_eq, eq_self, not_true_eq_false, not_false_eq_true, decide_true, decide_false, Decidable.not_not, un_notd]
    exact live_tail
  · rw [if_neg h0]
    have hd : Dg 256 s.reverse := fun x hx => hs x (List.mem_reverse.1 hx)
    have q2 : (dig B32 (val 256 s.reverse)).length ≤ 500 := dig_len_lt b32_two (by
      have e1 := val_lt hd
      rw [List.length_reverse] at e1
      have e2 : 256 ^ s.length ≤ 256 ^ 500 := Nat.pow_le_pow_right (by decide) (by omega)
      have e3 : 256 ^ 500 ≤ B32 ^ 500 := Nat.pow_le_pow_left (by decide) 500
      omega)
    have q3 : (dig B64 (val 256 s.reverse)).length ≤ 500 := dig_len_lt b64_two (by
      have e1 := val_lt hd
      rw [List.length_reverse] at e1
      have e2 : 256 ^ s.length ≤ 256 ^ 500 := Nat.pow_le_pow_right (by decide) (by omega)
      have e3 : 256 ^ 500 ≤ B64 ^ 500 := Nat.pow_le_pow_left (by decide) 500
      omega)
    have hnb := nb_lt (val B64 l)
    simp (disch := first | omega | assumption | with_reducible rfl) only [len_is, len_rs, len_nats, len_str, bind_s, i_add, i_sub, i_mul, i_add1, i_add2, i_add3, i_add8, i_sub1, i_sub2, i_mul2, i_mul4, i_mul8, i_lmul2, i_lmul4, i_lmul8, i_lmul32, i_quo2, i_rem2, i_quo4, i_rem4, i_quo8, i_rem8, i_quo32, i_rem32, bin_lss, bin_leq, bin_gtr, bin_geq, bin_eql, bin_neq, nat_lss, nat_leq, nat_gtr, nat_geq, nat_eql, nat_neq, v_add, v_sub, v_mul, v_conv, i_conv, u_quo, u_rem, u_shr, u_shl, nsidx_rs, nsidx_is, nsidx_nats, nstri, ld_rp, load_ip, rd_nl, st_rp, stc_nl, live_0, live_1, live_2, nmks, nmks0, nmm, nl_len, h_app, h_set0, h_set1, cond_y, cond_n, cond_t, cond_f, guard_ty, guard_tn, guard_fy, guard_fn, guard_tt, guard_tf, guard_ft, guard_ff, ext0, ext1, ext2, frz_nat, frz_bool, frz_int, bslc_0, bslc_1, bslc_2, Int.toNat_natCast, List.nil_append, List.length_nil, List.length_cons, Nat.zero_add, Nat.mul_one, List.length_set, ne_eq, eq_self, not_true_eq_false, not_false_eq_true, decide_true, decide_false, Decidable.not_not, un_notd, c_nat, c_digits, c_join, c_same, c_split, c_rnat, str_eql]
    exact live_tail

theorem limbBack_cv (a b : List Nat) (ha : Dg B64 a) (hb : Dg B64 b) : cv gp fid.gussetlaw01_LimbBack [nats a, nats b] = some (.bool true) := by
  rw [gussetlaw01_LimbBack.eq]
  unfold gussetlaw01_LimbBack.f
  simp only [len_nats, bind_s, bin_gtr, guard_df, cond_d]
  split
  · exact live_tail
  split
  · exact live_tail
  rename_i h1 h2
  have d := fun n => dig_Dg b64_two n
  have d1 := d (val B64 a + val B64 b)
  have d2 := d (val B64 a)
  have v := fun n => val_dig b64_two n
  have hda := dig_len_le b64_two ha
  have hdb := dig_len_le b64_two hb
  have q1 : (dig B64 (val B64 a + val B64 b)).length ≤ 201 := len_add b64_two (n := 200) (by omega) (by omega)
  have hz := cmpI_self (val B64 a)
  have le1 : val B64 b ≤ val B64 (dig B64 (val B64 a + val B64 b)) := by rw [v]; omega
  have e1 : val B64 a + val B64 b - val B64 b = val B64 a := by omega
  have hn : Dg B64 ([] : List Nat) := .nil
  have hn2 : ([] : List Nat).length ≤ 4000 := by simp
  by_cases h0 : val B64 b = 0
  · have e2 : cmpI (val B64 b) (val B64 []) = 0 := by rw [h0]; rfl
    simp (disch := first | omega | assumption | with_reducible rfl) only [len_is, len_rs, len_nats, len_str, bind_s, i_add, i_sub, i_mul, i_add1, i_add2, i_add3, i_add8, i_sub1, i_sub2, i_mul2, i_mul4, i_mul8, i_lmul2, i_lmul4, i_lmul8, i_lmul32, i_quo2, i_rem2, i_quo4, i_rem4, i_quo8, i_rem8, i_quo32, i_rem32, bin_lss, bin_leq, bin_gtr, bin_geq, bin_eql, bin_neq, nat_lss, nat_leq, nat_gtr, nat_geq, nat_eql, nat_neq, v_add, v_sub, v_mul, v_conv, i_conv, u_quo, u_rem, u_shr, u_shl, nsidx_rs, nsidx_is, nsidx_nats, nstri, ld_rp, load_ip, rd_nl, st_rp, stc_nl, live_0, live_1, live_2, nmks, nmks0, nmm, nl_len, h_app, h_set0, h_set1, cond_y, cond_n, cond_t, cond_f, guard_ty, guard_tn, guard_fy, guard_fn, guard_tt, guard_tf, guard_ft, guard_ff, ext0, ext1, ext2, frz_nat, frz_bool, frz_int, bslc_0, bslc_1, bslc_2, Int.toNat_natCast, List.nil_append, List.length_nil, List.length_cons, Nat.zero_add, Nat.mul_one, List.length_set, ne_eq, eq_self, not_true_eq_false, not_false_eq_true, decide_true, decide_false, Decidable.not_not, c_add, c_sub, v, e1, c_cmp, hz, c_dm0]
    have e3 : byVal (callW gp) [] fid.limb_Cmp [nats b, .is 0 true []] = some (.tup [.int .i64 0, .int .i64 0]) := by
      refine byVal_nr (xs := [nats b, nats []]) (mapM2 (imm_nats.frz (by omega) _) rfl) ?_ (by
        have : noRef (nats b) = true := (imm_nats 12 (by omega)).1
        simp [this]; rfl)
      rw [limb_cmp b [] hb hn, if_neg (by simp; omega), e2]
    rw [e3]
    simp (disch := first | omega | assumption | with_reducible rfl) only [len_is, len_rs, len_nats, len_str, bind_s, i_add, i_sub, i_mul, i_add1, i_add2, i_add3, i_add8, i_sub1, i_sub2, i_mul2, i_mul4, i_mul8, i_lmul2, i_lmul4, i_lmul8, i_lmul32, i_quo2, i_rem2, i_quo4, i_rem4, i_quo8, i_rem8, i_quo32, i_rem32, bin_lss, bin_leq, bin_gtr, bin_geq, bin_eql, bin_neq, nat_lss, nat_leq, nat_gtr, nat_geq, nat_eql, nat_neq, v_add, v_sub, v_mul, v_conv, i_conv, u_quo, u_rem, u_shr, u_shl, nsidx_rs, nsidx_is, nsidx_nats, nstri, ld_rp, load_ip, rd_nl, st_rp, stc_nl, live_0, live_1, live_2, nmks, nmks0, nmm, nl_len, h_app, h_set0, h_set1, cond_y, cond_n, cond_t, cond_f, guard_ty, guard_tn, guard_fy, guard_fn, guard_tt, guard_tf, guard_ft, guard_ff, ext0, ext1, ext2, frz_nat, frz_bool, frz_int, bslc_0, bslc_1, bslc_2, Int.toNat_natCast, List.nil_append, List.length_nil, List.length_cons, Nat.zero_add, Nat.mul_one, List.length_set, ne_eq, eq_self, not_true_eq_false, not_false_eq_true, decide_true, decide_false, Decidable.not_not]
    exact live_tail
  · have hlt := Nat.mod_lt (val B64 a) (show 0 < val B64 b by omega)
    have hdm := Nat.div_add_mod' (val B64 a) (val B64 b)
    have d3 := d (val B64 a / val B64 b)
    have d4 := d (val B64 a % val B64 b)
    have d5 := d (val B64 a / val B64 b * val B64 b)
    have q2 := len_le b64_two (Nat.div_le_self (val B64 a) (val B64 b))
    have q3 := len_le b64_two (Nat.mod_le (val B64 a) (val B64 b))
    have q4 : (dig B64 (val B64 a / val B64 b * val B64 b)).length ≤ (dig B64 (val B64 a)).length := len_le b64_two (by omega)
    have hc : cmpI (val B64 a % val B64 b) (val B64 b) < 0 := cmpI_neg.2 hlt
    simp (disch := first | omega | assumption | with_reducible rfl) only [len_is, len_rs, len_nats, len_str, bind_s, i_add, i_sub, i_mul, i_add1, i_add2, i_add3, i_add8, i_sub1, i_sub2, i_mul2, i_mul4, i_mul8, i_lmul2, i_lmul4, i_lmul8, i_lmul32, i_quo2, i_rem2, i_quo4, i_rem4, i_quo8, i_rem8, i_quo32, i_rem32, bin_lss, bin_leq, bin_gtr, bin_geq, bin_eql, bin_neq, nat_lss, nat_leq, nat_gtr, nat_geq, nat_eql, nat_neq, v_add, v_sub, v_mul, v_conv, i_conv, u_quo, u_rem, u_shr, u_shl, nsidx_rs, nsidx_is, nsidx_nats, nstri, ld_rp, load_ip, rd_nl, st_rp, stc_nl, live_0, live_1, live_2, nmks, nmks0, nmm, nl_len, h_app, h_set0, h_set1, cond_y, cond_n, cond_t, cond_f, guard_ty, guard_tn, guard_fy, guard_fn, guard_tt, guard_tf, guard_ft, guard_ff, ext0, ext1, ext2, frz_nat, frz_bool, frz_int, bslc_0, bslc_1, bslc_2, Int.toNat_natCast, List.nil_append, List.length_nil, List.length_cons, Nat.zero_add, Nat.mul_one, List.length_set, ne_eq, eq_self, not_true_eq_false, not_false_eq_true, decide_true, decide_false, Decidable.not_not, c_add, c_sub, v, e1, c_cmp, hz, c_dm, c_mul, hdm]
    exact live_tail
end Go.Proofs.Ytlpimdkgboabcaa.Am
