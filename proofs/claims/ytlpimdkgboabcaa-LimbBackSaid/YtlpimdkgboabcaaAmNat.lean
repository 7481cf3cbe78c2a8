/- Strings and limbs, strings and digits. -/
import Derived.Test.YtlpimdkgboabcaaAmRef2
set_option linter.unusedVariables false
set_option linter.unusedSimpArgs false
namespace Go.Proofs.Ytlpimdkgboabcaa.Am
open Go

theorem len_ceil {x y w : Nat} (hw : 0 < w) (h : ∀ i, i < x ↔ w * i < y) : x = (y + (w - 1)) / w := by
  have h1 : ∀ i, i < x ↔ i < (y + (w - 1)) / w := fun i => by
    rw [h i, Nat.lt_iff_add_one_le, Nat.lt_iff_add_one_le, Nat.le_div_iff_mul_le hw, Nat.add_mul, Nat.one_mul, Nat.mul_comm i]
    omega
  rcases Nat.lt_trichotomy x ((y + (w - 1)) / w) with h2 | h2 | h2
  · exact absurd ((h1 x).2 h2) (by omega)
  · exact h2
  · exact absurd ((h1 _).1 h2) (by omega)
theorem dig_len_pow {B C w : Nat} (hB : 2 ≤ B) (hw : 0 < w) (hC : C = B ^ w) (n : Nat) : (dig C n).length = ((dig B n).length + (w - 1)) / w := by
  have hC2 : 2 ≤ C := by
    rw [hC]
    exact Nat.le_trans hB (Nat.le_trans (Nat.le_of_eq (Nat.pow_one B).symm) (Nat.pow_le_pow_right (n := B) (by omega) hw))
  refine len_ceil hw fun i => ?_
  rw [dig_len_gt hC2, dig_len_gt hB, hC, ← Nat.pow_mul]

theorem rev_set {l : List Nat} {i a : Nat} (h : i < l.length) : l.reverse.set (l.length - 1 - i) a = (l.set i a).reverse := by
  apply List.ext_getElem?
  intro j
  rw [List.getElem?_set]
  rcases Nat.lt_or_ge j l.length with hj | hj
  · rw [List.getElem?_reverse (by simpa using hj), List.getElem?_reverse (by simpa using hj), List.getElem?_set, List.length_set, List.length_reverse]
    by_cases e : l.length - 1 - i = j
    · rw [if_pos e, if_pos (by omega), if_pos (by omega), if_pos (by omega)]
    · rw [if_neg e, if_neg (by omega)]
  · rw [List.getElem?_eq_none (by simpa using hj), List.getElem?_eq_none (by simpa using hj), if_neg (by omega)]

theorem mod_succ (n i : Nat) : n % 256 ^ (i + 1) = n % 256 ^ i + 256 ^ i * (n / 256 ^ i % 256) := Nat.mod_pow_succ

theorem byte_at {n i w B : Nat} (hB : B = 256 ^ w) (hw : 0 < w) : n / B ^ (i / w) % B / 2 ^ (i % w * 8) % 256 = n / 256 ^ i % 256 := by
  have hi : i % w < w := Nat.mod_lt _ hw
  have e1 : 256 ^ i = B ^ (i / w) * 256 ^ (i % w) := by rw [hB, ← Nat.pow_mul, ← Nat.pow_add, Nat.div_add_mod]
  rw [e1, ← Nat.div_div_eq_div_mul]
  generalize n / B ^ (i / w) = x
  have e2 : (2 : Nat) ^ (i % w * 8) = 256 ^ (i % w) := by rw [Nat.mul_comm, Nat.pow_mul]
  rw [e2]
  generalize i % w = k at hi
  have e3 : B = 256 ^ k * (256 * 256 ^ (w - 1 - k)) := by
    rw [hB, ← Nat.pow_succ', ← Nat.pow_add]; congr 1; omega
  rw [e3, Nat.mod_mul_right_div_self]
  exact Nat.mod_mul_right_mod _ _ _

theorem i_shr {a n : Nat} (ha : a < 18446744073709551616) : opBin .shr (nat .u64 a) (.int .i64 (n : Int)) = some (nat .u64 (a / 2 ^ n)) := shr_core ha
theorem i_shl {a n : Nat} : opBin .shl (nat .u64 a) (.int .i64 (n : Int)) = some (nat .u64 ((a * 2 ^ n) % 18446744073709551616)) := shl_core

/-! ### limb.Of -/

theorem of_l0 {l : List Nat} (hl : ∀ x ∈ l, x < 256) (hn : l.length ≤ 32000) (h0 : l.getD 0 1 ≠ 0) : ∀ (k i : Nat) (cs : List Nat), i + k = l.length → cs.length = (l.length + 7) / 8 → Dg B64 cs → val B64 cs = val 256 (l.reverse.take i) →
    limb_Of.l0 (str l) (.rs 1 0 0 ((l.length + 7) / 8)) (.int .i64 l.length) (.int .i64 (i : Nat)) [some (nl .u64 cs)] = some (.tup [nats (dig B64 (val 256 l.reverse)), .int .i64 0]) := by
  intro k
  induction k with
  | zero =>
    intro i cs hik hcs hd hv
    rw [limb_Of.l0_eq]
    simp (disch := omega) only [len_is, len_rs, len_nats, len_str, bind_s, i_add, i_sub, i_mul, i_add1, i_add2, i_add3, i_add8, i_sub1, i_sub2, i_mul2, i_mul4, i_mul8, i_lmul2, i_lmul4, i_lmul8, i_lmul32, i_quo2, i_rem2, i_quo4, i_rem4, i_quo8, i_rem8, i_quo32, i_rem32, bin_lss, bin_leq, bin_gtr, bin_geq, bin_eql, bin_neq, nat_lss, nat_leq, nat_gtr, nat_geq, nat_eql, nat_neq, v_add, v_sub, v_mul, v_conv, i_conv, u_quo, u_rem, u_shr, u_shl, nsidx_rs, nsidx_is, nsidx_nats, nstri, ld_rp, load_ip, rd_nl, st_rp, stc_nl, live_0, live_1, live_2, nmks, nmks0, nmm, nl_len, h_app, h_set0, h_set1, cond_y, cond_n, cond_t, cond_f, guard_ty, guard_tn, guard_fy, guard_fn, guard_tt, guard_tf, guard_ft, guard_ff, ext0, ext1, ext2, frz_nat, frz_bool, frz_int, bslc_0, bslc_1, bslc_2, Int.toNat_natCast, List.nil_append, List.length_nil, List.length_cons, Nat.zero_add, Nat.mul_one, List.length_set]
    rw [List.take_of_length_le (by simp; omega)] at hv
    have hr : Row [some (nl .u64 cs)] .u64 (.rs 1 0 0 ((l.length + 7) / 8)) cs := own_row live_one hcs
    have hlen := dig_len_pow (B := 256) (C := B64) (w := 8) (by decide) (by omega) (by decide) (val 256 l.reverse)
    have hnb := nb_of hl h0
    have h8 : (dig 256 (val 256 l.reverse)).length = l.length := by rw [← nb_len, hnb]
    have e := eq_dig b64_two hd (by rw [tl_eq b64_two hd, hv, hlen, h8, hcs])
    rw [frz_ri hr, e, hv]
  | succ k ih =>
    intro i cs hik hcs hd hv
    rw [limb_Of.l0_eq]
    have hdr : Dg 256 l.reverse := fun x hx => hl x (List.mem_reverse.1 hx)
    have hb : l.reverse.getD i 0 < 256 := hdr.getD (by decide)
    have hV : val 256 (l.reverse.take i) < 256 ^ i := by
      have := val_lt (hdr.take i)
      rwa [List.length_take, Nat.min_eq_left (by simp; omega)] at this
    have hroom := byte_room (w := 8) (i := i) (by decide) (by omega) hd hv hV
    have hfit := byte_fits hb hroom (w := 8) (Nat.mod_lt _ (by omega))
    have e256 : (256 : Nat) ^ 8 = 18446744073709551616 := by decide
    rw [e256] at hfit
    have hidx : i / 8 < (l.length + 7) / 8 := by omega
    have hy := hd.l64 (i / 8)
    have hb2 : l.getD (l.length - 1 - i) 0 < 256 := by rw [rev_getD (by omega)]; exact hb
    simp (disch := first | omega | assumption) only [len_is, len_rs, len_nats, len_str, bind_s, i_add, i_sub, i_mul, i_add1, i_add2, i_add3, i_add8, i_sub1, i_sub2, i_mul2, i_mul4, i_mul8, i_lmul2, i_lmul4, i_lmul8, i_lmul32, i_quo2, i_rem2, i_quo4, i_rem4, i_quo8, i_rem8, i_quo32, i_rem32, bin_lss, bin_leq, bin_gtr, bin_geq, bin_eql, bin_neq, nat_lss, nat_leq, nat_gtr, nat_geq, nat_eql, nat_neq, v_add, v_sub, v_mul, v_conv, i_conv, u_quo, u_rem, u_shr, u_shl, nsidx_rs, nsidx_is, nsidx_nats, nstri, ld_rp, load_ip, rd_nl, st_rp, stc_nl, live_0, live_1, live_2, nmks, nmks0, nmm, nl_len, h_app, h_set0, h_set1, cond_y, cond_n, cond_t, cond_f, guard_ty, guard_tn, guard_fy, guard_fn, guard_tt, guard_tf, guard_ft, guard_ff, ext0, ext1, ext2, frz_nat, frz_bool, frz_int, bslc_0, bslc_1, bslc_2, Int.toNat_natCast, List.nil_append, List.length_nil, List.length_cons, Nat.zero_add, Nat.mul_one, List.length_set, i_shl]
    rw [rev_getD (by omega), Nat.mul_comm 8]
    generalize hbb : l.reverse.getD i 0 = b at *
    have e1 : b * 2 ^ (i % 8 * 8) % 18446744073709551616 = b * 2 ^ (i % 8 * 8) := Nat.mod_eq_of_lt (by omega)
    rw [e1, u_or hy (by omega), Nat.or_comm, or_add hroom, Nat.add_comm]
    simp (disch := first | omega | assumption) only [len_is, len_rs, len_nats, len_str, bind_s, i_add, i_sub, i_mul, i_add1, i_add2, i_add3, i_add8, i_sub1, i_sub2, i_mul2, i_mul4, i_mul8, i_lmul2, i_lmul4, i_lmul8, i_lmul32, i_quo2, i_rem2, i_quo4, i_rem4, i_quo8, i_rem8, i_quo32, i_rem32, bin_lss, bin_leq, bin_gtr, bin_geq, bin_eql, bin_neq, nat_lss, nat_leq, nat_gtr, nat_geq, nat_eql, nat_neq, v_add, v_sub, v_mul, v_conv, i_conv, u_quo, u_rem, u_shr, u_shl, nsidx_rs, nsidx_is, nsidx_nats, nstri, ld_rp, load_ip, rd_nl, st_rp, stc_nl, live_0, live_1, live_2, nmks, nmks0, nmm, nl_len, h_app, h_set0, h_set1, cond_y, cond_n, cond_t, cond_f, guard_ty, guard_tn, guard_fy, guard_fn, guard_tt, guard_tf, guard_ft, guard_ff, ext0, ext1, ext2, frz_nat, frz_bool, frz_int, bslc_0, bslc_1, bslc_2, Int.toNat_natCast, List.nil_append, List.length_nil, List.length_cons, Nat.zero_add, Nat.mul_one, List.length_set]
    refine ih (i + 1) _ (by omega) (by simpa using hcs) (hd.set hfit) ?_
    rw [val_set (b := b * 2 ^ (i % 8 * 8)) (by omega) rfl, hv, digit_shift (p := 0) 8 B64 (by decide) (by omega), val_take_succ', hbb, Nat.mul_comm]
theorem of_cv (l : List Nat) (hl : ∀ x ∈ l, x < 256) : cv gp fid.limb_Of [str l] = some (if 32000 < l.length then .tup [nats [], .int .i64 5] else if l.getD 0 1 = 0 then .tup [nats [], .int .i64 1] else .tup [nats (dig B64 (val 256 l.reverse)), .int .i64 0]) := by
  rw [limb_Of.eq]
  unfold limb_Of.f
  have j : l.length ≤ 32000 → l.getD 0 1 ≠ 0 → limb_Of.j0 (str l) = some (.tup [nats (dig B64 (val 256 l.reverse)), .int .i64 0]) := fun hn h0 => by
    unfold limb_Of.j0
    simp (disch := omega) only [len_is, len_rs, len_nats, len_str, bind_s, i_add, i_sub, i_mul, i_add1, i_add2, i_add3, i_add8, i_sub1, i_sub2, i_mul2, i_mul4, i_mul8, i_lmul2, i_lmul4, i_lmul8, i_lmul32, i_quo2, i_rem2, i_quo4, i_rem4, i_quo8, i_rem8, i_quo32, i_rem32, bin_lss, bin_leq, bin_gtr, bin_geq, bin_eql, bin_neq, nat_lss, nat_leq, nat_gtr, nat_geq, nat_eql, nat_neq, v_add, v_sub, v_mul, v_conv, i_conv, u_quo, u_rem, u_shr, u_shl, nsidx_rs, nsidx_is, nsidx_nats, nstri, ld_rp, load_ip, rd_nl, st_rp, stc_nl, live_0, live_1, live_2, nmks, nmks0, nmm, nl_len, h_app, h_set0, h_set1, cond_y, cond_n, cond_t, cond_f, guard_ty, guard_tn, guard_fy, guard_fn, guard_tt, guard_tf, guard_ft, guard_ff, ext0, ext1, ext2, frz_nat, frz_bool, frz_int, bslc_0, bslc_1, bslc_2, Int.toNat_natCast, List.nil_append, List.length_nil, List.length_cons, Nat.zero_add, Nat.mul_one, List.length_set]
    exact of_l0 hl hn h0 l.length 0 _ (by omega) (by simp) (Dg.replicate _ (by decide)) (by simp [val, val_zeros])
  simp only [len_is, len_rs, len_nats, len_str, bind_s, i_add, i_sub, i_mul, i_add1, i_add2, i_add3, i_add8, i_sub1, i_sub2, i_mul2, i_mul4, i_mul8, i_lmul2, i_lmul4, i_lmul8, i_lmul32, i_quo2, i_rem2, i_quo4, i_rem4, i_quo8, i_rem8, i_quo32, i_rem32, bin_lss, bin_leq, bin_gtr, bin_geq, bin_eql, bin_neq, nat_lss, nat_leq, nat_gtr, nat_geq, nat_eql, nat_neq, v_add, v_sub, v_mul, v_conv, i_conv, u_quo, u_rem, u_shr, u_shl, nsidx_rs, nsidx_is, nsidx_nats, nstri, ld_rp, load_ip, rd_nl, st_rp, stc_nl, live_0, live_1, live_2, nmks, nmks0, nmm, nl_len, h_app, h_set0, h_set1, cond_y, cond_n, cond_t, cond_f, guard_ty, guard_tn, guard_fy, guard_fn, guard_tt, guard_tf, guard_ft, guard_ff, ext0, ext1, ext2, frz_nat, frz_bool, frz_int, bslc_0, bslc_1, bslc_2, Int.toNat_natCast, List.nil_append, List.length_nil, List.length_cons, Nat.zero_add, Nat.mul_one, List.length_set, cond_d]
  by_cases h : 32000 < l.length
  · rw [if_pos (by omega), if_pos h]; exact frz_nil2
  · rw [if_neg (by omega), if_neg h, str_nil, str_neq hl (by simp)]
    simp only [bind_s, guard_dt]
    cases l with
    | nil => rw [if_neg (by simp), j (by simp) (by simp)]; rfl
    | cons x l =>
      rw [if_pos (by simp), stri_str hl (by omega) (by simp)]
      simp only [bind_s, nat_eql, cond_d]
      have e : ((x :: l).getD (Int.toNat 0) 0) = x := rfl
      have e2 : ((x :: l).getD 0 1) = x := rfl
      rw [e, e2]
      by_cases hx : x = 0
      · rw [if_pos hx, if_pos hx]; exact frz_nil2
      · rw [if_neg hx, if_neg hx]; exact j (by omega) (by rw [e2]; exact hx)
theorem of_nb (n : Nat) (hn : (nb n).length ≤ 32000) : cv gp fid.limb_Of [str (nb n)] = some (.tup [nats (dig B64 n), .int .i64 0]) := by
  rw [of_cv _ (nb_lt n), if_neg (by omega), if_neg, nb_val]
  by_cases h : n = 0
  · subst h; rw [nb_zero]; simp
  · have := nb_head h
    intro e
    apply this
    have hl : 0 < (nb n).length := by
      rcases Nat.eq_zero_or_pos (nb n).length with h2 | h2
      · exact absurd (nb_eq_nil.1 (List.length_eq_zero_iff.1 h2)) h
      · exact h2
    rw [List.getD_eq_getElem?_getD, List.getElem?_eq_getElem hl] at e ⊢
    exact e

/-! ### limb.Nat -/

theorem lnat_len {n : Nat} (h : n ≠ 0) : (dig 256 n).length + (64 - blen ((dig B64 n).getD ((dig B64 n).length - 1) 0)) / 8 = (dig B64 n).length * 8 := by
  have h1 : (dig B64 n).length ≠ 0 := fun e => h ((dig_len_eq b64_two).1 e)
  have h2 := dig_top b64_two h
  obtain ⟨m, hm⟩ : ∃ m, (dig B64 n).length = m + 1 := ⟨_, (Nat.succ_pred_eq_of_ne_zero h1).symm⟩
  have h3 := (dig_Dg b64_two n).getD (i := m) (by decide)
  rw [hm, Nat.add_sub_cancel] at h2 ⊢
  have etop : (dig B64 n).getD m 0 = n / 256 ^ (8 * m) := by
    have hs := dig_drop b64_two n m
    rw [drop_cons _ _ (by omega), List.drop_of_length_le (by omega)] at hs
    have e64 : B64 ^ m = 256 ^ (8 * m) := by rw [Nat.pow_mul]
    rw [e64] at hs
    have hv := val_dig b64_two (n / 256 ^ (8 * m))
    rw [← hs] at hv
    simpa [val] using hv
  rw [etop] at h2 h3 ⊢
  have hd := dig_drop (B := 256) (by decide) n (8 * m)
  have hdl := congrArg List.length hd
  rw [List.length_drop] at hdl
  have hpos : (dig 256 (n / 256 ^ (8 * m))).length ≠ 0 := fun e => h2 ((dig_len_eq (by decide)).1 e)
  generalize n / 256 ^ (8 * m) = top at *
  have hb : (dig 256 top).length = (blen top + (8 - 1)) / 8 := by
    refine len_ceil (by omega) fun i => ?_
    rw [dig_len_gt (by decide)]
    have e : (256 : Nat) ^ i = 2 ^ (8 * i) := by rw [Nat.pow_mul]
    rw [e]
    constructor
    · intro hle
      rcases Nat.lt_or_ge (8 * i) (blen top) with h4 | h4
      · exact h4
      · have h5 := blen_lt top
        have h6 : (2 : Nat) ^ blen top ≤ 2 ^ (8 * i) := Nat.pow_le_pow_right (by omega) h4
        omega
    · intro hlt
      have h5 := le_blen h2
      have h6 : (2 : Nat) ^ (8 * i) ≤ 2 ^ (blen top - 1) := Nat.pow_le_pow_right (by omega) (by omega)
      omega
  have hbl : blen top ≤ 64 := blen_le h3
  omega

theorem lnat_l0 {n : Nat} {x : AV} {id : Nat} (hn : (dig 256 n).length ≤ 32000) (hx : ∀ h', Row h' .u64 x (dig B64 n)) : ∀ (k i : Nat) (r : List Nat), i + k = (dig 256 n).length → r.length = (dig 256 n).length → Dg 256 r → val 256 (r.take i) = n % 256 ^ i →
    limb_Nat.l0 x (.int .i64 (dig 256 n).length) (.rs 1 0 0 (dig 256 n).length) (.int .i64 (dig 256 n).length) (.int .i64 (i : Nat)) [some (nl .u8 r.reverse)] = some (.tup [str (nb n), .int .i64 0]) := by
  intro k
  induction k with
  | zero =>
    intro i r hik hr hd hv
    rw [limb_Nat.l0_eq]
    simp (disch := omega) only [len_is, len_rs, len_nats, len_str, bind_s, i_add, i_sub, i_mul, i_add1, i_add2, i_add3, i_add8, i_sub1, i_sub2, i_mul2, i_mul4, i_mul8, i_lmul2, i_lmul4, i_lmul8, i_lmul32, i_quo2, i_rem2, i_quo4, i_rem4, i_quo8, i_rem8, i_quo32, i_rem32, bin_lss, bin_leq, bin_gtr, bin_geq, bin_eql, bin_neq, nat_lss, nat_leq, nat_gtr, nat_geq, nat_eql, nat_neq, v_add, v_sub, v_mul, v_conv, i_conv, u_quo, u_rem, u_shr, u_shl, nsidx_rs, nsidx_is, nsidx_nats, nstri, ld_rp, load_ip, rd_nl, st_rp, stc_nl, live_0, live_1, live_2, nmks, nmks0, nmm, nl_len, h_app, h_set0, h_set1, cond_y, cond_n, cond_t, cond_f, guard_ty, guard_tn, guard_fy, guard_fn, guard_tt, guard_tf, guard_ft, guard_ff, ext0, ext1, ext2, frz_nat, frz_bool, frz_int, bslc_0, bslc_1, bslc_2, Int.toNat_natCast, List.nil_append, List.length_nil, List.length_cons, Nat.zero_add, Nat.mul_one, List.length_set]
    have hrow : Row [some (nl .u8 r.reverse)] .u8 (.rs 1 0 0 (dig 256 n).length) r.reverse := own_row live_one (by simpa using hr)
    rw [hrow.b2s]
    simp only [bind_s]
    rw [List.take_of_length_le (by omega), show i = (dig 256 n).length by omega, Nat.mod_eq_of_lt (lt_of_dig_len (by decide))] at hv
    have e : r = dig 256 n := val_inj hd (dig_Dg (by decide) n) hr (by rw [hv, val_dig (by decide)])
    rw [e]
    rfl
  | succ k ih =>
    intro i r hik hr hd hv
    rw [limb_Nat.l0_eq]
    have h64 := dig_len_pow (B := 256) (C := B64) (w := 8) (by decide) (by omega) (by decide) n
    have hidx : i / 8 < (dig B64 n).length := by omega
    have hrl : r.reverse.length = r.length := List.length_reverse
    have hb := (dig_Dg b64_two n).l64 (i / 8)
    simp (disch := first | omega | assumption) only [len_is, len_rs, len_nats, len_str, bind_s, i_add, i_sub, i_mul, i_add1, i_add2, i_add3, i_add8, i_sub1, i_sub2, i_mul2, i_mul4, i_mul8, i_lmul2, i_lmul4, i_lmul8, i_lmul32, i_quo2, i_rem2, i_quo4, i_rem4, i_quo8, i_rem8, i_quo32, i_rem32, bin_lss, bin_leq, bin_gtr, bin_geq, bin_eql, bin_neq, nat_lss, nat_leq, nat_gtr, nat_geq, nat_eql, nat_neq, v_add, v_sub, v_mul, v_conv, i_conv, u_quo, u_rem, u_shr, u_shl, nsidx_rs, nsidx_is, nsidx_nats, nstri, ld_rp, load_ip, rd_nl, st_rp, stc_nl, live_0, live_1, live_2, nmks, nmks0, nmm, nl_len, h_app, h_set0, h_set1, cond_y, cond_n, cond_t, cond_f, guard_ty, guard_tn, guard_fy, guard_fn, guard_tt, guard_tf, guard_ft, guard_ff, ext0, ext1, ext2, frz_nat, frz_bool, frz_int, bslc_0, bslc_1, bslc_2, Int.toNat_natCast, List.nil_append, List.length_nil, List.length_cons, Nat.zero_add, Nat.mul_one, List.length_set]
    rw [(hx _).rdn hidx]
    simp (disch := first | omega | assumption) only [len_is, len_rs, len_nats, len_str, bind_s, i_add, i_sub, i_mul, i_add1, i_add2, i_add3, i_add8, i_sub1, i_sub2, i_mul2, i_mul4, i_mul8, i_lmul2, i_lmul4, i_lmul8, i_lmul32, i_quo2, i_rem2, i_quo4, i_rem4, i_quo8, i_rem8, i_quo32, i_rem32, bin_lss, bin_leq, bin_gtr, bin_geq, bin_eql, bin_neq, nat_lss, nat_leq, nat_gtr, nat_geq, nat_eql, nat_neq, v_add, v_sub, v_mul, v_conv, i_conv, u_quo, u_rem, u_shr, u_shl, nsidx_rs, nsidx_is, nsidx_nats, nstri, ld_rp, load_ip, rd_nl, st_rp, stc_nl, live_0, live_1, live_2, nmks, nmks0, nmm, nl_len, h_app, h_set0, h_set1, cond_y, cond_n, cond_t, cond_f, guard_ty, guard_tn, guard_fy, guard_fn, guard_tt, guard_tf, guard_ft, guard_ff, ext0, ext1, ext2, frz_nat, frz_bool, frz_int, bslc_0, bslc_1, bslc_2, Int.toNat_natCast, List.nil_append, List.length_nil, List.length_cons, Nat.zero_add, Nat.mul_one, List.length_set, i_shr, conv_ub, List.length_reverse]
    rw [Nat.mul_comm 8, dig_getD b64_two, byte_at (w := 8) (by decide) (by omega)]
    rw [← hr, rev_set (by omega), hr]
    refine ih (i + 1) _ (by omega) (by simpa using hr) (hd.set (Nat.mod_lt _ (by omega))) ?_
    rw [set_take_succ _ _ _ (by omega), val_snoc, List.length_take, Nat.min_eq_left (by omega), hv, mod_succ]
theorem lnat_cv (l : List Nat) (hl : Dg B64 l) : cv gp fid.limb_Nat [nats l] = some (if 4000 < l.length then .tup [str [], .int .i64 5] else .tup [str (nb (val B64 l)), .int .i64 0]) := by
  rw [limb_Nat.eq]
  unfold limb_Nat.f
  have e1 : opBslc 1 1 [.is 0 true []] [(0, nats l)] = some (.is 1 true [nats l]) := bslc_rows1
  have e2 : byVal (callW gp) [] fid.limb_long [.is 1 true [nats l]] = some (.bool (decide (4000 < l.length))) := by
    refine byVal_nr (xs := [.is 1 false [nats l]]) ?_ (long1 l) ?_
    · have h1 : freeze [] (.is 1 true [nats l]) = some (.is 1 false [nats l]) := by
        show freezeN 12 [] (.is 1 true [nats l]) = _
        rw [fz_is, List.mapM_cons, (imm_nats (l := l) 11 (by omega)).2 []]; rfl
      exact mapM1 h1
    · have h2 : noRef (.is 1 true [nats l]) = true := imm_all (fun c hc => by rw [List.mem_singleton.1 hc]; exact imm_nats) (n := 11) (d := 2) (by omega)
      simp [h2]
  rw [e1, bind_s, e2, bind_s, cond_d]
  split
  · rfl
  · rename_i hn
    obtain ⟨e3, r⟩ := trimmed (Row.nats [] l) (by omega) hl
    rw [e3, bind_s]
    rw [r.len]
    simp only [bind_s, bin_eql, cond_d]
    have hlen := dig_len_le b64_two hl
    by_cases h0 : val B64 l = 0
    · rw [if_pos (by rw [h0, dig_zero]; rfl), h0, nb_zero]; rfl
    · have h1 : (dig B64 (val B64 l)).length ≠ 0 := fun e => h0 ((dig_len_eq b64_two).1 e)
      rw [if_neg (by omega)]
      simp (disch := omega) only [len_is, len_rs, len_nats, len_str, bind_s, i_add, i_sub, i_mul, i_add1, i_add2, i_add3, i_add8, i_sub1, i_sub2, i_mul2, i_mul4, i_mul8, i_lmul2, i_lmul4, i_lmul8, i_lmul32, i_quo2, i_rem2, i_quo4, i_rem4, i_quo8, i_rem8, i_quo32, i_rem32, bin_lss, bin_leq, bin_gtr, bin_geq, bin_eql, bin_neq, nat_lss, nat_leq, nat_gtr, nat_geq, nat_eql, nat_neq, v_add, v_sub, v_mul, v_conv, i_conv, u_quo, u_rem, u_shr, u_shl, nsidx_rs, nsidx_is, nsidx_nats, nstri, ld_rp, load_ip, rd_nl, st_rp, stc_nl, live_0, live_1, live_2, nmks, nmks0, nmm, nl_len, h_app, h_set0, h_set1, cond_y, cond_n, cond_t, cond_f, guard_ty, guard_tn, guard_fy, guard_fn, guard_tt, guard_tf, guard_ft, guard_ff, ext0, ext1, ext2, frz_nat, frz_bool, frz_int, bslc_0, bslc_1, bslc_2, Int.toNat_natCast, List.nil_append, List.length_nil, List.length_cons, Nat.zero_add, Nat.mul_one, List.length_set]
      rw [r.rdn (by omega)]
      have hb := (dig_Dg b64_two (val B64 l)).getD (i := (dig B64 (val B64 l)).length - 1) (by decide)
      rw [lz_by hb]
      have hll := lnat_len h0
      have e4 : (dig B64 (val B64 l)).length * 8 - (64 - blen ((dig B64 (val B64 l)).getD ((dig B64 (val B64 l)).length - 1) 0)) / 8 = (dig 256 (val B64 l)).length := by omega
      simp (disch := omega) only [len_is, len_rs, len_nats, len_str, bind_s, i_add, i_sub, i_mul, i_add1, i_add2, i_add3, i_add8, i_sub1, i_sub2, i_mul2, i_mul4, i_mul8, i_lmul2, i_lmul4, i_lmul8, i_lmul32, i_quo2, i_rem2, i_quo4, i_rem4, i_quo8, i_rem8, i_quo32, i_rem32, bin_lss, bin_leq, bin_gtr, bin_geq, bin_eql, bin_neq, nat_lss, nat_leq, nat_gtr, nat_geq, nat_eql, nat_neq, v_add, v_sub, v_mul, v_conv, i_conv, u_quo, u_rem, u_shr, u_shl, nsidx_rs, nsidx_is, nsidx_nats, nstri, ld_rp, load_ip, rd_nl, st_rp, stc_nl, live_0, live_1, live_2, nmks, nmks0, nmm, nl_len, h_app, h_set0, h_set1, cond_y, cond_n, cond_t, cond_f, guard_ty, guard_tn, guard_fy, guard_fn, guard_tt, guard_tf, guard_ft, guard_ff, ext0, ext1, ext2, frz_nat, frz_bool, frz_int, bslc_0, bslc_1, bslc_2, Int.toNat_natCast, List.nil_append, List.length_nil, List.length_cons, Nat.zero_add, Nat.mul_one, List.length_set]
      rw [e4]
      have hx : ∀ h', Row h' .u64 ((nats l).cut (tl l)) (dig B64 (val B64 l)) := fun h' => by
        rw [← take_tl b64_two hl]
        exact (Row.nats h' l).cut (tl_le l)
      have := lnat_l0 (id := 0) (by omega) hx (dig 256 (val B64 l)).length 0 (List.replicate (dig 256 (val B64 l)).length 0) (by omega) (by simp) (Dg.replicate _ (by decide)) (by simp [val, Nat.mod_one])
      rw [List.reverse_replicate] at this
      exact this

/-! ### gussetref01.Nat -/

theorem rnat_l1 {r : List Nat} (hd : Dg 256 r) (hn : r.length ≤ 1000000) : ∀ (m : Nat), m ≤ r.length → tl (r.take m) = tl r →
    gussetref01_Nat.l1 (.rs 1 0 0 r.length) (.int .i64 ((r.length - m : Nat) : Int)) [some (nl .u8 r.reverse)] = some (str (nb (val 256 r))) := by
  intro m
  have fin : ∀ m, m ≤ r.length → tl r = m → ((opSlc 1 (.rs 1 0 0 r.length) (some (.int .i64 ((r.length - m : Nat) : Int))) none none).bind fun v27 => (opB2s [some (nl .u8 r.reverse)] v27).bind fun v28 => freeze [some (nl .u8 r.reverse)] v28) = some (str (nb (val 256 r))) := fun m hm ht => by
    rw [slc_rsl (by omega) (by omega)]
    simp only [bind_s, Nat.zero_add, Nat.mul_one, Int.toNat_natCast]
    have hp : Row [some (nl .u8 r.reverse)] .u8 (.rs 1 0 (r.length - m) (r.length - (r.length - m))) ((r.reverse.drop (r.length - m)).take (r.length - (r.length - m))) := Row.part live_one (by simp)
    rw [hp.b2s]
    simp only [bind_s]
    rw [List.take_of_length_le (by simp), List.drop_reverse, show r.length - (r.length - m) = tl r by omega, take_tl (by decide) hd]
    rfl
  induction m with
  | zero =>
    intro hm ht
    rw [gussetref01_Nat.l1_eq]
    simp (disch := omega) only [len_is, len_rs, len_nats, len_str, bind_s, i_add, i_sub, i_mul, i_add1, i_add2, i_add3, i_add8, i_sub1, i_sub2, i_mul2, i_mul4, i_mul8, i_lmul2, i_lmul4, i_lmul8, i_lmul32, i_quo2, i_rem2, i_quo4, i_rem4, i_quo8, i_rem8, i_quo32, i_rem32, bin_lss, bin_leq, bin_gtr, bin_geq, bin_eql, bin_neq, nat_lss, nat_leq, nat_gtr, nat_geq, nat_eql, nat_neq, v_add, v_sub, v_mul, v_conv, i_conv, u_quo, u_rem, u_shr, u_shl, nsidx_rs, nsidx_is, nsidx_nats, nstri, ld_rp, load_ip, rd_nl, st_rp, stc_nl, live_0, live_1, live_2, nmks, nmks0, nmm, nl_len, h_app, h_set0, h_set1, cond_y, cond_n, cond_t, cond_f, guard_ty, guard_tn, guard_fy, guard_fn, guard_tt, guard_tf, guard_ft, guard_ff, ext0, ext1, ext2, frz_nat, frz_bool, frz_int, bslc_0, bslc_1, bslc_2, Int.toNat_natCast, List.nil_append, List.length_nil, List.length_cons, Nat.zero_add, Nat.mul_one, List.length_set]
    exact fin 0 (by omega) (by rw [← ht]; rfl)
  | succ m ih =>
    intro hm ht
    rw [gussetref01_Nat.l1_eq]
    simp (disch := omega) only [len_is, len_rs, len_nats, len_str, bind_s, i_add, i_sub, i_mul, i_add1, i_add2, i_add3, i_add8, i_sub1, i_sub2, i_mul2, i_mul4, i_mul8, i_lmul2, i_lmul4, i_lmul8, i_lmul32, i_quo2, i_rem2, i_quo4, i_rem4, i_quo8, i_rem8, i_quo32, i_rem32, bin_lss, bin_leq, bin_gtr, bin_geq, bin_eql, bin_neq, nat_lss, nat_leq, nat_gtr, nat_geq, nat_eql, nat_neq, v_add, v_sub, v_mul, v_conv, i_conv, u_quo, u_rem, u_shr, u_shl, nsidx_rs, nsidx_is, nsidx_nats, nstri, ld_rp, load_ip, rd_nl, st_rp, stc_nl, live_0, live_1, live_2, nmks, nmks0, nmm, nl_len, h_app, h_set0, h_set1, cond_y, cond_n, cond_t, cond_f, guard_ty, guard_tn, guard_fy, guard_fn, guard_tt, guard_tf, guard_ft, guard_ff, ext0, ext1, ext2, frz_nat, frz_bool, frz_int, bslc_0, bslc_1, bslc_2, Int.toNat_natCast, List.nil_append, List.length_nil, List.length_cons, Nat.zero_add, Nat.mul_one, List.length_set, List.length_reverse]
    rw [rd_nl (by simp; omega)]
    simp only [nat_eql, bind_s, cond_d]
    have e : r.reverse.getD (r.length - (m + 1)) 0 = r.getD m 0 := by
      have := rev_getD (l := r.reverse) (i := m) (by simp; omega)
      rw [List.reverse_reverse, List.length_reverse] at this
      rw [← this]; congr 1; omega
    rw [e]
    rw [tl_take r m (by omega)] at ht
    split
    · rename_i h0
      rw [if_pos h0] at ht
      try simp (disch := omega) only [len_is, len_rs, len_nats, len_str, bind_s, i_add, i_sub, i_mul, i_add1, i_add2, i_add3, i_add8, i_sub1, i_sub2, i_mul2, i_mul4, i_mul8, i_lmul2, i_lmul4, i_lmul8, i_lmul32, i_quo2, i_rem2, i_quo4, i_rem4, i_quo8, i_rem8, i_quo32, i_rem32, bin_lss, bin_leq, bin_gtr, bin_geq, bin_eql, bin_neq, nat_lss, nat_leq, nat_gtr, nat_geq, nat_eql, nat_neq, v_add, v_sub, v_mul, v_conv, i_conv, u_quo, u_rem, u_shr, u_shl, nsidx_rs, nsidx_is, nsidx_nats, nstri, ld_rp, load_ip, rd_nl, st_rp, stc_nl, live_0, live_1, live_2, nmks, nmks0, nmm, nl_len, h_app, h_set0, h_set1, cond_y, cond_n, cond_t, cond_f, guard_ty, guard_tn, guard_fy, guard_fn, guard_tt, guard_tf, guard_ft, guard_ff, ext0, ext1, ext2, frz_nat, frz_bool, frz_int, bslc_0, bslc_1, bslc_2, Int.toNat_natCast, List.nil_append, List.length_nil, List.length_cons, Nat.zero_add, Nat.mul_one, List.length_set]
      rw [show r.length - (m + 1) + 1 = r.length - m by omega]
      exact ih (by omega) ht
    · rename_i h0
      rw [if_neg h0] at ht
      exact fin (m + 1) hm ht.symm

theorem rnat_l0 {n : Nat} {x : AV} (hn : (dig B32 n).length ≤ 100000) (hx : ∀ h', Row h' .u64 x (dig B32 n)) : ∀ (k i : Nat) (r : List Nat), i + k = 4 * (dig B32 n).length → r.length = 4 * (dig B32 n).length → Dg 256 r → val 256 (r.take i) = n % 256 ^ i →
    gussetref01_Nat.l0 x (.rs 1 0 0 (4 * (dig B32 n).length)) (.int .i64 (i : Nat)) [some (nl .u8 r.reverse)] = some (str (nb n)) := by
  intro k
  induction k with
  | zero =>
    intro i r hik hr hd hv
    rw [gussetref01_Nat.l0_eq]
    simp (disch := omega) only [len_is, len_rs, len_nats, len_str, bind_s, i_add, i_sub, i_mul, i_add1, i_add2, i_add3, i_add8, i_sub1, i_sub2, i_mul2, i_mul4, i_mul8, i_lmul2, i_lmul4, i_lmul8, i_lmul32, i_quo2, i_rem2, i_quo4, i_rem4, i_quo8, i_rem8, i_quo32, i_rem32, bin_lss, bin_leq, bin_gtr, bin_geq, bin_eql, bin_neq, nat_lss, nat_leq, nat_gtr, nat_geq, nat_eql, nat_neq, v_add, v_sub, v_mul, v_conv, i_conv, u_quo, u_rem, u_shr, u_shl, nsidx_rs, nsidx_is, nsidx_nats, nstri, ld_rp, load_ip, rd_nl, st_rp, stc_nl, live_0, live_1, live_2, nmks, nmks0, nmm, nl_len, h_app, h_set0, h_set1, cond_y, cond_n, cond_t, cond_f, guard_ty, guard_tn, guard_fy, guard_fn, guard_tt, guard_tf, guard_ft, guard_ff, ext0, ext1, ext2, frz_nat, frz_bool, frz_int, bslc_0, bslc_1, bslc_2, Int.toNat_natCast, List.nil_append, List.length_nil, List.length_cons, Nat.zero_add, Nat.mul_one, List.length_set]
    have hlt : n < 256 ^ (4 * (dig B32 n).length) := by
      have := lt_of_dig_len b32_two (n := n)
      rw [Nat.pow_mul]; exact this
    rw [List.take_of_length_le (by omega), show i = 4 * (dig B32 n).length by omega, Nat.mod_eq_of_lt hlt] at hv
    have := rnat_l1 hd (by omega) r.length (Nat.le_refl _) (by rw [List.take_length])
    rw [Nat.sub_self, hv, hr] at this
    exact this
  | succ k ih =>
    intro i r hik hr hd hv
    rw [gussetref01_Nat.l0_eq]
    have hidx : i / 4 < (dig B32 n).length := by omega
    have hrl : r.reverse.length = r.length := List.length_reverse
    have hb := (dig_Dg b32_two n).l32 (i / 4)
    simp (disch := first | omega | assumption) only [len_is, len_rs, len_nats, len_str, bind_s, i_add, i_sub, i_mul, i_add1, i_add2, i_add3, i_add8, i_sub1, i_sub2, i_mul2, i_mul4, i_mul8, i_lmul2, i_lmul4, i_lmul8, i_lmul32, i_quo2, i_rem2, i_quo4, i_rem4, i_quo8, i_rem8, i_quo32, i_rem32, bin_lss, bin_leq, bin_gtr, bin_geq, bin_eql, bin_neq, nat_lss, nat_leq, nat_gtr, nat_geq, nat_eql, nat_neq, v_add, v_sub, v_mul, v_conv, i_conv, u_quo, u_rem, u_shr, u_shl, nsidx_rs, nsidx_is, nsidx_nats, nstri, ld_rp, load_ip, rd_nl, st_rp, stc_nl, live_0, live_1, live_2, nmks, nmks0, nmm, nl_len, h_app, h_set0, h_set1, cond_y, cond_n, cond_t, cond_f, guard_ty, guard_tn, guard_fy, guard_fn, guard_tt, guard_tf, guard_ft, guard_ff, ext0, ext1, ext2, frz_nat, frz_bool, frz_int, bslc_0, bslc_1, bslc_2, Int.toNat_natCast, List.nil_append, List.length_nil, List.length_cons, Nat.zero_add, Nat.mul_one, List.length_set]
    rw [(hx _).rdn hidx]
    simp (disch := first | omega | assumption) only [len_is, len_rs, len_nats, len_str, bind_s, i_add, i_sub, i_mul, i_add1, i_add2, i_add3, i_add8, i_sub1, i_sub2, i_mul2, i_mul4, i_mul8, i_lmul2, i_lmul4, i_lmul8, i_lmul32, i_quo2, i_rem2, i_quo4, i_rem4, i_quo8, i_rem8, i_quo32, i_rem32, bin_lss, bin_leq, bin_gtr, bin_geq, bin_eql, bin_neq, nat_lss, nat_leq, nat_gtr, nat_geq, nat_eql, nat_neq, v_add, v_sub, v_mul, v_conv, i_conv, u_quo, u_rem, u_shr, u_shl, nsidx_rs, nsidx_is, nsidx_nats, nstri, ld_rp, load_ip, rd_nl, st_rp, stc_nl, live_0, live_1, live_2, nmks, nmks0, nmm, nl_len, h_app, h_set0, h_set1, cond_y, cond_n, cond_t, cond_f, guard_ty, guard_tn, guard_fy, guard_fn, guard_tt, guard_tf, guard_ft, guard_ff, ext0, ext1, ext2, frz_nat, frz_bool, frz_int, bslc_0, bslc_1, bslc_2, Int.toNat_natCast, List.nil_append, List.length_nil, List.length_cons, Nat.zero_add, Nat.mul_one, List.length_set, conv_ub, List.length_reverse]
    rw [dig_getD b32_two, byte_at (w := 4) (by decide) (by omega)]
    rw [← hr, rev_set (by omega), hr]
    refine ih (i + 1) _ (by omega) (by simpa using hr) (hd.set (Nat.mod_lt _ (by omega))) ?_
    rw [set_take_succ _ _ _ (by omega), val_snoc, List.length_take, Nat.min_eq_left (by omega), hv, mod_succ]
theorem rnat_cv (n : Nat) (hn : (dig B32 n).length ≤ 100000) : cv gp fid.gussetref01_Nat [nats (dig B32 n)] = some (str (nb n)) := by
  rw [gussetref01_Nat.eq]
  unfold gussetref01_Nat.f
  have hr : ∀ h, Row h .u64 (nats (dig B32 n)) (dig B32 n) := fun h => Row.nats h _
  rw [trim_run (hr []) (by omega), bind_s]
  have hx : ∀ h, Row h .u64 ((nats (dig B32 n)).cut2 (tl (dig B32 n))) (dig B32 n) := fun h => by
    have := trim_row b32_two (hr h) (dig_Dg b32_two n)
    rwa [val_dig b32_two] at this
  rw [(hx []).len]
  simp (disch := omega) only [len_is, len_rs, len_nats, len_str, bind_s, i_add, i_sub, i_mul, i_add1, i_add2, i_add3, i_add8, i_sub1, i_sub2, i_mul2, i_mul4, i_mul8, i_lmul2, i_lmul4, i_lmul8, i_lmul32, i_quo2, i_rem2, i_quo4, i_rem4, i_quo8, i_rem8, i_quo32, i_rem32, bin_lss, bin_leq, bin_gtr, bin_geq, bin_eql, bin_neq, nat_lss, nat_leq, nat_gtr, nat_geq, nat_eql, nat_neq, v_add, v_sub, v_mul, v_conv, i_conv, u_quo, u_rem, u_shr, u_shl, nsidx_rs, nsidx_is, nsidx_nats, nstri, ld_rp, load_ip, rd_nl, st_rp, stc_nl, live_0, live_1, live_2, nmks, nmks0, nmm, nl_len, h_app, h_set0, h_set1, cond_y, cond_n, cond_t, cond_f, guard_ty, guard_tn, guard_fy, guard_fn, guard_tt, guard_tf, guard_ft, guard_ff, ext0, ext1, ext2, frz_nat, frz_bool, frz_int, bslc_0, bslc_1, bslc_2, Int.toNat_natCast, List.nil_append, List.length_nil, List.length_cons, Nat.zero_add, Nat.mul_one, List.length_set]
  have := rnat_l0 hn hx (4 * (dig B32 n).length) 0 (List.replicate (4 * (dig B32 n).length) 0) (by omega) (by simp) (Dg.replicate _ (by decide)) (by simp [val, Nat.mod_one])
  rw [List.reverse_replicate] at this
  exact this

end Go.Proofs.Ytlpimdkgboabcaa.Am
