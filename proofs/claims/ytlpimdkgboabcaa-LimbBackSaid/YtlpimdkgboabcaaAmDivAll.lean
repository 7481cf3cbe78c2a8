/- limb.DivMod. -/
import Derived.Test.YtlpimdkgboabcaaAmDivMod
set_option linter.unusedVariables false
set_option linter.unusedSimpArgs false
namespace Go.Proofs.Ytlpimdkgboabcaa.Am
open Go

/-- A call by value that gets no block of the heap. -/
theorem byVal_nr {G : Prog} {h : Heap} {f : Nat} {args xs : List AV} {v : AV} (ha : args.mapM (freeze h) = some xs) (hc : cv G f xs = some v) (hn : args.all noRef = true) : byVal (callW G) h f args = some v := by
  rw [byVal_cv, ha]
  simp only [bind_s, hc, hn, Bool.true_or, if_true]

theorem lz_by {h : Heap} {x : Nat} (hx : x < B64) : byVal (callW gp) h fid.bits_LeadingZeros64 [nat .u64 x] = some (.int .i64 ((64 - blen x : Nat) : Int)) :=
  byVal_imm (imm_l1 imm_nat (by omega)) (lz64 x hx)

theorem frz_nil3 {h : Heap} {f g : Bool} {k : IntKind} {z : Int} : freeze h (.tup [.is 0 f [], .is 0 g [], .int k z]) = some (.tup [nats [], nats [], .int k z]) := Eq.trans rfl rfl
theorem frz_nri {h : Heap} {x : AV} {f : Bool} {l : List Nat} (hr : Row h .u64 x l) {k : IntKind} {z : Int} : freeze h (.tup [.is 0 f [], x, .int k z]) = some (.tup [nats [], nats l, .int k z]) :=
  frz_rri (Row.nil h .u64 f) hr

theorem dig_one {x : Nat} (hx : x < B64) (h0 : x ≠ 0) : dig B64 x = [x] := by
  rw [dig_pos b64_two h0, Nat.mod_eq_of_lt hx, Nat.div_eq_of_lt hx, dig_zero]

/-- What the division does with trimmed rows: a, not less than b, which has two digits or more. -/
theorem dm_big {h : Heap} {x y : AV} {a b : Nat} (hx : Row h .u64 x (dig B64 a)) (hy : Row h .u64 y (dig B64 b)) (hox : ∀ id, Off id x) (hoy : ∀ id, Off id y) (hab : b ≤ a) (hla : (dig B64 a).length ≤ 4000) (hlb : 2 ≤ (dig B64 b).length) :
    ((opLen false y).bind fun v20 => (opBin .sub v20 (.int .i64 1)).bind fun v21 => (opSidx 1 y v21).bind fun v22 => (opLoad h none v22).bind fun v23 => (byVal (callW gp) h fid.bits_LeadingZeros64 [v23]).bind fun v24 => (callW gp fid.limb_shifted [x, v24] h).bind fun r25 => (callW gp fid.limb_shifted [y, v24] r25.2).bind fun r26 => (callW gp fid.limb_trimmed [r26.1] r26.2).bind fun r27 => (opLen false r27.1).bind fun v28 => (opLen false r25.1).bind fun v29 => (opBin .sub v29 v28).bind fun v30 => (opMks r27.2 1 [nat .u64 0] v30 v30).bind fun r31 => (opLen false r31.1).bind fun v32 => (opBin .sub v32 (.int .i64 1)).bind fun v33 => limb_DivMod.l0 v24 r25.1 r27.1 v28 r31.1 v33 r31.2) =
      some (.tup [nats (dig B64 (a / b)), nats (dig B64 (a % b)), .int .i64 0]) := by
  have hb0 : b ≠ 0 := fun e => by rw [e, dig_zero] at hlb; simp at hlb
  have hlab : (dig B64 b).length ≤ (dig B64 a).length := by
    rcases Nat.lt_or_ge (dig B64 a).length (dig B64 b).length with h | h
    · have := lt_of_len_lt b64_two h; omega
    · exact h
  rw [hy.len]
  simp only [bind_s]
  rw [int_sub (by omega) (by omega)]
  simp only [bind_s]
  rw [hy.rd (by omega) (by omega), show (((dig B64 b).length : Int) - 1).toNat = (dig B64 b).length - 1 by omega]
  have htB : (dig B64 b).getD ((dig B64 b).length - 1) 0 < B64 := (dig_Dg b64_two b).getD (by decide)
  have ht0 := dig_top b64_two hb0
  have htv : (dig B64 b).getD ((dig B64 b).length - 1) 0 = b / B64 ^ ((dig B64 b).length - 1) := by
    have := top_digit (dig_Dg b64_two b) (i := (dig B64 b).length - 1) (by omega) (by omega)
    rwa [val_dig b64_two] at this
  rw [lz_by htB]
  simp only [bind_s]
  generalize hk : (dig B64 b).length = k at *
  generalize (dig B64 b).getD (k - 1) 0 = t at *
  have hbl : blen t ≤ 64 := blen_le (k := 64) htB
  have hbl0 := blen_pos ht0
  obtain ⟨s, hs⟩ : ∃ s, s = 64 - blen t := ⟨_, rfl⟩
  rw [← hs]
  have hs64 : s < 64 := by omega
  have e64 : B64 = 2 ^ 64 := rfl
  have hp0 := Nat.two_pow_pos s
  -- the divisor, its highest bit set
  have hts1 : (t + 1) * 2 ^ s ≤ B64 := by
    have := Nat.mul_le_mul_right (2 ^ s) (show t + 1 ≤ 2 ^ blen t from blen_lt t)
    rwa [← Nat.pow_add, show blen t + s = 64 by omega, ← e64] at this
  have hts2 : 2 ^ 63 ≤ t * 2 ^ s := by
    have := Nat.mul_le_mul_right (2 ^ s) (le_blen ht0)
    rwa [← Nat.pow_add, show blen t - 1 + s = 63 by omega] at this
  have hblt : b < (t + 1) * B64 ^ (k - 1) := by
    rw [htv, Nat.mul_comm]
    exact Nat.lt_mul_div_succ b (Nat.pow_pos (by decide))
  have hbge : t * B64 ^ (k - 1) ≤ b := by rw [htv]; exact Nat.div_mul_le_self _ _
  have hVlt : b * 2 ^ s < B64 ^ k := by
    have h1 : b * 2 ^ s < (t + 1) * B64 ^ (k - 1) * 2 ^ s := Nat.mul_lt_mul_of_pos_right hblt hp0
    have h2 : (t + 1) * B64 ^ (k - 1) * 2 ^ s = (t + 1) * 2 ^ s * B64 ^ (k - 1) := by ac_rfl
    have h3 := Nat.mul_le_mul_right (B64 ^ (k - 1)) hts1
    have h4 : B64 * B64 ^ (k - 1) = B64 ^ k := by rw [Nat.mul_comm, ← Nat.pow_succ, show (k - 1).succ = k by omega]
    omega
  have hVge : 2 ^ 63 * B64 ^ (k - 1) ≤ b * 2 ^ s := by
    have h1 := Nat.mul_le_mul_right (2 ^ s) hbge
    have h2 : t * B64 ^ (k - 1) * 2 ^ s = t * 2 ^ s * B64 ^ (k - 1) := by ac_rfl
    have h3 := Nat.mul_le_mul_right (B64 ^ (k - 1)) hts2
    omega
  have hV0 : b * 2 ^ s ≠ 0 := Nat.mul_ne_zero hb0 (by omega)
  have hVk : (dig B64 (b * 2 ^ s)).length = k := by
    have h1 := dig_len_lt b64_two hVlt
    rcases Nat.lt_or_ge (dig B64 (b * 2 ^ s)).length k with h | h
    · have h2 := lt_of_dig_len b64_two (n := b * 2 ^ s)
      have h3 : B64 ^ (dig B64 (b * 2 ^ s)).length ≤ B64 ^ (k - 1) := Nat.pow_le_pow_right (by decide) (by omega)
      have h4 : 1 * B64 ^ (k - 1) ≤ 2 ^ 63 * B64 ^ (k - 1) := Nat.mul_le_mul_right _ (by decide)
      omega
    · omega
  -- the rows
  obtain ⟨R, r1, r2, r3, r4, r5⟩ := shifted_run (h := h) (s := s) (hox h.length) (dig_Dg b64_two a) hs64 (by omega) hx
  rw [r1]
  simp only [bind_s]
  obtain ⟨BB, b1, b2, b3, b4, b5⟩ := shifted_run (h := h ++ [some (nl .u64 R)]) (s := s) (hoy _) (dig_Dg b64_two b) hs64 (by omega) (hy.mono fun id off n cs e hl => live_app_old hl)
  rw [b1]
  simp only [bind_s]
  rw [val_dig b64_two] at r4 b4
  rw [hk] at b2
  have hBrow : Row (h ++ [some (nl .u64 R)] ++ [some (nl .u64 BB)]) .u64 (.rs 1 (h ++ [some (nl .u64 R)]).length 0 (k + 1)) BB := by rw [← b2]; exact Row.own live_app_self
  rw [hk]
  obtain ⟨t1, t2⟩ := trimmed hBrow (by omega) b3
  rw [t1]
  simp only [bind_s]
  have htl : tl BB = k := by rw [tl_eq b64_two b3, b4, hVk]
  rw [htl]
  simp only [AV.cut, len_rs, bind_s]
  rw [int_sub (by omega) (by omega)]
  simp only [bind_s]
  rw [mks_nl (by omega) (by omega) (by omega)]
  simp only [bind_s, len_rs]
  generalize hm : (dig B64 a).length = m at *
  rw [show (((m + 1 : Nat) : Int) - (k : Int)).toNat = m + 1 - k by omega]
  rw [int_sub (by omega) (by omega)]
  simp only [bind_s]
  have hlenB : (h ++ [some (nl .u64 R)]).length = h.length + 1 := by simp
  have hlenQ : (h ++ [some (nl .u64 R)] ++ [some (nl .u64 BB)]).length = h.length + 2 := by simp
  have d : DmAt (h ++ [some (nl .u64 R)] ++ [some (nl .u64 BB)] ++ [some (nl .u64 (List.replicate (m + 1 - k) 0))]) h.length (h ++ [some (nl .u64 R)]).length (h ++ [some (nl .u64 R)] ++ [some (nl .u64 BB)]).length R BB (List.replicate (m + 1 - k) 0) :=
    ⟨live_app_old (live_app_old live_app_self), live_app_old live_app_self, live_app_self, by omega, by omega, by omega⟩
  have hBk : BB.take k = dig B64 (b * 2 ^ s) := by rw [← b4, ← take_tl b64_two b3, htl]
  have hRtop : val B64 (R.drop (m + 1 - k)) < b * 2 ^ s := by
    have h1 := val_take_succ (B := B64) (R.drop (m + 1 - k)) (k - 1) (by simp; omega)
    rw [show k - 1 + 1 = k by omega, List.take_of_length_le (by simp; omega), getD_drop, show m + 1 - k + (k - 1) = m by omega] at h1
    have h2 := val_lt ((r3.drop (m + 1 - k)).take (k - 1))
    rw [List.length_take, List.length_drop, Nat.min_eq_left (by omega)] at h2
    have h3 : B64 ^ (k - 1) * (R.getD m 0 + 1) ≤ B64 ^ (k - 1) * 2 ^ 63 := Nat.mul_le_mul_left _ (Nat.le_trans r5 (Nat.pow_le_pow_right (by decide) (by omega)))
    rw [Nat.mul_add, Nat.mul_one, Nat.mul_comm _ (2 ^ 63)] at h3
    omega
  have hfin := dm_l0 (U := a * 2 ^ s) (m1 := m + 1) (nq := m + 1 - k) (k := k) (s := s) (V := b * 2 ^ s) (BB := BB) (by omega) hBk (by omega) hs64 (by omega) (by omega) hV0 (m + 1 - k) _ R (List.replicate (m + 1 - k) 0) (Nat.le_refl _) d r2 (by simp) r3 (Dg.replicate _ (by decide)) hRtop (by
    rw [List.drop_of_length_le (by simp)]; simp [val, r4])
  rw [hfin, Nat.mul_div_mul_right _ _ hp0, Nat.mul_mod_mul_right, Nat.mul_div_cancel _ hp0]

/-- The quotient and the rest of two rows. -/
theorem limb_divmod (l m : List Nat) (hl : Dg B64 l) (hm : Dg B64 m) : cv gp fid.limb_DivMod [nats l, nats m] = some (if 4000 < l.length ∨ 4000 < m.length then .tup [nats [], nats [], .int .i64 5] else if val B64 m = 0 then .tup [nats [], nats [], .int .i64 3] else .tup [nats (dig B64 (val B64 l / val B64 m)), nats (dig B64 (val B64 l % val B64 m)), .int .i64 0]) := by
  rw [limb_DivMod.eq]
  unfold limb_DivMod.f
  rw [bslc_two]
  simp only [bind_s]
  rw [long_two]
  simp only [bind_s, cond_d]
  split
  · exact frz_nil3
  · rename_i hn
    obtain ⟨e1, r1⟩ := trimmed (Row.nats [] l) (by omega) hl
    obtain ⟨e2, r2⟩ := trimmed (Row.nats [] m) (by omega) hm
    have h1 := dig_len_le b64_two hl
    have h2 := dig_len_le b64_two hm
    rw [e1]
    simp only [bind_s]
    rw [e2]
    simp only [bind_s]
    have hox : ∀ id, Off id ((nats l).cut (tl l)) := fun id => (Off.nats id l).cut _
    have hoy : ∀ id, Off id ((nats m).cut (tl m)) := fun id => (Off.nats id m).cut _
    have hnx : noRef ((nats l).cut (tl l)) = true := by
      show ((nl .u64 l).take (tl l)).all (noRefN 11) = true
      rw [nl_take]
      exact imm_all (imm_nl _ _) (by omega)
    generalize (nats l).cut (tl l) = x at *
    generalize (nats m).cut (tl m) = y at *
    generalize val B64 l = a at *
    generalize val B64 m = b at *
    have hlen2 : opLen false y = some (.int .i64 ((dig B64 b).length : Nat)) := r2.len
    rw [hlen2]
    simp only [bind_s, bin_eql, cond_d]
    by_cases hb0 : b = 0
    · rw [if_pos (by rw [hb0, dig_zero]; rfl), if_pos hb0]
      exact frz_nil3
    · have hbl : (dig B64 b).length ≠ 0 := fun e => hb0 ((dig_len_eq b64_two).1 e)
      rw [if_neg (by omega), if_neg hb0, order_by r1 r2 (by omega) (by omega)]
      simp only [bind_s, bin_lss, cond_d]
      by_cases hlt : a < b
      · rw [if_pos (cmpI_neg.2 hlt), bslc_0, Nat.div_eq_of_lt hlt, Nat.mod_eq_of_lt hlt, dig_zero]
        simp only [bind_s]
        have hnl : nl .u64 [] = [] := rfl
        have hn0 : Row [] .u64 (.is 0 true (nl .u64 [])) [] := Row.nil [] .u64 true
        by_cases h0 : dig B64 a = []
        · rw [h0] at r1
          rw [app_none hn0 r1 (by simp), h0]
          simp only [bind_s]
          exact frz_nri hn0
        · rw [hnl, app_nil (h := []) r1 h0 (by omega)]
          simp only [bind_s]
          exact frz_nri (Row.own rfl)
      · rw [if_neg (fun e => hlt (cmpI_neg.1 e))]
        by_cases hl1 : (dig B64 b).length = 1
        · rw [if_pos (by omega)]
          rw [r2.rd (by omega) (by omega)]
          have hbB : b < B64 := by have := lt_of_dig_len b64_two (n := b); rwa [hl1, Nat.pow_one] at this
          rw [dig_one hbB hb0]
          simp only [Int.toNat_zero, List.getD_cons_zero]
          have hsh : byVal (callW gp) [] fid.limb_short [x, nat .u64 b] = some (.tup [nats (dig B64 (a / b)), nat .u64 (a % b)]) := by
            have hsc := short_cv (dig B64 a) b (dig_Dg b64_two a) (by omega) hbB (by omega)
            rw [val_dig b64_two] at hsc
            exact byVal_nr (mapM2 r1.frz rfl) hsc (by rw [List.all_cons, hnx]; rfl)
          rw [hsh]
          simp only [bind_s, ext0, ext1]
          rw [bslc_1]
          simp only [bind_s]
          have hmB : a % b < B64 := Nat.lt_trans (Nat.mod_lt _ (by omega)) hbB
          have hro : Row [] .u64 (.is 1 true (nl .u64 [a % b])) [a % b] := Row.is true [a % b]
          obtain ⟨e3, r3⟩ := trimmed hro (by simp) (.cons hmB .nil)
          rw [e3]
          simp only [bind_s]
          have hv : val B64 [a % b] = a % b := by simp [val]
          rw [hv] at r3
          exact frz_rri (Row.nats _ _) r3
        · rw [if_neg (by omega)]
          have hbig := dm_big r1 r2 hox hoy (by omega) (by omega) (by omega)
          rw [hlen2, bind_s] at hbig
          exact hbig

end Go.Proofs.Ytlpimdkgboabcaa.Am
