/- The quotient of two rows. -/
import Derived.Test.YtlpimdkgboabcaaAmQuo
set_option linter.unusedVariables false
set_option linter.unusedSimpArgs false
namespace Go.Proofs.Ytlpimdkgboabcaa.Am
open Go

theorem set_getD {l : List Nat} {i : Nat} (h : i < l.length) : l.set i (l.getD i 0) = l := by
  apply List.ext_getElem?
  intro j
  rw [List.getElem?_set]
  split
  · rename_i e
    subst e
    rw [List.getD_eq_getElem?_getD, List.getElem?_eq_getElem h]
    rfl
  · rfl

/-- What the rounds of a division share: where its rows stand. -/
structure DmAt (h : Heap) (idR idB idQ : Nat) (R BB Q : List Nat) : Prop where
  r : live h idR = some (nl .u64 R)
  b : live h idB = some (nl .u64 BB)
  q : live h idQ = some (nl .u64 Q)
  rb : idR ≠ idB
  rq : idR ≠ idQ
  bq : idB ≠ idQ

theorem DmAt.by_row {h : Heap} {idR idB idQ : Nat} {R BB Q : List Nat} (d : DmAt h idR idB idQ R BB Q) {k V : Nat} (hk : k ≤ BB.length) (hV : BB.take k = dig B64 V) : Row h .u64 (.rs 1 idB 0 k) (dig B64 V) := by
  have := Row.part (off := 0) (n := k) d.b (by omega)
  rwa [List.drop_zero, hV] at this

/-- The digit is made less till it is right; then the product is taken off. -/
theorem dm_l1 {idR idB idQ idP i k m1 nq V : Nat} {y9 : AV} {R BB : List Nat} (hk : k ≤ BB.length) (hV : BB.take k = dig B64 V) (hV0 : 0 < V) (hR : i + (k + 1) ≤ R.length) (hRs : R.length ≤ 100000) (hdR : Dg B64 R) (hi : i < nq) (hpr : idP ≠ idR) (hpb : idP ≠ idB) (hpq : idP ≠ idQ) :
    ∀ (qh : Nat) (h : Heap) (Q Pd : List Nat), DmAt h idR idB idQ R BB Q → Q.length = nq → nq ≤ 100000 → live h idP = some (nl .u64 Pd) → Q.getD i 0 = qh → qh < B64 → Pd.length = k + 1 → Dg B64 Pd → val B64 Pd = qh * V → val B64 ((R.drop i).take (k + 1)) / V ≤ qh →
    ∃ h' f, limb_DivMod.l1 y9 (.rs 1 idR 0 m1) (.rs 1 idB 0 k) (.int .i64 k) (.rs 1 idQ 0 nq) (.int .i64 i) (.rs 1 idR i (k + 1)) (.rs 1 idP 0 (k + 1)) h =
        limb_DivMod.l0 y9 (.rs 1 idR 0 m1) (.rs 1 idB 0 k) (.int .i64 k) (.rs 1 idQ 0 nq) (.int .i64 ((i : Int) - 1)) h' ∧
      DmAt h' idR idB idQ (R.take i ++ f ++ R.drop (i + (k + 1))) BB (Q.set i (val B64 ((R.drop i).take (k + 1)) / V)) ∧ f.length = k + 1 ∧ Dg B64 f ∧ val B64 f = val B64 ((R.drop i).take (k + 1)) % V := by
  have hlk : (dig B64 V).length = k := by rw [← hV, List.length_take, Nat.min_eq_left hk]
  have hVk : V < B64 ^ k := by have := lt_of_dig_len b64_two (n := V); rwa [hlk] at this
  have hVk1 : B64 ^ k ≤ B64 ^ (k + 1) := Nat.pow_le_pow_right (by decide) (by omega)
  have hpl : ((R.drop i).take (k + 1)).length = k + 1 := by simp; omega
  have hdp : Dg B64 ((R.drop i).take (k + 1)) := (hdR.drop i).take _
  intro qh
  induction qh with
  | zero =>
    intro h Q Pd d hQ hnq hp hq0 hqB hPl hdP hPv hle
    have hz : val B64 ((R.drop i).take (k + 1)) / V = 0 := Nat.le_zero.1 hle
    have hlt : val B64 ((R.drop i).take (k + 1)) < V := (Nat.div_eq_zero_iff_lt hV0).1 hz
    rw [limb_DivMod.l1_eq]
    obtain ⟨e1, r1⟩ := trimmed (Row.part (off := i) (n := k + 1) d.r hR) (by omega) hdp
    have hrp : Row h .u64 (.rs 1 idP 0 (k + 1)) Pd := by rw [← hPl]; exact Row.own hp
    obtain ⟨e2, r2⟩ := trimmed hrp (by omega) hdP
    have l1 := dig_len_le b64_two hdp
    have l2 := dig_len_le b64_two hdP
    rw [e1]
    simp only [bind_s]
    rw [e2]
    simp only [bind_s]
    rw [order_by r1 r2 (by omega) (by omega)]
    simp only [bind_s, bin_lss, cond_d]
    rw [if_neg (by rw [cmpI_neg, hPv]; omega)]
    obtain ⟨f, b', t1, t2, t3, t4, t5⟩ := take_run (h := h) (id := idR) (off := i) (n := k + 1) (y1 := .rs 1 idP 0 (k + 1)) (Off.rs hpr) hdP (by omega) (by omega) d.r hrp hR hdR
    rw [t1]
    simp only [bind_s]
    rw [int_sub (by omega) (by omega)]
    simp only [bind_s]
    rw [List.take_of_length_le (by omega), hPv] at t5
    have hf := val_lt t3
    rw [t2] at hf
    have hpv := val_lt hdp
    rw [hpl] at hpv
    have hb0 : b' = 0 := by
      rcases Nat.lt_or_ge b' 1 with h | h
      · omega
      · have : b' = 1 := by omega
        subst this
        omega
    subst hb0
    refine ⟨_, f, rfl, ?_, t2, t3, ?_⟩
    · rw [hz]
      have hQs : Q.set i 0 = Q := by rw [← hq0]; exact set_getD (by omega)
      rw [hQs]
      exact ⟨live_set_self d.r, by rw [live_set_ne d.rb]; exact d.b, by rw [live_set_ne d.rq]; exact d.q, d.rb, d.rq, d.bq⟩
    · rw [Nat.mod_eq_of_lt hlt]; omega
  | succ qh ih =>
    intro h Q Pd d hQ hnq hp hq0 hqB hPl hdP hPv hle
    rw [limb_DivMod.l1_eq]
    obtain ⟨e1, r1⟩ := trimmed (Row.part (off := i) (n := k + 1) d.r hR) (by omega) hdp
    have hrp : Row h .u64 (.rs 1 idP 0 (k + 1)) Pd := by rw [← hPl]; exact Row.own hp
    obtain ⟨e2, r2⟩ := trimmed hrp (by omega) hdP
    have l1 := dig_len_le b64_two hdp
    have l2 := dig_len_le b64_two hdP
    rw [e1]
    simp only [bind_s]
    rw [e2]
    simp only [bind_s]
    rw [order_by r1 r2 (by omega) (by omega)]
    simp only [bind_s, bin_lss, cond_d]
    have hmul : (qh + 1) * V = qh * V + V := by rw [Nat.add_mul, Nat.one_mul]
    by_cases hlt : val B64 ((R.drop i).take (k + 1)) < val B64 Pd
    · rw [if_pos (cmpI_neg.2 hlt)]
      rw [sidx_rs (by omega) (by omega)]
      simp only [bind_s, Int.toNat_natCast, Nat.mul_one, Nat.zero_add]
      rw [load_nl d.q (by omega), hq0]
      simp only [bind_s]
      rw [u_sub (by omega), show (qh + 1 + 18446744073709551616 - 1) % 18446744073709551616 = qh by unfold B64 at hqB; omega]
      simp only [bind_s]
      rw [store_nl d.q (by omega)]
      simp only [bind_s]
      have d' : DmAt (h.set idQ (some (nl .u64 (Q.set i qh)))) idR idB idQ R BB (Q.set i qh) :=
        ⟨by rw [live_set_ne (Ne.symm d.rq)]; exact d.r, by rw [live_set_ne (Ne.symm d.bq)]; exact d.b, live_set_self d.q, d.rb, d.rq, d.bq⟩
      have hp' : live (h.set idQ (some (nl .u64 (Q.set i qh)))) idP = some (nl .u64 Pd) := by rw [live_set_ne (Ne.symm hpq)]; exact hp
      obtain ⟨f, b', t1, t2, t3, t4, t5⟩ := take_run (id := idP) (off := 0) (n := k + 1) (y1 := .rs 1 idB 0 k) (Off.rs (Ne.symm hpb)) (dig_Dg b64_two V) (by omega) (by omega) hp' (d'.by_row hk hV) (by omega) hdP
      rw [t1]
      simp only [bind_s]
      rw [List.take_of_length_le (by omega), val_dig b64_two, List.drop_zero, List.take_of_length_le (by omega), hPv] at t5
      have hf := val_lt t3
      rw [t2] at hf
      have hb0 : b' = 0 := by
        rcases Nat.lt_or_ge b' 1 with h | h
        · omega
        · have : b' = 1 := by omega
          subst this
          omega
      subst hb0
      have hcs : Pd.take 0 ++ f ++ Pd.drop (0 + (k + 1)) = f := by rw [List.drop_of_length_le (by omega)]; simp
      rw [hcs]
      have hlow : val B64 ((R.drop i).take (k + 1)) / V ≤ qh := by
        rw [hPv] at hlt
        have : val B64 ((R.drop i).take (k + 1)) / V < qh + 1 := (Nat.div_lt_iff_lt_mul hV0).2 hlt
        omega
      have hQi : i < Q.length := by omega
      obtain ⟨h', f', g1, g2, g3, g4, g5⟩ := ih ((h.set idQ (some (nl .u64 (Q.set i qh)))).set idP (some (nl .u64 f))) (Q.set i qh) f
        ⟨by rw [live_set_ne hpr]; exact d'.r, by rw [live_set_ne hpb]; exact d'.b, by rw [live_set_ne hpq]; exact d'.q, d.rb, d.rq, d.bq⟩ (by simpa using hQ) hnq (live_set_self hp') (by rw [getD_set, if_pos ⟨rfl, hQi⟩]) (by omega) t2 t3 (by omega) hlow
      refine ⟨h', f', g1, ?_, g3, g4, g5⟩
      rw [List.set_set] at g2
      exact g2
    · rw [if_neg (fun e => hlt (cmpI_neg.1 e))]
      obtain ⟨f, b', t1, t2, t3, t4, t5⟩ := take_run (h := h) (id := idR) (off := i) (n := k + 1) (y1 := .rs 1 idP 0 (k + 1)) (Off.rs hpr) hdP (by omega) (by omega) d.r hrp hR hdR
      rw [t1]
      simp only [bind_s]
      rw [int_sub (by omega) (by omega)]
      simp only [bind_s]
      rw [List.take_of_length_le (by omega), hPv] at t5
      have hf := val_lt t3
      rw [t2] at hf
      have hpv := val_lt hdp
      rw [hpl] at hpv
      rw [hPv] at hlt
      have hb0 : b' = 0 := by
        rcases Nat.lt_or_ge b' 1 with h | h
        · omega
        · have : b' = 1 := by omega
          subst this
          omega
      subst hb0
      have hqe : val B64 ((R.drop i).take (k + 1)) / V = qh + 1 := Nat.le_antisymm hle ((Nat.le_div_iff_mul_le hV0).2 (by omega))
      refine ⟨_, f, rfl, ?_, t2, t3, ?_⟩
      · rw [hqe]
        have hQs : Q.set i (qh + 1) = Q := by rw [← hq0]; exact set_getD (by omega)
        rw [hQs]
        exact ⟨live_set_self d.r, by rw [live_set_ne d.rb]; exact d.b, by rw [live_set_ne d.rq]; exact d.q, d.rb, d.rq, d.bq⟩
      · rw [mod_sub, hqe]; omega

/-- A digit is guessed at least as great as it is. -/
theorem guess_ge {P V top k : Nat} (hV0 : 0 < V) (hk : 1 ≤ k) (hPV : P < V * B64) (ht : top = V / B64 ^ (k - 1)) (htop : 0 < top) :
    P / V ≤ (if top ≤ P / B64 ^ k then 18446744073709551615 else (P / B64 ^ (k - 1)) / top) := by
  have h1 : P / V < B64 := by rw [Nat.div_lt_iff_lt_mul hV0, Nat.mul_comm]; exact hPV
  split
  · unfold B64 at h1; omega
  · rw [Nat.le_div_iff_mul_le htop, Nat.le_div_iff_mul_le (Nat.pow_pos (by decide))]
    have h2 : top * B64 ^ (k - 1) ≤ V := by rw [ht]; exact Nat.div_mul_le_self _ _
    have h3 : P / V * V ≤ P := Nat.div_mul_le_self _ _
    rw [Nat.mul_assoc]
    exact Nat.le_trans (Nat.mul_le_mul_left _ h2) h3

theorem top_digit {l : List Nat} (hl : Dg B64 l) {i : Nat} (hi : i < l.length) (hlast : i + 1 = l.length) : l.getD i 0 = val B64 l / B64 ^ i := by
  have h1 := val_take_succ (B := B64) l i hi
  rw [hlast, List.take_length] at h1
  have h2 := val_lt (hl.take i)
  rw [List.length_take, Nat.min_eq_left (by omega)] at h2
  rw [h1, Nat.add_mul_div_left _ _ (Nat.pow_pos (by decide)), Nat.div_eq_of_lt h2, Nat.zero_add]
theorem top_two {l : List Nat} (hl : Dg B64 l) {k : Nat} (hk : 1 ≤ k) (hlast : k + 1 = l.length) : l.getD k 0 * B64 + l.getD (k - 1) 0 = val B64 l / B64 ^ (k - 1) := by
  obtain ⟨j, rfl⟩ : ∃ j, k = j + 1 := ⟨k - 1, by omega⟩
  rw [Nat.add_sub_cancel]
  have h1 := val_take_succ (B := B64) l (j + 1) (by omega)
  rw [hlast, List.take_length, val_take_succ (B := B64) l j (by omega)] at h1
  have h2 := val_lt (hl.take j)
  rw [List.length_take, Nat.min_eq_left (by omega)] at h2
  have e : val B64 l = val B64 (l.take j) + B64 ^ j * (l.getD (j + 1) 0 * B64 + l.getD j 0) := by
    rw [h1, Nat.pow_succ, Nat.mul_add]
    have : B64 ^ j * B64 * l.getD (j + 1) 0 = B64 ^ j * (l.getD (j + 1) 0 * B64) := by rw [Nat.mul_assoc, Nat.mul_comm B64]
    omega
  rw [e, Nat.add_mul_div_left _ _ (Nat.pow_pos (by decide)), Nat.div_eq_of_lt h2, Nat.zero_add]

/-- From a low place on: a digit and what stands above. -/
theorem val_drop_step {l : List Nat} {i : Nat} (hi : i < l.length) : val B64 (l.drop i) = l.getD i 0 + B64 * val B64 (l.drop (i + 1)) := by rw [drop_cons l i hi, val_cons]

theorem guess_by {h : Heap} {hi lo top : Nat} (h1 : lo < B64) (h2 : top < B64) : byVal (callW gp) h fid.limb_guess [nat .u64 hi, nat .u64 lo, nat .u64 top] = some (nat .u64 (if top ≤ hi then 18446744073709551615 else (hi * 18446744073709551616 + lo) / top)) :=
  byVal_imm (imm_l3 imm_nat imm_nat imm_nat (by omega) (by omega) (by omega)) (guess_cv hi lo top h1 h2)

theorem frz_rri {h : Heap} {x y : AV} {l m : List Nat} (hx : Row h .u64 x l) (hy : Row h .u64 y m) {k : IntKind} {z : Int} : freeze h (.tup [x, y, .int k z]) = some (.tup [nats l, nats m, .int k z]) :=
  frz_tup3 (hx.frzN (by omega)) (hy.frzN (by omega)) rfl

/-- The rounds of a division. -/
theorem dm_l0 {idR idB idQ k m1 nq V U s : Nat} {BB : List Nat} (hk : k ≤ BB.length) (hV : BB.take k = dig B64 V) (hk1 : 1 ≤ k) (hs : s < 64) (hm : m1 ≤ 50000) (hnq : nq + k = m1) (hV0 : V ≠ 0) :
    ∀ (j : Nat) (h : Heap) (R Q : List Nat), j ≤ nq → DmAt h idR idB idQ R BB Q → R.length = m1 → Q.length = nq → Dg B64 R → Dg B64 Q → val B64 (R.drop j) < V → val B64 R + V * (B64 ^ j * val B64 (Q.drop j)) = U → 
    limb_DivMod.l0 (.int .i64 s) (.rs 1 idR 0 m1) (.rs 1 idB 0 k) (.int .i64 k) (.rs 1 idQ 0 nq) (.int .i64 ((j : Int) - 1)) h = some (.tup [nats (dig B64 (U / V)), nats (dig B64 (U % V / 2 ^ s)), .int .i64 0]) := by
  have hlk : (dig B64 V).length = k := by rw [← hV, List.length_take, Nat.min_eq_left hk]
  have hVk : V < B64 ^ k := by have := lt_of_dig_len b64_two (n := V); rwa [hlk] at this
  have hVlow : B64 ^ (k - 1) ≤ V := by have := pow_le_of_dig b64_two hV0; rwa [hlk] at this
  intro j
  induction j with
  | zero =>
    intro h R Q hj d hR hQ hdR hdQ hlt hU
    rw [limb_DivMod.l0_eq]
    simp only [bin_geq, bind_s, cond_d]
    rw [if_neg (by omega)]
    rw [List.drop_zero] at hlt
    rw [List.drop_zero, Nat.pow_zero, Nat.one_mul] at hU
    have hrq : Row h .u64 (.rs 1 idQ 0 nq) Q := by rw [← hQ]; exact Row.own d.q
    obtain ⟨e1, r1⟩ := trimmed hrq (by omega) hdQ
    rw [e1]
    simp only [bind_s]
    have hrr : Row h .u64 (.rs 1 idR 0 m1) R := by rw [← hR]; exact Row.own d.r
    obtain ⟨f, t1, t2, t3⟩ := lowered_run (h := h) (s := s) (Off.rs (Nat.ne_of_lt (live_lt d.r))) hdR hs (by omega) hrr
    rw [t1]
    simp only [bind_s]
    have hrf : Row (h ++ [some (nl .u64 f)]) .u64 (.rs 1 h.length 0 (tl f)) (dig B64 (val B64 f)) := by
      rw [← take_tl b64_two t2]
      have := Row.part (h := h ++ [some (nl .u64 f)]) (off := 0) (n := tl f) live_app_self (by have := tl_le f; omega)
      rwa [List.drop_zero] at this
    rw [frz_rri (r1.mono fun id off n cs e hl => live_app_old hl) hrf]
    have hdiv : U / V = val B64 Q := by rw [← hU, Nat.add_mul_div_left _ _ (by omega), Nat.div_eq_of_lt hlt, Nat.zero_add]
    have hmod : U % V = val B64 R := by rw [← hU, Nat.add_mul_mod_self_left, Nat.mod_eq_of_lt hlt]
    rw [hdiv, hmod, t3]
  | succ i ih =>
    intro h R Q hj d hR hQ hdR hdQ hlt hU
    rw [limb_DivMod.l0_eq]
    simp only [bin_geq, bind_s, cond_d]
    rw [if_pos (by omega), show (((i + 1 : Nat) : Int) - 1) = (i : Int) by omega]
    rw [int_add (by omega) (by omega)]
    simp only [bind_s]
    rw [int_add (by omega) (by omega)]
    simp only [bind_s]
    rw [slc_rs (by omega) (by omega) (by omega)]
    simp only [bind_s, Nat.mul_one, Nat.zero_add, Int.toNat_natCast]
    rw [show ((i : Int) + (k : Int) + 1).toNat - i = k + 1 by omega]
    have hpart : Row h .u64 (.rs 1 idR i (k + 1)) ((R.drop i).take (k + 1)) := Row.part d.r (by omega)
    have hpl : ((R.drop i).take (k + 1)).length = k + 1 := by simp; omega
    have hdp : Dg B64 ((R.drop i).take (k + 1)) := (hdR.drop i).take _
    rw [hpart.rd (by omega) (by omega)]
    rw [int_sub (by omega) (by omega)]
    simp only [bind_s]
    rw [hpart.rd (by omega) (by omega)]
    have hby := d.by_row hk hV
    rw [hby.rd (by omega) (by omega)]
    rw [Int.toNat_natCast, show ((k : Int) - 1).toNat = k - 1 by omega]
    rw [guess_by (hdp.getD (by decide)) ((dig_Dg b64_two V).getD (by decide))]
    simp only [bind_s]
    rw [sidx_rs (by omega) (by omega)]
    simp only [bind_s, Int.toNat_natCast, Nat.mul_one, Nat.zero_add]
    rw [store_nl d.q (by omega)]
    simp only [bind_s]
    rw [int_add (by omega) (by omega)]
    simp only [bind_s]
    rw [mks_nl (by omega) (by omega) (by omega)]
    simp only [bind_s]
    rw [slc_rs0 (by omega) (by omega)]
    simp only [bind_s, Int.toNat_natCast]
    rw [show ((k : Int) + 1).toNat = k + 1 by omega]
    -- the part of the number, and the guessed digit
    have hhigh : val B64 (R.drop (i + (k + 1))) = 0 := by
      have h1 := val_split (B := B64) (R.drop (i + 1)) k
      rw [List.drop_drop, List.length_take, List.length_drop, Nat.min_eq_left (by omega), show i + 1 + k = i + (k + 1) by omega] at h1
      rcases Nat.eq_zero_or_pos (val B64 (R.drop (i + (k + 1)))) with h0 | h0
      · exact h0
      · have : B64 ^ k * 1 ≤ B64 ^ k * val B64 (R.drop (i + (k + 1))) := Nat.mul_le_mul_left _ h0
        omega
    have hPd : val B64 (R.drop i) = val B64 ((R.drop i).take (k + 1)) := by
      have h1 := val_split (B := B64) (R.drop i) (k + 1)
      rw [List.drop_drop, hhigh, Nat.mul_zero, Nat.add_zero] at h1
      exact h1
    have hPV : val B64 ((R.drop i).take (k + 1)) < V * B64 := by
      rw [← hPd, val_drop_step (by omega)]
      have h1 : R.getD i 0 < B64 := hdR.getD (by decide)
      have h2 : B64 * (val B64 (R.drop (i + 1)) + 1) ≤ B64 * V := Nat.mul_le_mul_left _ hlt
      rw [Nat.mul_add, Nat.mul_one] at h2
      rw [Nat.mul_comm V]
      omega
    have htop : (dig B64 V).getD (k - 1) 0 = V / B64 ^ (k - 1) := by
      have := top_digit (dig_Dg b64_two V) (i := k - 1) (by omega) (by omega)
      rwa [val_dig b64_two] at this
    have htop0 : 0 < (dig B64 V).getD (k - 1) 0 := by rw [htop]; exact Nat.div_pos hVlow (Nat.pow_pos (by decide))
    have htopB : (dig B64 V).getD (k - 1) 0 < B64 := (dig_Dg b64_two V).getD (by decide)
    have hg := guess_ge (P := val B64 ((R.drop i).take (k + 1))) (by omega) hk1 hPV htop htop0
    have g1 := top_digit hdp (i := k) (by omega) (by omega)
    have g2 := top_two hdp hk1 (by omega)
    rw [← g1, ← g2] at hg
    have hqB : (if (dig B64 V).getD (k - 1) 0 ≤ ((R.drop i).take (k + 1)).getD k 0 then 18446744073709551615 else (((R.drop i).take (k + 1)).getD k 0 * 18446744073709551616 + ((R.drop i).take (k + 1)).getD (k - 1) 0) / (dig B64 V).getD (k - 1) 0) < B64 := by
      split
      · decide
      · rename_i hlt2
        rw [Nat.div_lt_iff_lt_mul htop0]
        have h1 : ((R.drop i).take (k + 1)).getD (k - 1) 0 < B64 := hdp.getD (by decide)
        have h2 : (((R.drop i).take (k + 1)).getD k 0 + 1) * 18446744073709551616 ≤ (dig B64 V).getD (k - 1) 0 * 18446744073709551616 := Nat.mul_le_mul_right _ (by omega)
        have h1' : ((R.drop i).take (k + 1)).getD (k - 1) 0 < 18446744073709551616 := h1
        rw [Nat.mul_comm B64]
        show _ < (dig B64 V).getD (k - 1) 0 * 18446744073709551616
        omega
    generalize (if (dig B64 V).getD (k - 1) 0 ≤ ((R.drop i).take (k + 1)).getD k 0 then 18446744073709551615 else (((R.drop i).take (k + 1)).getD k 0 * 18446744073709551616 + ((R.drop i).take (k + 1)).getD (k - 1) 0) / (dig B64 V).getD (k - 1) 0) = qh at *
    -- the product
    have hlen : (h.set idQ (some (nl .u64 (Q.set i qh)))).length = h.length := by simp
    have hlR := live_lt d.r
    have hlB := live_lt d.b
    have hlQ := live_lt d.q
    have d1 : DmAt (h.set idQ (some (nl .u64 (Q.set i qh)))) idR idB idQ R BB (Q.set i qh) :=
      ⟨by rw [live_set_ne (Ne.symm d.rq)]; exact d.r, by rw [live_set_ne (Ne.symm d.bq)]; exact d.b, live_set_self d.q, d.rb, d.rq, d.bq⟩
    have d2 : DmAt (h.set idQ (some (nl .u64 (Q.set i qh))) ++ [some (nl .u64 (List.replicate (k + 1) 0))]) idR idB idQ R BB (Q.set i qh) :=
      ⟨live_app_old d1.r, live_app_old d1.b, live_app_old d1.q, d.rb, d.rq, d.bq⟩
    have hP : live (h.set idQ (some (nl .u64 (Q.set i qh))) ++ [some (nl .u64 (List.replicate (k + 1) 0))]) h.length = some (nl .u64 (List.replicate (k + 1) 0)) := live_app_self' hlen.symm
    rw [hlen]
    generalize h.set idQ (some (nl .u64 (Q.set i qh))) ++ [some (nl .u64 (List.replicate (k + 1) 0))] = h2 at *
    rw [load_nl d2.q (by simp; omega), getD_set, if_pos ⟨rfl, by omega⟩]
    simp only [bind_s]
    obtain ⟨f, c, t1, t2, t3, t4, t5⟩ := addP_run (h := h2) (id := h.length) (off := 0) (n := k) (x := qh) (Off.rs (Nat.ne_of_lt hlB)) (dig_Dg b64_two V) hqB (by omega) hlk hP (d2.by_row hk hV) (by simp) (Dg.replicate _ (by decide))
    rw [t1]
    simp only [bind_s]
    rw [sidx_rs (by omega) (by omega)]
    simp only [bind_s, Int.toNat_natCast, Nat.mul_one, Nat.zero_add]
    have hcs : ((List.replicate (k + 1) 0).take 0 ++ f ++ (List.replicate (k + 1) 0).drop k) = f ++ [0] := by simp
    rw [hcs, store_nl (live_set_self hP) (by simp; omega)]
    simp only [bind_s, set_set, List.set_set]
    have hcs2 : (f ++ [0]).set k c = f ++ [c] := by rw [← t2, List.set_append_right _ _ (Nat.le_refl _), Nat.sub_self]; rfl
    rw [hcs2]
    rw [List.drop_zero, List.take_replicate, val_zeros, val_dig b64_two, Nat.zero_add] at t5
    have hPd2 : val B64 (f ++ [c]) = qh * V := by rw [val_snoc, t2, Nat.mul_comm]; exact t5
    have hne : ∀ id, id < h.length → h.length ≠ id := fun id hid e => by omega
    have d3 : DmAt (h2.set h.length (some (nl .u64 (f ++ [c])))) idR idB idQ R BB (Q.set i qh) :=
      ⟨by rw [live_set_ne (hne _ hlR)]; exact d2.r, by rw [live_set_ne (hne _ hlB)]; exact d2.b, by rw [live_set_ne (hne _ hlQ)]; exact d2.q, d.rb, d.rq, d.bq⟩
    obtain ⟨h', f', u1, u2, u3, u4, u5⟩ := dm_l1 (idP := h.length) (i := i) (m1 := m1) (nq := nq) (y9 := .int .i64 s) hk hV (by omega) (by omega) (by omega) hdR (by omega) (hne _ hlR) (hne _ hlB) (hne _ hlQ)
      qh _ (Q.set i qh) (f ++ [c]) d3 (by simpa using hQ) (by omega) (live_set_self hP) (by rw [getD_set, if_pos ⟨rfl, by omega⟩]) hqB (by simp [t2]) (t3.append (.cons t4 .nil)) hPd2 hg
    rw [u1]
    rw [List.set_set] at u2
    have hti : (R.take i).length = i := by simp; omega
    have hR'd : (R.take i ++ f' ++ R.drop (i + (k + 1))).drop i = f' ++ R.drop (i + (k + 1)) := by
      rw [List.append_assoc, List.drop_append, List.drop_of_length_le (by omega), hti, Nat.sub_self]; rfl
    have hlt' : val B64 ((R.drop i).take (k + 1)) % V < V := Nat.mod_lt _ (by omega)
    have hqd : val B64 ((R.drop i).take (k + 1)) / V < B64 := Nat.lt_of_le_of_lt hg hqB
    refine ih h' (R.take i ++ f' ++ R.drop (i + (k + 1))) (Q.set i (val B64 ((R.drop i).take (k + 1)) / V)) (by omega) u2 (by simp [u3]; omega) (by simpa using hQ) (((hdR.take i).append u4).append (hdR.drop _)) (hdQ.set hqd) ?_ ?_
    · rw [hR'd, val_append, hhigh, Nat.mul_zero, Nat.add_zero, u5]
      exact hlt'
    · have e1 : val B64 (R.take i ++ f' ++ R.drop (i + (k + 1))) = val B64 (R.take i) + B64 ^ i * (val B64 ((R.drop i).take (k + 1)) % V) := by
        rw [List.append_assoc, val_append, hti, val_append, hhigh, Nat.mul_zero, Nat.add_zero, u5]
      have e2 : val B64 R = val B64 (R.take i) + B64 ^ i * val B64 ((R.drop i).take (k + 1)) := by
        have := val_split (B := B64) R i
        rwa [hti, hPd] at this
      have e3 : (Q.set i (val B64 ((R.drop i).take (k + 1)) / V)).drop i = (val B64 ((R.drop i).take (k + 1)) / V) :: Q.drop (i + 1) := by
        rw [drop_cons _ i (by simp; omega), getD_set, if_pos ⟨rfl, by omega⟩, set_drop_lt _ _ _ _ (by omega)]
      rw [e1, e3, val_cons, ← hU, e2]
      have hdm := Nat.div_add_mod (val B64 ((R.drop i).take (k + 1))) V
      generalize val B64 ((R.drop i).take (k + 1)) / V = q at *
      generalize val B64 ((R.drop i).take (k + 1)) % V = r at *
      generalize val B64 ((R.drop i).take (k + 1)) = P at *
      generalize val B64 (Q.drop (i + 1)) = vq at *
      have e4 : V * (B64 ^ i * (q + B64 * vq)) = B64 ^ i * (V * q) + V * (B64 ^ (i + 1) * vq) := by
        rw [Nat.mul_add, Nat.mul_add, Nat.pow_succ]
        congr 1 <;> ac_rfl
      rw [e4, ← hdm, Nat.mul_add]
      omega

end Go.Proofs.Ytlpimdkgboabcaa.Am
