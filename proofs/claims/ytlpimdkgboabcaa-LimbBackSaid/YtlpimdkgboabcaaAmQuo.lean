/- The parts of a quotient: lower, by one digit, guessed. -/
import Derived.Test.YtlpimdkgboabcaaAmMul
set_option linter.unusedVariables false
set_option linter.unusedSimpArgs false
namespace Go.Proofs.Ytlpimdkgboabcaa.Am
open Go

/-! ### lowered -/

theorem lower_digit {x y s : Nat} (hx : x < B64) (hs : s < 64) : (x / 2 ^ s ||| (y * 2 ^ (64 - s)) % 18446744073709551616) * 2 ^ s + x % 2 ^ s = x + B64 * (y % 2 ^ s) ∧ (x / 2 ^ s ||| (y * 2 ^ (64 - s)) % 18446744073709551616) < B64 := by
  have e64 : (18446744073709551616 : Nat) = 2 ^ s * 2 ^ (64 - s) := by rw [← Nat.pow_add, show s + (64 - s) = 64 by omega]
  have hmod : (y * 2 ^ (64 - s)) % 18446744073709551616 = (y % 2 ^ s) * 2 ^ (64 - s) := by rw [e64, Nat.mul_mod_mul_right]
  have hlt : x / 2 ^ s < 2 ^ (64 - s) := by
    rw [Nat.div_lt_iff_lt_mul (Nat.two_pow_pos _), Nat.mul_comm, ← e64]; exact hx
  have hor : (x / 2 ^ s ||| (y * 2 ^ (64 - s)) % 18446744073709551616) = (y % 2 ^ s) * 2 ^ (64 - s) + x / 2 ^ s := by
    rw [hmod, Nat.or_comm, or_add hlt]
  have h1 := Nat.div_add_mod x (2 ^ s)
  have h2 : y % 2 ^ s + 1 ≤ 2 ^ s := Nat.mod_lt _ (Nat.two_pow_pos s)
  have h3 := Nat.mul_le_mul_right (2 ^ (64 - s)) h2
  rw [← e64, Nat.add_mul, Nat.one_mul] at h3
  rw [hor]
  refine ⟨?_, by unfold B64; omega⟩
  rw [Nat.add_mul, Nat.mul_assoc, Nat.mul_comm (2 ^ (64 - s)), ← e64]
  rw [Nat.mul_comm (x / 2 ^ s)]
  unfold B64
  omega

theorem lowered_l0 {id s : Nat} {y : AV} {l : List Nat} (ho : Off id y) (hdl : Dg B64 l) (hs : s < 64) (hn : l.length ≤ 100000) : ∀ (k i : Nat) (h : Heap) (cs : List Nat), i + k = l.length → live h id = some (nl .u64 cs) → Row h .u64 y l → cs.length = l.length → Dg B64 cs →
    val B64 (cs.take i) * 2 ^ s + l.getD 0 0 % 2 ^ s = val B64 (l.take i) + B64 ^ i * (l.getD i 0 % 2 ^ s) →
    ∃ f, limb_lowered.l0 y (.int .i64 s) (.rs 1 id 0 l.length) y (.int .i64 l.length) (.int .i64 i) h = some (.rs 1 id 0 (tl f), h.set id (some (nl .u64 f))) ∧ f.length = l.length ∧ Dg B64 f ∧ val B64 f = val B64 l / 2 ^ s := by
  intro k
  induction k with
  | zero =>
    intro i h cs hik hl hr hcs hd hv
    refine ⟨cs, ?_, hcs, hd, ?_⟩
    · rw [limb_lowered.l0_eq]
      simp only [bin_lss, bind_s, cond_d]
      rw [if_neg (by omega), set_same hl]
      have hro : Row h .u64 (.rs 1 id 0 l.length) cs := by rw [← hcs]; exact Row.own hl
      obtain ⟨e, _⟩ := trimmed hro (by omega) hd
      rw [e]
      rfl
    · rw [List.take_of_length_le (by omega), List.take_of_length_le (by omega), getD_out l i (by omega), Nat.zero_mod, Nat.mul_zero, Nat.add_zero] at hv
      rw [← hv, Nat.add_comm, Nat.add_mul_div_right _ _ (Nat.two_pow_pos s), Nat.div_eq_of_lt (Nat.mod_lt _ (Nat.two_pow_pos s)), Nat.zero_add]
  | succ k ih =>
    intro i h cs hik hl hr hcs hd hv
    rw [limb_lowered.l0_eq]
    simp only [bin_lss, bind_s, cond_d]
    have hx : l.getD i 0 < B64 := hdl.getD (by decide)
    rw [if_pos (by omega), hr.rd (by omega) (by omega), Int.toNat_natCast, u_shr_i hx (by omega), Int.toNat_natCast]
    simp only [bind_s]
    rw [sidx_rs (by omega) (by omega)]
    simp only [bind_s, Int.toNat_natCast, Nat.mul_one, Nat.zero_add]
    rw [store_nl hl (by omega)]
    simp only [bind_s]
    rw [int_add (by omega) (by omega), hr.len]
    simp only [bind_s, bin_lss, cond_d]
    have hx2 : l.getD i 0 / 2 ^ s < B64 := Nat.lt_of_le_of_lt (Nat.div_le_self _ _) hx
    have hr' := hr.other ho (some (nl .u64 (cs.set i (l.getD i 0 / 2 ^ s))))
    obtain ⟨d1, d2⟩ := lower_digit (y := l.getD (i + 1) 0) hx hs
    have next : val B64 ((cs.set i (l.getD i 0 / 2 ^ s ||| (l.getD (i + 1) 0 * 2 ^ (64 - s)) % 18446744073709551616)).take (i + 1)) * 2 ^ s + l.getD 0 0 % 2 ^ s = val B64 (l.take (i + 1)) + B64 ^ (i + 1) * (l.getD (i + 1) 0 % 2 ^ s) := by
      rw [set_take_succ _ _ _ (by omega), val_snoc, List.length_take, Nat.min_eq_left (by omega), val_take_succ', Nat.add_mul]
      have e6 : B64 ^ i * ((l.getD i 0 / 2 ^ s ||| (l.getD (i + 1) 0 * 2 ^ (64 - s)) % 18446744073709551616) * 2 ^ s + l.getD i 0 % 2 ^ s) = B64 ^ i * (l.getD i 0 + B64 * (l.getD (i + 1) 0 % 2 ^ s)) := by rw [d1]
      rw [Nat.mul_add, Nat.mul_add] at e6
      have e7 : B64 ^ (i + 1) * (l.getD (i + 1) 0 % 2 ^ s) = B64 ^ i * (B64 * (l.getD (i + 1) 0 % 2 ^ s)) := by rw [Nat.pow_succ, Nat.mul_assoc]
      rw [e7, Nat.mul_assoc]
      omega
    split
    · rename_i hi1
      rw [load_nl (live_set_self hl) (by simp; omega), getD_set, if_pos ⟨rfl, by omega⟩]
      simp only [bind_s]
      rw [hr'.rd (by omega) (by omega), show ((i : Int) + 1).toNat = i + 1 by omega]
      rw [int_sub (by omega) (by omega)]
      simp only [bind_s]
      rw [u_shl_i (by omega), show ((64 : Int) - (s : Int)).toNat = 64 - s by omega]
      simp only [bind_s]
      rw [u_or hx2 (Nat.mod_lt _ (by omega))]
      simp only [bind_s]
      rw [store_nl (live_set_self hl) (by simp; omega)]
      simp only [bind_s, set_set, List.set_set]
      obtain ⟨f, e1, e2, e3, e4⟩ := ih (i + 1) (h.set id (some (nl .u64 (cs.set i (l.getD i 0 / 2 ^ s ||| (l.getD (i + 1) 0 * 2 ^ (64 - s)) % 18446744073709551616))))) _ (by omega) (live_set_self hl) (hr.other ho _) (by simpa using hcs) (hd.set d2) next
      refine ⟨f, ?_, e2, e3, e4⟩
      rw [show ((i : Int) + 1) = ((i + 1 : Nat) : Int) by omega, e1, set_set]
    · rename_i hi1
      have h0 : l.getD (i + 1) 0 = 0 := getD_out l _ (by omega)
      have e0 : (l.getD i 0 / 2 ^ s ||| (l.getD (i + 1) 0 * 2 ^ (64 - s)) % 18446744073709551616) = l.getD i 0 / 2 ^ s := by rw [h0, Nat.zero_mul, Nat.zero_mod, Nat.or_zero]
      rw [e0] at next
      obtain ⟨f, e1, e2, e3, e4⟩ := ih (i + 1) (h.set id (some (nl .u64 (cs.set i (l.getD i 0 / 2 ^ s))))) _ (by omega) (live_set_self hl) hr' (by simpa using hcs) (hd.set hx2) next
      refine ⟨f, ?_, e2, e3, e4⟩
      rw [show ((i : Int) + 1) = ((i + 1 : Nat) : Int) by omega, e1, set_set]

theorem lowered_run {h : Heap} {s : Nat} {y : AV} {l : List Nat} (ho : Off h.length y) (hdl : Dg B64 l) (hs : s < 64) (hn : l.length ≤ 100000) (hr : Row h .u64 y l) :
    ∃ f, callW gp fid.limb_lowered [y, .int .i64 s] h = some (.rs 1 h.length 0 (tl f), h ++ [some (nl .u64 f)]) ∧ Dg B64 f ∧ val B64 f = val B64 l / 2 ^ s := by
  obtain ⟨f, e1, e2, e3, e4⟩ := lowered_l0 (id := h.length) ho hdl hs hn l.length 0 (h ++ [some (nl .u64 (List.replicate l.length 0))]) (List.replicate l.length 0) (by omega) zeros_row
    (hr.mono fun id off n cs e hl => live_app_old hl) (by simp) (Dg.replicate _ (by decide)) (by simp [val])
  refine ⟨f, ?_, e3, e4⟩
  rw [limb_lowered.eq]
  unfold limb_lowered.f
  rw [hr.len]
  simp only [bind_s]
  rw [mks_nl (by omega) (by omega) (by omega)]
  simp only [bind_s]
  rw [Int.toNat_natCast]
  have : (h ++ [some (nl .u64 (List.replicate l.length 0))]).set h.length (some (nl .u64 f)) = h ++ [some (nl .u64 f)] := by
    rw [List.set_append_right _ _ (Nat.le_refl _), Nat.sub_self]; rfl
  rw [← this]
  exact e1

/-! ### short -/

theorem div_by {h : Heap} {hi lo y : Nat} (h1 : hi < y) (h2 : lo < B64) (h3 : y < B64) : byVal (callW gp) h fid.bits_Div64 [nat .u64 hi, nat .u64 lo, nat .u64 y] = some (.tup [nat .u64 ((hi * 18446744073709551616 + lo) / y), nat .u64 ((hi * 18446744073709551616 + lo) % y)]) :=
  byVal_imm (imm_l3 imm_nat imm_nat imm_nat (by omega) (by omega) (by omega)) (div64 hi lo y h1 h2 h3)

theorem short_l0 {a : List Nat} {x : Nat} (ha : Dg B64 a) (hx0 : 0 < x) (hx : x < B64) (hn : a.length ≤ 100000) : ∀ (k r : Nat) (cs : List Nat), k ≤ a.length → cs.length = a.length → Dg B64 cs → r < x → val B64 (cs.drop k) * x + r = val B64 (a.drop k) →
    limb_short.l0 (nats a) (nat .u64 x) (.rs 1 0 0 a.length) (nat .u64 r) (.int .i64 ((k : Int) - 1)) [some (nl .u64 cs)] = some (.tup [nats (dig B64 (val B64 a / x)), nat .u64 (val B64 a % x)]) := by
  intro k
  induction k with
  | zero =>
    intro r cs hk hcs hd hr hv
    rw [limb_short.l0_eq]
    simp only [bin_geq, bind_s, cond_d]
    rw [if_neg (by omega)]
    have hro : Row [some (nl .u64 cs)] .u64 (.rs 1 0 0 a.length) cs := by rw [← hcs]; exact Row.own rfl
    obtain ⟨e, rr⟩ := trimmed hro (by omega) hd
    rw [e]
    simp only [bind_s]
    rw [frz_tup2 (rr.frzN (by omega)) ((imm_nat 11 (by omega)).2 _)]
    rw [List.drop_zero, List.drop_zero] at hv
    have h1 : val B64 a / x = val B64 cs := by
      rw [← hv, Nat.add_comm, Nat.add_mul_div_right _ _ hx0, Nat.div_eq_of_lt hr, Nat.zero_add]
    have h2 : val B64 a % x = r := by
      rw [← hv, Nat.add_comm, Nat.add_mul_mod_self_right, Nat.mod_eq_of_lt hr]
    rw [h1, h2]
    rfl
  | succ k ih =>
    intro r cs hk hcs hd hr hv
    rw [limb_short.l0_eq]
    simp only [bin_geq, bind_s, cond_d]
    rw [if_pos (by omega), show (((k + 1 : Nat) : Int) - 1) = (k : Int) by omega, (Row.nats _ a).rd (by omega) (by omega), Int.toNat_natCast]
    have hy : a.getD k 0 < B64 := ha.getD (by decide)
    rw [div_by hr hy hx]
    simp only [bind_s, ext0, ext1]
    rw [sidx_rs (by omega) (by omega)]
    simp only [bind_s, Int.toNat_natCast, Nat.mul_one, Nat.zero_add]
    rw [store_nl (l := cs) rfl (by omega)]
    simp only [bind_s]
    rw [int_sub (by omega) (by omega)]
    simp only [bind_s]
    have hq : (r * 18446744073709551616 + a.getD k 0) / x < B64 := by
      rw [Nat.div_lt_iff_lt_mul hx0]
      have h1 : (r + 1) * 18446744073709551616 ≤ x * 18446744073709551616 := Nat.mul_le_mul_right _ hr
      rw [Nat.mul_comm B64]
      unfold B64 at hy ⊢
      omega
    have hm : (r * 18446744073709551616 + a.getD k 0) % x < x := Nat.mod_lt _ hx0
    have hdm := Nat.div_add_mod (r * 18446744073709551616 + a.getD k 0) x
    refine ih _ _ (by omega) (by simpa using hcs) (hd.set hq) hm ?_
    rw [drop_cons _ k (by simp; omega), getD_set, if_pos ⟨rfl, by omega⟩, set_drop_lt _ _ _ _ (by omega), val_cons, drop_cons a k (by omega), val_cons, ← hv]
    generalize (r * 18446744073709551616 + a.getD k 0) / x = q at *
    generalize (r * 18446744073709551616 + a.getD k 0) % x = r' at *
    rw [Nat.add_mul, Nat.mul_add]
    have e : B64 * val B64 (cs.drop (k + 1)) * x = B64 * (val B64 (cs.drop (k + 1)) * x) := Nat.mul_assoc _ _ _
    rw [e, Nat.mul_comm q x]
    unfold B64 at *
    omega

/-- By a single digit. -/
theorem short_cv (a : List Nat) (x : Nat) (ha : Dg B64 a) (hx0 : 0 < x) (hx : x < B64) (hn : a.length ≤ 100000) : cv gp fid.limb_short [nats a, nat .u64 x] = some (.tup [nats (dig B64 (val B64 a / x)), nat .u64 (val B64 a % x)]) := by
  rw [limb_short.eq]
  unfold limb_short.f
  simp only [len_nats, bind_s]
  rw [mks_nl (by omega) (by omega) (by omega)]
  simp only [bind_s]
  rw [int_sub (by omega) (by omega)]
  simp only [bind_s]
  rw [Int.toNat_natCast]
  exact short_l0 ha hx0 hx hn a.length 0 (List.replicate a.length 0) (by omega) (by simp) (Dg.replicate _ (by decide)) hx0 (by simp [val])

/-! ### guess -/

theorem guess_cv (hi lo top : Nat) (h1 : lo < B64) (h2 : top < B64) : cv gp fid.limb_guess [nat .u64 hi, nat .u64 lo, nat .u64 top] = some (nat .u64 (if top ≤ hi then 18446744073709551615 else (hi * 18446744073709551616 + lo) / top)) := by
  rw [limb_guess.eq]
  unfold limb_guess.f
  simp only [nat_geq, bind_s, cond_d]
  split
  · rfl
  · rw [div_by (by omega) h1 h2]
    simp only [bind_s, ext0, ext1]
    rfl

end Go.Proofs.Ytlpimdkgboabcaa.Am
