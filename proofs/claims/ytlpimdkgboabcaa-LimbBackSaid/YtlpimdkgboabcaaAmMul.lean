/- Products, and the parts of a quotient. -/
import Derived.Test.YtlpimdkgboabcaaAmSum
set_option linter.unusedVariables false
set_option linter.unusedSimpArgs false
namespace Go.Proofs.Ytlpimdkgboabcaa.Am
open Go

/-! ### Mul -/

theorem val_drop_zeros {B : Nat} (n : Nat) : ∀ (l : List Nat), (∀ x ∈ l, x = 0) → val B (l.take n) = 0 := by
  intro l h
  have : l.take n = List.replicate (l.take n).length 0 := List.eq_replicate_iff.2 ⟨rfl, fun x hx => h x (List.mem_of_mem_take hx)⟩
  rw [this, val_zeros]

theorem mul_l0 {id : Nat} {a b : List Nat} (ha : Dg B64 a) (hb : Dg B64 b) {n : Nat} (hn : a.length + b.length = n) (hs : n ≤ 100000) : ∀ (k i : Nat) (h : Heap) (cs : List Nat), i + k = a.length → live h id = some (nl .u64 cs) → cs.length = n → Dg B64 cs → (∀ x ∈ cs.drop (i + b.length), x = 0) →
    val B64 cs = val B64 (a.take i) * val B64 b →
    limb_Mul.l0 (nats b) (.rs 1 id 0 n) (nats a) (.int .i64 a.length) (.int .i64 i) h = some (.tup [nats (dig B64 (val B64 a * val B64 b)), .int .i64 0]) := by
  intro k
  induction k with
  | zero =>
    intro i h cs hik hl hcs hd hz hv
    rw [limb_Mul.l0_eq]
    simp only [bin_lss, bind_s, cond_d]
    rw [if_neg (by omega)]
    have hr : Row h .u64 (.rs 1 id 0 n) cs := by rw [← hcs]; exact Row.own hl
    rw [trim_out hr (by omega) hd, hv, List.take_of_length_le (by omega)]
  | succ k ih =>
    intro i h cs hik hl hcs hd hz hv
    rw [limb_Mul.l0_eq]
    simp only [bin_lss, bind_s, cond_d]
    rw [if_pos (by omega), (Row.nats h a).rd (by omega) (by omega)]
    simp only [len_nats, bind_s, Int.toNat_natCast]
    rw [int_add (by omega) (by omega)]
    simp only [bind_s]
    rw [slc_rs (by omega) (by omega) (by omega)]
    simp only [bind_s, Nat.mul_one, Nat.zero_add]
    rw [Int.toNat_natCast, show ((i : Int) + (b.length : Int)).toNat - i = b.length by omega]
    have hx : a.getD i 0 < B64 := ha.getD (by decide)
    obtain ⟨f, c, e1, e2, e3, e4, e5⟩ := addP_run (off := i) (n := b.length) (Off.nats id b) hb hx (by omega) rfl hl (Row.nats h b) (by omega) hd
    rw [e1]
    simp only [bind_s]
    rw [sidx_rs (by omega) (by omega)]
    simp only [bind_s, Nat.mul_one, Nat.zero_add]
    have hlen : (cs.take i ++ f ++ cs.drop (i + b.length)).length = n := by simp [e2]; omega
    have hil : i + b.length < (cs.take i ++ f ++ cs.drop (i + b.length)).length := by omega
    rw [show ((i : Int) + (b.length : Int)).toNat = i + b.length by omega, store_nl (live_set_self hl) hil]
    simp only [bind_s]
    rw [int_add (by omega) (by omega), set_set]
    simp only [bind_s]
    have hcs2 : (cs.take i ++ f ++ cs.drop (i + b.length)).set (i + b.length) c = cs.take i ++ f ++ c :: cs.drop (i + b.length + 1) := by
      have hpl : (cs.take i ++ f).length = i + b.length := by simp [e2]; omega
      rw [drop_cons cs (i + b.length) (by omega), ← hpl, List.set_append_right _ _ (Nat.le_refl _), Nat.sub_self, List.set_cons_zero]
    rw [hcs2]
    have hd2 : Dg B64 (cs.take i ++ f ++ c :: cs.drop (i + b.length + 1)) := ((hd.take i).append e3).append (.cons e4 (hd.drop _))
    have hz0 : val B64 (cs.drop (i + b.length + 1)) = 0 := by
      have := val_drop_zeros (B := B64) (cs.drop (i + b.length + 1)).length (cs.drop (i + b.length + 1)) (fun x hx => hz x (by
        rw [drop_cons cs (i + b.length) (by omega)]; exact List.mem_cons_of_mem _ hx))
      rwa [List.take_length] at this
    refine ih (i + 1) _ (cs.take i ++ f ++ c :: cs.drop (i + b.length + 1)) (by omega) (live_set_self hl) (by simp [e2]; omega) hd2 ?_ ?_
    · intro x hx
      have hpl : (cs.take i ++ f).length = i + b.length := by simp [e2]; omega
      rw [List.drop_append, List.drop_of_length_le (by omega), List.nil_append, hpl, show i + 1 + b.length - (i + b.length) = 1 by omega, List.drop_succ_cons, List.drop_zero] at hx
      exact hz x (by rw [drop_cons cs (i + b.length) (by omega)]; exact List.mem_cons_of_mem _ hx)
    · -- the number
      have hpl : (cs.take i ++ f).length = i + b.length := by simp [e2]; omega
      have hti : (cs.take i).length = i := by simp; omega
      rw [val_append, hpl, val_cons, hz0, val_append, hti, Nat.mul_zero, Nat.add_zero]
      have hz1 : val B64 (cs.drop (i + b.length)) = 0 := by
        have := val_drop_zeros (B := B64) (cs.drop (i + b.length)).length (cs.drop (i + b.length)) hz
        rwa [List.take_length] at this
      have hsp : val B64 cs = val B64 (cs.take i) + B64 ^ i * val B64 ((cs.drop i).take b.length) := by
        have h1 := val_split (B := B64) cs i
        have h2 := val_split (B := B64) (cs.drop i) b.length
        rw [List.drop_drop, hz1, Nat.mul_zero, Nat.add_zero] at h2
        rw [h1, hti, h2]
      rw [val_take_succ', Nat.add_mul, ← hv, hsp, Nat.pow_add]
      generalize val B64 ((cs.drop i).take b.length) = v1 at *
      generalize val B64 (cs.take i) = v0 at *
      generalize val B64 f = vf at *
      generalize val B64 b = vb at *
      generalize a.getD i 0 = x at *
      have e6 : B64 ^ i * (vf + c * B64 ^ b.length) = B64 ^ i * (v1 + x * vb) := by rw [e5]
      rw [Nat.mul_add, Nat.mul_add] at e6
      have e7 : B64 ^ i * B64 ^ b.length * c = B64 ^ i * (c * B64 ^ b.length) := by rw [Nat.mul_assoc, Nat.mul_comm c]
      have e8 : B64 ^ i * x * vb = B64 ^ i * (x * vb) := Nat.mul_assoc _ _ _
      rw [e7, e8]
      omega

/-- The product of two rows. -/
theorem limb_mul (l m : List Nat) (hl : Dg B64 l) (hm : Dg B64 m) : cv gp fid.limb_Mul [nats l, nats m] = some (if 4000 < l.length ∨ 4000 < m.length then .tup [nats [], .int .i64 5] else .tup [nats (dig B64 (val B64 l * val B64 m)), .int .i64 0]) := by
  rw [limb_Mul.eq]
  unfold limb_Mul.f
  rw [bslc_two]
  simp only [bind_s]
  rw [long_two]
  simp only [bind_s, cond_d]
  split
  · exact frz_nil2
  · rename_i hn
    simp only [len_nats, bind_s]
    rw [int_add (by omega) (by omega)]
    simp only [bind_s]
    rw [mks_nl (by omega) (by omega) (by omega)]
    simp only [bind_s]
    have e : ((l.length : Int) + (m.length : Int)).toNat = l.length + m.length := by omega
    rw [e]
    exact mul_l0 (id := 0) hl hm rfl (by omega) l.length 0 _ (List.replicate (l.length + m.length) 0) (by omega) zeros_row (by simp) (Dg.replicate _ (by decide)) (fun x hx => List.eq_of_mem_replicate (List.mem_of_mem_drop hx)) (by simp [val, val_zeros])

/-! ### shifted -/

theorem shift_digit {x c s : Nat} (hx : x < B64) (hc : c < 2 ^ s) (hs : s < 64) : (c ||| (x * 2 ^ s) % 18446744073709551616) + B64 * (x / 2 ^ (64 - s)) = c + x * 2 ^ s ∧ (c ||| (x * 2 ^ s) % 18446744073709551616) < B64 ∧ x / 2 ^ (64 - s) < 2 ^ s := by
  have e64 : (18446744073709551616 : Nat) = 2 ^ (64 - s) * 2 ^ s := by rw [← Nat.pow_add, show 64 - s + s = 64 by omega]
  have hdiv : x / 2 ^ (64 - s) = x * 2 ^ s / 18446744073709551616 := by rw [e64, Nat.mul_div_mul_right _ _ (Nat.two_pow_pos s)]
  have hmod : (x * 2 ^ s) % 18446744073709551616 = (x % 2 ^ (64 - s)) * 2 ^ s := by rw [e64, Nat.mul_mod_mul_right]
  have hor : (c ||| (x * 2 ^ s) % 18446744073709551616) = c + (x * 2 ^ s) % 18446744073709551616 := by
    rw [hmod, Nat.or_comm, or_add hc, Nat.add_comm]
  have h1 := Nat.div_add_mod (x * 2 ^ s) 18446744073709551616
  have h3 : x / 2 ^ (64 - s) < 2 ^ s := by
    rw [Nat.div_lt_iff_lt_mul (Nat.two_pow_pos _), ← Nat.pow_add, show s + (64 - s) = 64 by omega]; exact hx
  have h2 : c + (x * 2 ^ s) % 18446744073709551616 < B64 := by
    rw [hmod]
    have h4 : x % 2 ^ (64 - s) + 1 ≤ 2 ^ (64 - s) := Nat.mod_lt _ (Nat.two_pow_pos _)
    have h5 := Nat.mul_le_mul_right (2 ^ s) h4
    rw [← e64, Nat.add_mul, Nat.one_mul] at h5
    unfold B64
    omega
  rw [hor, hdiv]
  refine ⟨?_, h2, by rw [← hdiv]; exact h3⟩
  unfold B64
  omega

theorem shifted_l0 {id s : Nat} {y : AV} {l : List Nat} (ho : Off id y) (hdl : Dg B64 l) (hs : s < 64) (hn : l.length ≤ 100000) : ∀ (k i : Nat) (h : Heap) (cs : List Nat), i + k = l.length → live h id = some (nl .u64 cs) → Row h .u64 y l → cs.length = l.length + 1 → Dg B64 cs → cs.getD i 0 < 2 ^ s →
    val B64 (cs.take i) + B64 ^ i * cs.getD i 0 = val B64 (l.take i) * 2 ^ s →
    ∃ f, limb_shifted.l0 (.int .i64 s) (.rs 1 id 0 (l.length + 1)) y (.int .i64 l.length) (.int .i64 i) h = some (.rs 1 id 0 (l.length + 1), h.set id (some (nl .u64 f))) ∧ f.length = l.length + 1 ∧ Dg B64 f ∧ val B64 f = val B64 l * 2 ^ s ∧ f.getD l.length 0 < 2 ^ s := by
  intro k
  induction k with
  | zero =>
    intro i h cs hik hl hr hcs hd hc hv
    have hi : i = l.length := by omega
    subst hi
    refine ⟨cs, ?_, hcs, hd, ?_, hc⟩
    · rw [limb_shifted.l0_eq]
      simp only [bin_lss, bind_s, cond_d]
      rw [if_neg (by omega), set_same hl]
    · rw [← List.take_length (l := cs), hcs, val_take_succ cs l.length (by omega), hv, List.take_length]
  | succ k ih =>
    intro i h cs hik hl hr hcs hd hc hv
    rw [limb_shifted.l0_eq]
    simp only [bin_lss, bind_s, cond_d]
    rw [if_pos (by omega), hr.rd (by omega) (by omega), Int.toNat_natCast]
    rw [sidx_rs (by omega) (by omega)]
    simp only [bind_s, Int.toNat_natCast, Nat.mul_one, Nat.zero_add]
    rw [load_nl hl (by omega)]
    simp only [bind_s]
    rw [u_shl_i (by omega)]
    simp only [bind_s, Int.toNat_natCast]
    have hx : l.getD i 0 < B64 := hdl.getD (by decide)
    have h0 : cs.getD i 0 < B64 := hd.getD (by decide)
    obtain ⟨d1, d2, d3⟩ := shift_digit hx hc hs
    rw [u_or h0 (Nat.mod_lt _ (by omega))]
    simp only [bind_s]
    rw [store_nl hl (by omega)]
    simp only [bind_s]
    rw [int_add (by omega) (by omega)]
    simp only [bind_s]
    rw [int_sub (by omega) (by omega)]
    simp only [bind_s]
    rw [u_shr_i hx (by omega), show ((64 : Int) - (s : Int)).toNat = 64 - s by omega]
    simp only [bind_s]
    rw [sidx_rs (by omega) (by omega), show ((i : Int) + 1).toNat = i + 1 by omega]
    simp only [bind_s, Nat.mul_one, Nat.zero_add]
    rw [store_nl (live_set_self hl) (by simp; omega)]
    simp only [bind_s, set_set]
    generalize hw : (cs.getD i 0 ||| (l.getD i 0 * 2 ^ s) % 18446744073709551616) = w at *
    generalize hq : l.getD i 0 / 2 ^ (64 - s) = q at *
    have hqB : q < B64 := Nat.lt_of_lt_of_le d3 (by
      have : (2 : Nat) ^ s ≤ 2 ^ 64 := Nat.pow_le_pow_right (by omega) (by omega)
      exact this)
    have hg : ((cs.set i w).set (i + 1) q).getD (i + 1) 0 = q := by rw [getD_set, if_pos ⟨rfl, by simp; omega⟩]
    have ht : ((cs.set i w).set (i + 1) q).take (i + 1) = cs.take i ++ [w] := by rw [set_take, set_take_succ _ _ _ (by omega)]
    obtain ⟨f, e1, e2, e3, e4, e5⟩ := ih (i + 1) (h.set id (some (nl .u64 ((cs.set i w).set (i + 1) q)))) ((cs.set i w).set (i + 1) q) (by omega) (live_set_self hl) (hr.other ho _) (by simpa using hcs) ((hd.set d2).set hqB) (by rw [hg]; exact d3) (by
      rw [hg, ht, val_snoc, List.length_take, Nat.min_eq_left (by omega), val_take_succ', Nat.add_mul, ← hv, Nat.pow_succ]
      have e6 : B64 ^ i * (w + B64 * q) = B64 ^ i * (cs.getD i 0 + l.getD i 0 * 2 ^ s) := by rw [d1]
      rw [Nat.mul_add, Nat.mul_add] at e6
      have e7 : B64 ^ i * B64 * q = B64 ^ i * (B64 * q) := Nat.mul_assoc _ _ _
      have e8 : B64 ^ i * l.getD i 0 * 2 ^ s = B64 ^ i * (l.getD i 0 * 2 ^ s) := Nat.mul_assoc _ _ _
      rw [e7, e8]
      omega)
    refine ⟨f, ?_, e2, e3, e4, e5⟩
    rw [show ((i : Int) + 1) = ((i + 1 : Nat) : Int) by omega, e1, set_set]

theorem shifted_run {h : Heap} {s : Nat} {y : AV} {l : List Nat} (ho : Off h.length y) (hdl : Dg B64 l) (hs : s < 64) (hn : l.length ≤ 100000) (hr : Row h .u64 y l) :
    ∃ f, callW gp fid.limb_shifted [y, .int .i64 s] h = some (.rs 1 h.length 0 (l.length + 1), h ++ [some (nl .u64 f)]) ∧ f.length = l.length + 1 ∧ Dg B64 f ∧ val B64 f = val B64 l * 2 ^ s ∧ f.getD l.length 0 < 2 ^ s := by
  have hz : (List.replicate (l.length + 1) 0).getD 0 0 = 0 := rfl
  obtain ⟨f, e1, e2, e3, e4, e5⟩ := shifted_l0 (id := h.length) ho hdl hs hn l.length 0 (h ++ [some (nl .u64 (List.replicate (l.length + 1) 0))]) (List.replicate (l.length + 1) 0) (by omega) zeros_row
    (hr.mono fun id off n cs e hl => live_app_old hl) (by simp) (Dg.replicate _ (by decide)) (by rw [hz]; exact Nat.two_pow_pos s) (by simp [val])
  refine ⟨f, ?_, e2, e3, e4, e5⟩
  rw [limb_shifted.eq]
  unfold limb_shifted.f
  rw [hr.len]
  simp only [bind_s]
  rw [int_add (by omega) (by omega)]
  simp only [bind_s]
  rw [mks_nl (by omega) (by omega) (by omega)]
  simp only [bind_s]
  rw [show ((l.length : Int) + 1).toNat = l.length + 1 by omega]
  have : (h ++ [some (nl .u64 (List.replicate (l.length + 1) 0))]).set h.length (some (nl .u64 f)) = h ++ [some (nl .u64 f)] := by
    rw [List.set_append_right _ _ (Nat.le_refl _), Nat.sub_self]; rfl
  rw [← this]
  exact e1

end Go.Proofs.Ytlpimdkgboabcaa.Am
