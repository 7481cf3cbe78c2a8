/- Sums, differences and products of rows. -/
import Derived.Test.YtlpimdkgboabcaaAmTake
set_option linter.unusedVariables false
set_option linter.unusedSimpArgs false
namespace Go.Proofs.Ytlpimdkgboabcaa.Am
open Go

theorem val_take_succ' {B : Nat} (l : List Nat) (i : Nat) : val B (l.take (i + 1)) = val B (l.take i) + B ^ i * l.getD i 0 := by
  rcases Nat.lt_or_ge i l.length with h | h
  · exact val_take_succ l i h
  · rw [List.take_of_length_le (by omega), List.take_of_length_le h, getD_out l i h]; simp
theorem set_take {l : List Nat} {p x : Nat} : (l.set p x).take p = l.take p := List.take_set_of_le (Nat.le_refl _)

theorem frz_ri {h : Heap} {x : AV} {l : List Nat} (hr : Row h .u64 x l) {k : IntKind} {z : Int} : freeze h (.tup [x, .int k z]) = some (.tup [nats l, .int k z]) :=
  frz_tup2 (hr.frzN (by omega)) rfl

/-- A row is trimmed and handed out. -/
theorem trim_out {h : Heap} {x : AV} {l : List Nat} (hr : Row h .u64 x l) (hl : l.length ≤ 4611686018427387904) (hd : Dg B64 l) {k : IntKind} {z : Int} : ((callW gp fid.limb_trimmed [x] h).bind fun r => freeze r.2 (.tup [r.1, .int k z])) = some (.tup [nats (dig B64 (val B64 l)), .int k z]) := by
  obtain ⟨e, r⟩ := trimmed hr hl hd
  rw [e, bind_s]
  exact frz_ri r

/-! ### Add -/

theorem refm_add1 : gp.refm fid.limb_Add_1 = false := by kernel_rfl
theorem add1_cv (l : List Nat) (i : Nat) : cv gp fid.limb_Add_1 [nats l, .int .i64 i] = some (nat .u64 (l.getD i 0)) := by
  rw [limb_Add_1.eq]
  unfold limb_Add_1.f
  simp only [len_nats, bind_s, bin_lss, cond_d]
  split
  · rw [(Row.nats [] l).rd (by omega) (by omega), Int.toNat_natCast]
    rfl
  · rw [getD_out l i (by omega)]
    rfl
theorem add1_by {R : Type} {h : Heap} (l : List Nat) (i : Nat) (K : AV → Heap → Option R) : callK' (callW gp) gp.refm h (.fn fid.limb_Add_1 []) [nats l, .int .i64 i] K = K (nat .u64 (l.getD i 0)) h := by
  unfold callK'
  simp only [refm_add1, cond_false, List.append_nil]
  rw [byVal_imm (imm_l2 imm_nats imm_int (by omega) (by omega)) (add1_cv l i), bind_s]

theorem add_l0 {id : Nat} {a b : List Nat} (ha : Dg B64 a) (hb : Dg B64 b) {n : Nat} (hn : n ≤ 100000) (han : a.length < n) (hbn : b.length < n) : ∀ (k i : Nat) (h : Heap) (cs : List Nat) (c : Nat), i + k = n → live h id = some (nl .u64 cs) → cs.length = n → Dg B64 cs → c ≤ 1 →
    val B64 (cs.take i) + c * B64 ^ i = val B64 (a.take i) + val B64 (b.take i) →
    limb_Add.l0 (nats a) (nats b) (.rs 1 id 0 n) (nat .u64 c) (.fn fid.limb_Add_1 []) (.int .i64 n) (.int .i64 i) h = some (.tup [nats (dig B64 (val B64 a + val B64 b)), .int .i64 0]) := by
  intro k
  induction k with
  | zero =>
    intro i h cs c hik hl hcs hd hc hv
    rw [limb_Add.l0_eq]
    simp only [bin_lss, bind_s, cond_d]
    rw [if_neg (by omega)]
    have hr : Row h .u64 (.rs 1 id 0 n) cs := by rw [← hcs]; exact Row.own hl
    rw [trim_out hr (by omega) hd]
    rw [List.take_of_length_le (by omega), List.take_of_length_le (by omega), List.take_of_length_le (by omega)] at hv
    have h1 := val_lt ha
    have h2 := val_lt hb
    have h3 : B64 ^ a.length * 2 ≤ B64 ^ i := by
      have : B64 ^ (a.length + 1) ≤ B64 ^ i := Nat.pow_le_pow_right (by decide) (by omega)
      rw [Nat.pow_succ] at this
      exact Nat.le_trans (Nat.mul_le_mul_left _ (by decide)) this
    have h4 : B64 ^ b.length * 2 ≤ B64 ^ i := by
      have : B64 ^ (b.length + 1) ≤ B64 ^ i := Nat.pow_le_pow_right (by decide) (by omega)
      rw [Nat.pow_succ] at this
      exact Nat.le_trans (Nat.mul_le_mul_left _ (by decide)) this
    have hc0 : c = 0 := by
      rcases Nat.lt_or_ge c 1 with h | h
      · omega
      · have : c = 1 := by omega
        subst this
        omega
    subst hc0
    rw [Nat.zero_mul, Nat.add_zero] at hv
    rw [hv]
  | succ k ih =>
    intro i h cs c hik hl hcs hd hc hv
    rw [limb_Add.l0_eq]
    simp only [bin_lss, bind_s, cond_d]
    rw [if_pos (by omega), add1_by, add1_by, add64 hc]
    simp only [bind_s, ext0, ext1]
    rw [sidx_rs (by omega) (by omega)]
    simp only [bind_s, Int.toNat_natCast, Nat.mul_one, Nat.zero_add]
    rw [store_nl hl (by omega)]
    simp only [bind_s]
    rw [int_add (by omega) (by omega)]
    simp only [bind_s]
    have hx : a.getD i 0 < B64 := ha.getD (by decide)
    have hy : b.getD i 0 < B64 := hb.getD (by decide)
    have hm : (a.getD i 0 + b.getD i 0 + c) % 18446744073709551616 < B64 := Nat.mod_lt _ (by omega)
    refine ih (i + 1) _ (cs.set i ((a.getD i 0 + b.getD i 0 + c) % 18446744073709551616)) _ (by omega) (live_set_self hl) (by simpa using hcs) (hd.set hm) (by unfold B64 at hx hy; omega) ?_
    rw [set_take_succ _ _ _ (by omega), val_snoc, List.length_take, Nat.min_eq_left (by omega), val_take_succ', val_take_succ', Nat.pow_succ]
    have hdm := Nat.div_add_mod (a.getD i 0 + b.getD i 0 + c) 18446744073709551616
    generalize (a.getD i 0 + b.getD i 0 + c) / 18446744073709551616 = q at *
    generalize (a.getD i 0 + b.getD i 0 + c) % 18446744073709551616 = r at *
    have e : B64 ^ i * r + q * (B64 ^ i * B64) = B64 ^ i * (a.getD i 0) + B64 ^ i * (b.getD i 0) + c * B64 ^ i := by
      have e1 : q * (B64 ^ i * B64) = B64 ^ i * (18446744073709551616 * q) := by
        rw [Nat.mul_comm q, Nat.mul_assoc]
      rw [e1, ← Nat.mul_add, Nat.add_comm r, hdm, Nat.mul_add, Nat.mul_add, Nat.mul_comm c]
    omega

theorem zeros_row {h : Heap} {n : Nat} : live (h ++ [some (nl .u64 (List.replicate n 0))]) h.length = some (nl .u64 (List.replicate n 0)) := live_app_self

theorem add_j0 (a b : List Nat) (ha : Dg B64 a) (hb : Dg B64 b) (hn : a.length ≤ 4000) (hab : b.length ≤ a.length) : limb_Add.j0 (nats a) (nats b) = some (.tup [nats (dig B64 (val B64 a + val B64 b)), .int .i64 0]) := by
  unfold limb_Add.j0
  simp only [len_nats, bind_s]
  rw [int_add (by omega) (by omega)]
  simp only [bind_s]
  rw [mks_nl (by omega) (by omega) (by omega)]
  simp only [bind_s, len_rs]
  have e : ((a.length : Int) + 1).toNat = a.length + 1 := by omega
  rw [e]
  have := add_l0 (id := 0) ha hb (n := a.length + 1) (by omega) (by omega) (by omega) (a.length + 1) 0 [some (nl .u64 (List.replicate (a.length + 1) 0))] (List.replicate (a.length + 1) 0) 0 (by omega) rfl (by simp) (Dg.replicate _ (by decide)) (by omega) (by simp [val])
  exact this

theorem frz_nil2 {h : Heap} {f : Bool} {k : IntKind} {z : Int} : freeze h (.tup [.is 0 f [], .int k z]) = some (.tup [nats [], .int k z]) := Eq.trans rfl rfl

/-- The sum of two rows. -/
theorem limb_add (l m : List Nat) (hl : Dg B64 l) (hm : Dg B64 m) : cv gp fid.limb_Add [nats l, nats m] = some (if 4000 < l.length ∨ 4000 < m.length then .tup [nats [], .int .i64 5] else .tup [nats (dig B64 (val B64 l + val B64 m)), .int .i64 0]) := by
  rw [limb_Add.eq]
  unfold limb_Add.f
  rw [bslc_two]
  simp only [bind_s]
  rw [long_two]
  simp only [bind_s, cond_d]
  split
  · exact frz_nil2
  · rename_i hn
    simp only [len_nats, bind_s, bin_lss, cond_d]
    split
    · rw [add_j0 m l hm hl (by omega) (by omega), Nat.add_comm]
    · rw [add_j0 l m hl hm (by omega) (by omega)]

/-! ### Sub -/

/-- The difference of two rows. -/
theorem limb_sub (l m : List Nat) (hl : Dg B64 l) (hm : Dg B64 m) : cv gp fid.limb_Sub [nats l, nats m] = some (if 4000 < l.length ∨ 4000 < m.length then .tup [nats [], .int .i64 5] else if val B64 l < val B64 m then .tup [nats [], .int .i64 2] else .tup [nats (dig B64 (val B64 l - val B64 m)), .int .i64 0]) := by
  rw [limb_Sub.eq]
  unfold limb_Sub.f
  rw [bslc_two]
  simp only [bind_s]
  rw [long_two]
  simp only [bind_s, cond_d]
  split
  · exact frz_nil2
  · rename_i hn
    obtain ⟨e1, r1⟩ := trimmed (Row.nats [] l) (by omega) hl
    obtain ⟨e2, r2⟩ := trimmed (Row.nats [] m) (by omega) hm
    have h1 := dig_len_le b64_two hl
    have h2 := dig_len_le b64_two hm
    rw [e1]
    simp only [bind_s]
    rw [e2]
    simp only [bind_s]
    rw [order_by r1 r2 (by omega) (by omega)]
    simp only [bind_s, bin_lss, cond_d]
    by_cases hlt : val B64 l < val B64 m
    · rw [if_pos (cmpI_neg.2 hlt), if_pos hlt]
      exact frz_nil2
    · rw [if_neg (fun e => hlt (cmpI_neg.1 e)), if_neg hlt, bslc_0]
      simp only [bind_s]
      generalize ho : (nats m).cut (tl m) = y at *
      have hoff : Off 0 y ∧ Off 2 y := by subst ho; exact ⟨(Off.nats 0 m).cut _, (Off.nats 2 m).cut _⟩
      generalize ho1 : (nats l).cut (tl l) = x at *
      have hxo : ∀ id, Off id x := fun id => by subst ho1; exact (Off.nats id l).cut _
      have fin : ∀ (h : Heap) (id : Nat), live h id = some (nl .u64 (dig B64 (val B64 l))) → Off id y → Row h .u64 y (dig B64 (val B64 m)) →
          ((callW gp fid.limb_take [.rs 1 id 0 (dig B64 (val B64 l)).length, y] h).bind fun r9 => (callW gp fid.limb_trimmed [.rs 1 id 0 (dig B64 (val B64 l)).length] r9.2).bind fun r10 => freeze r10.2 (.tup [r10.1, .int .i64 0])) = some (.tup [nats (dig B64 (val B64 l - val B64 m)), .int .i64 0]) := by
        intro h id hlv hoy hry
        obtain ⟨f, b', t1, t2, t3, t4, t5⟩ := take_run (off := 0) (n := (dig B64 (val B64 l)).length) hoy (dig_Dg b64_two (val B64 m)) (by omega) (by omega) hlv hry (by omega) (dig_Dg b64_two _)
        rw [t1]
        simp only [bind_s]
        have hf : (dig B64 (val B64 l)).take 0 ++ f ++ (dig B64 (val B64 l)).drop (0 + (dig B64 (val B64 l)).length) = f := by simp
        rw [hf]
        have hrf : Row (h.set id (some (nl .u64 f))) .u64 (.rs 1 id 0 (dig B64 (val B64 l)).length) f := by rw [← t2]; exact Row.own (live_set_self hlv)
        rw [trim_out hrf (by omega) t3]
        have h5 : (dig B64 (val B64 m)).length ≤ (dig B64 (val B64 l)).length := by
          rcases Nat.lt_or_ge (dig B64 (val B64 l)).length (dig B64 (val B64 m)).length with h | h
          · exact absurd (lt_of_len_lt b64_two h) hlt
          · exact h
        rw [List.take_of_length_le h5, List.drop_zero, List.take_length, val_dig b64_two, val_dig b64_two] at t5
        have h6 := val_lt t3
        rw [t2] at h6
        have hb0 : b' = 0 := by
          rcases Nat.lt_or_ge b' 1 with h | h
          · omega
          · have : b' = 1 := by omega
            subst this
            omega
        subst hb0
        rw [show val B64 l - val B64 m = val B64 f by omega]
      by_cases h0 : dig B64 (val B64 l) = []
      · rw [h0] at r1
        have hn0 : Row [] .u64 (.is 0 true (nl .u64 [])) [] := Row.nil [] .u64 true
        rw [app_none hn0 r1 (by simp)]
        simp only [bind_s]
        have hv0 : val B64 l = 0 := (dig_eq_nil b64_two).1 h0
        have ht : callW gp fid.limb_take [.is 0 true (nl .u64 []), y] [] = some (nat .u64 0, []) := by
          rw [limb_take.eq]
          unfold limb_take.f
          simp only [len_is, bind_s]
          rw [limb_take.l0_eq]
          simp only [bin_lss, bind_s, cond_d]
          rw [if_neg (by omega)]
        rw [ht]
        simp only [bind_s]
        rw [trim_out hn0 (by simp) .nil, hv0, Nat.zero_sub]
        rfl
      · have ha := app_nil (h := []) r1 h0 (by omega)
        have hnl : nl .u64 [] = [] := rfl
        rw [hnl, ha]
        simp only [bind_s]
        refine fin _ 0 rfl hoff.1 ?_
        refine r2.mono fun id off n cs e hl => ?_
        subst ho
        exact absurd e (by simp [AV.cut, nats])

end Go.Proofs.Ytlpimdkgboabcaa.Am
