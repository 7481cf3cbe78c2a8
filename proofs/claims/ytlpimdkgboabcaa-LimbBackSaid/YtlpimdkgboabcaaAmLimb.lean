/- The limbs' functions: trimming, order, sums, differences. -/
import Derived.Test.YtlpimdkgboabcaaAmDiv
set_option linter.unusedVariables false
set_option linter.unusedSimpArgs false
namespace Go.Proofs.Ytlpimdkgboabcaa.Am
open Go

abbrev B64 : Nat := 18446744073709551616
theorem b64_two : 2 ≤ B64 := by decide

/-! ### trimmed -/

theorem trimmed_l0 {h : Heap} {x : AV} {l : List Nat} (hr : Row h .u64 x l) (hl : l.length ≤ 4611686018427387904) : ∀ k, k ≤ l.length → limb_trimmed.l0 x (.int .i64 (k : Nat)) h = some (x.cut (tl (l.take k)), h) := by
  intro k
  induction k with
  | zero =>
    intro hk
    rw [limb_trimmed.l0_eq]
    simp only [bin_gtr, bind_s, guard_dt]
    rw [if_neg (by omega), hr.slc3 (by omega) (by omega)]
    rfl
  | succ k ih =>
    intro hk
    rw [limb_trimmed.l0_eq]
    simp only [bin_gtr, bind_s, guard_dt]
    rw [if_pos (by omega), int_sub (by omega) (by omega)]
    simp only [bind_s]
    rw [hr.rd (by omega) (by omega)]
    rw [show (((k + 1 : Nat) : Int) - 1) = (k : Int) by omega, Int.toNat_natCast]
    unfold nat
    simp only [bin_eql, bind_s, cond_d]
    rw [tl_take l k (by omega)]
    split
    · rename_i h0
      rw [if_pos (by omega)]
      exact ih (by omega)
    · rename_i h0
      rw [if_neg (by omega), hr.slc3 (by omega) (by omega)]
      rfl

/-- A row without the zeros at its end. -/
theorem trimmed {h : Heap} {x : AV} {l : List Nat} (hr : Row h .u64 x l) (hl : l.length ≤ 4611686018427387904) (hd : Dg B64 l) : callW gp fid.limb_trimmed [x] h = some (x.cut (tl l), h) ∧ Row h .u64 (x.cut (tl l)) (dig B64 (val B64 l)) := by
  refine ⟨?_, ?_⟩
  · rw [limb_trimmed.eq]
    unfold limb_trimmed.f
    rw [hr.len]
    simp only [bind_s]
    rw [trimmed_l0 hr hl _ (Nat.le_refl _), List.take_length]
  · rw [← take_tl b64_two hd]
    exact hr.cut (tl_le l)

/-! ### long -/

theorem long_l0 (xs : List AV) (n : Nat) (hn : xs.length = n) (hn2 : n ≤ 1000) (hx : ∀ x ∈ xs, ∃ l : List Nat, x = nats l) : ∀ k i, i + k = n → limb_long.l0 (.is n false xs) (.int .i64 n) (.int .i64 (i : Nat)) = some (.bool ((xs.drop i).any fun x => match x with | .is m _ _ => decide (4000 < m) | _ => false)) := by
  intro k
  induction k with
  | zero =>
    intro i hi
    rw [limb_long.l0_eq]
    simp only [bin_lss, bind_s, cond_d]
    rw [if_neg (by omega), List.drop_of_length_le (by omega)]
    rfl
  | succ k ih =>
    intro i hi
    rw [limb_long.l0_eq]
    simp only [bin_lss, bind_s, cond_d]
    have hil : i < xs.length := by omega
    rw [if_pos (by omega), sidx_is (by omega) (by omega)]
    simp only [bind_s, load_ip, Int.toNat_natCast, Nat.mul_one]
    obtain ⟨l, hl⟩ := hx xs[i] (List.getElem_mem hil)
    have e : readCells (xs.drop i) none = some (nats l) := by
      simp only [readCells, List.head?_drop, List.getElem?_eq_getElem hil, hl]
    rw [e, List.drop_eq_getElem_cons hil, hl]
    simp only [bind_s, len_is, bin_gtr, cond_d, List.any_cons, nats]
    split
    · rename_i h4
      rw [decide_eq_true (by omega)]
      rfl
    · rename_i h4
      rw [int_add (by omega) (by omega), decide_eq_false (by omega)]
      simp only [bind_s, Bool.false_or]
      exact ih (i + 1) (by omega)

theorem long1 (l : List Nat) : cv gp fid.limb_long [.is 1 false [nats l]] = some (.bool (decide (4000 < l.length))) := by
  rw [limb_long.eq]
  unfold limb_long.f
  simp only [len_is, bind_s]
  have := long_l0 [nats l] 1 rfl (by omega) (fun x hx => ⟨l, List.mem_singleton.1 hx⟩) 1 0 (by omega)
  simp only [Int.natCast_zero] at this ⊢
  rw [this]
  simp [nats]
theorem long2 (l m : List Nat) : cv gp fid.limb_long [.is 2 false [nats l, nats m]] = some (.bool (decide (4000 < l.length ∨ 4000 < m.length))) := by
  rw [limb_long.eq]
  unfold limb_long.f
  simp only [len_is, bind_s]
  have := long_l0 [nats l, nats m] 2 rfl (by omega) (fun x hx => by
    rcases List.mem_cons.1 hx with h | h
    · exact ⟨l, h⟩
    · exact ⟨m, List.mem_singleton.1 h⟩) 2 0 (by omega)
  simp only [Int.natCast_zero] at this ⊢
  rw [this]
  simp [nats]

/-! ### order -/

theorem cmpI_self (a : Nat) : cmpI a a = 0 := by unfold cmpI; simp
theorem cmpI_lt {a b : Nat} (h : a < b) : cmpI a b = -1 := by unfold cmpI; rw [if_pos h]
theorem cmpI_gt {a b : Nat} (h : b < a) : cmpI a b = 1 := by unfold cmpI; rw [if_neg (by omega), if_pos h]
theorem cmpI_ne {a b : Nat} : cmpI a b ≠ 0 ↔ a ≠ b := by unfold cmpI; split <;> (try split) <;> omega
theorem cmpI_neg {a b : Nat} : cmpI a b < 0 ↔ a < b := by unfold cmpI; split <;> (try split) <;> omega

theorem imm_l2 {d e : Nat} {a b : AV} (h : Imm d a) (k : Imm e b) (hd : d ≤ 12) (he : e ≤ 12) : ∀ c ∈ [a, b], Imm 12 c := fun c hc => by
  rcases List.mem_cons.1 hc with rfl | hc
  · exact h.mono hd
  · rw [List.mem_singleton.1 hc]; exact k.mono he
theorem imm_l3 {d e f : Nat} {a b c : AV} (h : Imm d a) (k : Imm e b) (l : Imm f c) (hd : d ≤ 12) (he : e ≤ 12) (hf : f ≤ 12) : ∀ x ∈ [a, b, c], Imm 12 x := fun x hx => by
  rcases List.mem_cons.1 hx with rfl | hx
  · exact h.mono hd
  · exact imm_l2 k l he hf x hx

theorem order_l0 {l m : List Nat} (hl : Dg B64 l) (hm : Dg B64 m) (hlen : l.length = m.length) (hs : l.length ≤ 4611686018427387904) : ∀ k, k ≤ l.length → l.drop k = m.drop k → limb_order.l0 (nats l) (nats m) (.int .i64 ((k : Int) - 1)) = some (.int .i64 (cmpI (val B64 l) (val B64 m))) := by
  intro k
  induction k with
  | zero =>
    intro hk hd
    rw [limb_order.l0_eq]
    simp only [bin_geq, bind_s, cond_d]
    rw [if_neg (by omega)]
    simp only [List.drop_zero] at hd
    rw [hd, cmpI_self]
    rfl
  | succ k ih =>
    intro hk hd
    rw [limb_order.l0_eq]
    simp only [bin_geq, bind_s, cond_d]
    rw [if_pos (by omega)]
    have hr := Row.nats [] l
    have hr' := Row.nats [] m
    rw [show (((k + 1 : Nat) : Int) - 1) = (k : Int) by omega, hr.rd (by omega) (by omega), hr'.rd (by omega) (by omega)]
    rw [Int.toNat_natCast, byVal_imm (imm_l2 imm_nat imm_nat (by omega) (by omega)) (compare_uint64 _ _)]
    simp only [bind_s, bin_neq, cond_d]
    by_cases h : l.getD k 0 = m.getD k 0
    · rw [if_neg (fun e => cmpI_ne.1 e h), int_sub (by omega) (by omega)]
      simp only [bind_s]
      exact ih (by omega) (by rw [drop_cons l k (by omega), drop_cons m k (by omega), h, hd])
    · rw [if_pos (cmpI_ne.2 h)]
      have : cmpI (l.getD k 0) (m.getD k 0) = cmpI (val B64 l) (val B64 m) := by
        rcases Nat.lt_or_gt_of_ne h with h | h
        · rw [cmpI_lt h, cmpI_lt (val_lt_of_top hl hm k hlen (by omega) hd h)]
        · rw [cmpI_gt h, cmpI_gt (val_lt_of_top hm hl k hlen.symm (by omega) hd.symm h)]
      rw [this]
      rfl

/-- The order of two numbers, their rows without zeros at the end. -/
theorem order (a b : Nat) (ha : (dig B64 a).length ≤ 1000000) (hb : (dig B64 b).length ≤ 1000000) : cv gp fid.limb_order [nats (dig B64 a), nats (dig B64 b)] = some (.int .i64 (cmpI a b)) := by
  rw [limb_order.eq]
  unfold limb_order.f
  simp only [len_nats, bind_s]
  rw [byVal_imm (imm_l2 imm_int imm_int (by omega) (by omega)) (compare_int _ _)]
  simp only [bind_s, bin_neq, cond_d]
  by_cases h1 : (dig B64 a).length < (dig B64 b).length
  · rw [if_pos (by rw [if_pos (by omega)]; omega), if_pos (by omega), cmpI_lt (lt_of_len_lt b64_two h1)]
    rfl
  · by_cases h2 : (dig B64 b).length < (dig B64 a).length
    · rw [if_pos (by rw [if_neg (by omega), if_pos (by omega)]; omega), if_neg (by omega), if_pos (by omega), cmpI_gt (lt_of_len_lt b64_two h2)]
      rfl
    · rw [if_neg (by rw [if_neg (by omega), if_neg (by omega)]; simp), int_sub (by omega) (by omega)]
      simp only [bind_s]
      have := order_l0 (dig_Dg b64_two a) (dig_Dg b64_two b) (by omega) (by omega) _ (Nat.le_refl _) (by rw [List.drop_length, List.drop_of_length_le (by omega)])
      rw [this, val_dig b64_two, val_dig b64_two]

/-! ### Cmp -/

theorem freeze_rows2 {h : Heap} {l k : List Nat} : freeze h (.is 2 true [nats l, nats k]) = some (.is 2 false [nats l, nats k]) := by
  unfold freeze
  rw [fz_is, mapM2 ((imm_nats 11 (by omega)).2 _) ((imm_nats 11 (by omega)).2 _)]
  rfl

/-- Are two rows too long? -/
theorem long_two {h : Heap} (l m : List Nat) : byVal (callW gp) h fid.limb_long [.is 2 true [nats l, nats m]] = some (.bool (decide (4000 < l.length ∨ 4000 < m.length))) :=
  byVal_flat (mapM1 freeze_rows2) (long2 l m) rfl
theorem bslc_two (l m : List Nat) : opBslc 1 2 [.is 0 true []] [(0, nats l), (1, nats m)] = some (.is 2 true [nats l, nats m]) := bslc_rows2

theorem order_by {h : Heap} {x y : AV} {a b : Nat} (hx : Row h .u64 x (dig B64 a)) (hy : Row h .u64 y (dig B64 b)) (ha : (dig B64 a).length ≤ 1000000) (hb : (dig B64 b).length ≤ 1000000) : byVal (callW gp) h fid.limb_order [x, y] = some (.int .i64 (cmpI a b)) :=
  byVal_flat (mapM2 hx.frz hy.frz) (order a b ha hb) rfl

theorem frz_ii {h : Heap} {k k' : IntKind} {a b : Int} : freeze h (.tup [.int k a, .int k' b]) = some (.tup [.int k a, .int k' b]) := Eq.trans rfl rfl

/-- The order of two rows. -/
theorem limb_cmp (l m : List Nat) (hl : Dg B64 l) (hm : Dg B64 m) : cv gp fid.limb_Cmp [nats l, nats m] = some (if 4000 < l.length ∨ 4000 < m.length then .tup [.int .i64 0, .int .i64 5] else .tup [.int .i64 (cmpI (val B64 l) (val B64 m)), .int .i64 0]) := by
  rw [limb_Cmp.eq]
  unfold limb_Cmp.f
  rw [bslc_two]
  simp only [bind_s]
  rw [long_two]
  simp only [bind_s, cond_d]
  split
  · exact frz_ii
  · rename_i hn
    obtain ⟨e1, r1⟩ := trimmed (Row.nats [] l) (by omega) hl
    obtain ⟨e2, r2⟩ := trimmed (Row.nats [] m) (by omega) hm
    rw [e1]
    simp only [bind_s]
    rw [e2]
    simp only [bind_s]
    have h1 := dig_len_le b64_two hl
    have h2 := dig_len_le b64_two hm
    rw [order_by r1 r2 (by omega) (by omega)]
    simp only [bind_s]
    exact frz_ii

end Go.Proofs.Ytlpimdkgboabcaa.Am
