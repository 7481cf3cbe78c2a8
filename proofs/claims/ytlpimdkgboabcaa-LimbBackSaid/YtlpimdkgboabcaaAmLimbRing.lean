/- The law LimbRing. -/
import Derived.Test.YtlpimdkgboabcaaAmSame
import Derived.Test.YtlpimdkgboabcaaAmRow
set_option linter.unusedVariables false
set_option linter.unusedSimpArgs false
namespace Go.Proofs.Ytlpimdkgboabcaa.Am
open Go

theorem add_by {h : Heap} (l m : List Nat) (hl : Dg B64 l) (hm : Dg B64 m) (h1 : l.length ≤ 4000) (h2 : m.length ≤ 4000) : byVal (callW gp) h fid.limb_Add [nats l, nats m] = some (.tup [nats (dig B64 (val B64 l + val B64 m)), .int .i64 0]) := by
  rw [byVal_imm (imm_l2 imm_nats imm_nats (by omega) (by omega)) (limb_add l m hl hm), if_neg (by omega)]
theorem mulr_by {h : Heap} (l m : List Nat) (hl : Dg B64 l) (hm : Dg B64 m) (h1 : l.length ≤ 4000) (h2 : m.length ≤ 4000) : byVal (callW gp) h fid.limb_Mul [nats l, nats m] = some (.tup [nats (dig B64 (val B64 l * val B64 m)), .int .i64 0]) := by
  rw [byVal_imm (imm_l2 imm_nats imm_nats (by omega) (by omega)) (limb_mul l m hl hm), if_neg (by omega)]

theorem live_tail {h : Heap} : ((byVal (callW gp) h fid.gussetlaw01_live []).bind fun v => freeze h v) = some (.bool true) := by
  rw [live_by, bind_s]; rfl

theorem dig_len2 {a : Nat} {k : Nat} (h : a < B64 ^ k) : (dig B64 a).length ≤ k := dig_len_lt b64_two h

set_option exponentiation.threshold 1000 in
theorem limbRing_cv (a b c : List Nat) (ha : Dg B64 a) (hb : Dg B64 b) (hc : Dg B64 c) : cv gp fid.gussetlaw01_LimbRing [nats a, nats b, nats c] = some (.bool true) := by
  rw [gussetlaw01_LimbRing.eq]
  unfold gussetlaw01_LimbRing.f
  simp only [len_nats, bind_s, bin_gtr, guard_df, cond_d]
  split
  · exact live_tail
  split
  · exact live_tail
  split
  · exact live_tail
  rename_i h1 h2 h3
  have l1 : a.length ≤ 200 := by omega
  have l2 : b.length ≤ 200 := by omega
  have l3 : c.length ≤ 200 := by omega
  have up : ∀ {l : List Nat} {n : Nat}, Dg B64 l → l.length ≤ n → val B64 l < B64 ^ n := fun hd hn => Nat.lt_of_lt_of_le (val_lt hd) (Nat.pow_le_pow_right (by decide) hn)
  have hs : (dig B64 (val B64 a + val B64 b)).length ≤ 201 := dig_len2 (by
    have := up ha l1
    have := up hb l2
    have e : B64 ^ 201 = B64 ^ 200 * B64 := Nat.pow_succ ..
    have : B64 ^ 200 * 2 ≤ B64 ^ 200 * B64 := Nat.mul_le_mul_left _ (by decide)
    omega)
  have hp : ∀ {x y : List Nat}, Dg B64 x → Dg B64 y → x.length ≤ 200 → y.length ≤ 200 → (dig B64 (val B64 x * val B64 y)).length ≤ 400 := fun hx hy l l' => dig_len2 (by
    rw [show (400 : Nat) = 200 + 200 from rfl, Nat.pow_add]
    exact Nat.mul_lt_mul'' (up hx l) (up hy l'))
  have d := fun n => dig_Dg b64_two n
  rw [add_by a b ha hb (by omega) (by omega), add_by b a hb ha (by omega) (by omega), mulr_by a b ha hb (by omega) (by omega), mulr_by b a hb ha (by omega) (by omega)]
  simp only [bind_s, ext0, ext1]
  rw [mulr_by _ c (d _) hc (by omega) (by omega), mulr_by a c ha hc (by omega) (by omega), mulr_by b c hb hc (by omega) (by omega)]
  simp only [bind_s, ext0, ext1]
  have q1 := hp ha hc l1 l3
  have q2 := hp hb hc l2 l3
  rw [add_by _ _ (d _) (d _) (by omega) (by omega)]
  simp only [bind_s, ext0, ext1, bin_eql, guard_dt, if_true]
  have q3 := hp ha hb l1 l2
  rw [same_by _ _ (by omega)]
  simp only [bind_s, guard_dt]
  rw [if_pos (by rw [Nat.add_comm]), same_by _ _ (by omega)]
  simp only [bind_s, guard_dt]
  rw [if_pos (by rw [Nat.mul_comm])]
  simp only [val_dig b64_two]
  have q4 : (dig B64 ((val B64 a + val B64 b) * val B64 c)).length ≤ 401 := dig_len2 (by
    have e := val_dig b64_two (val B64 a + val B64 b)
    rw [show (401 : Nat) = 201 + 200 from rfl, Nat.pow_add]
    refine Nat.mul_lt_mul'' ?_ (up hc l3)
    rw [← e]
    exact up (d _) hs)
  rw [same_by _ _ (by omega)]
  simp only [bind_s, guard_dt]
  rw [if_pos (by rw [Nat.add_mul])]
  exact live_tail

/-- A row of limbs that comes in. -/
theorem row_in {P : Program} {k : Nat} {t e : TypeId} {v : AV} (hu : P.underlying t = some (.slice e)) (he : P.underlying e = some (.int .u64)) (hc : P.cellsOf e = 1) (h : DatV P (k + 2) t v) : ∃ l, v = nats l ∧ Dg B64 l := by
  unfold DatV at h
  rw [if_neg (by simp [isAggT, hu])] at h
  unfold Dat at h
  rw [hu] at h
  simp only at h
  obtain ⟨n, xs, hv, hn, hl, hx⟩ := h
  simp only [List.cons.injEq, and_true] at hv
  subst hv
  rw [hc, Nat.mul_one] at hl
  have key : ∀ (xs : List AV), (∀ i, i < xs.length → ∃ z : Int, xs[i]? = some (.int .u64 z) ∧ 0 ≤ z ∧ z < 18446744073709551616) → ∃ l : List Nat, xs = nl .u64 l ∧ Dg B64 l := by
    intro xs
    induction xs with
    | nil => intro _; exact ⟨[], rfl, .nil⟩
    | cons x xs ih =>
      intro h
      obtain ⟨l, hl, hd⟩ := ih fun i hi => by
        obtain ⟨z, h1, h2⟩ := h (i + 1) (by simp; omega)
        exact ⟨z, by simpa using h1, h2⟩
      obtain ⟨z, h1, h2, h3⟩ := h 0 (by simp)
      simp only [List.getElem?_cons_zero, Option.some.injEq] at h1
      refine ⟨z.toNat :: l, ?_, .cons (by unfold B64; omega) hd⟩
      rw [nl_cons, ← hl, h1]
      unfold nat
      congr 2
      omega
  obtain ⟨l, he', hd⟩ := key xs fun i hi => by
    have := hx i (by omega)
    rw [hc, Nat.mul_one] at this
    unfold Dat at this
    rw [he] at this
    simp only at this
    obtain ⟨z, h1, h2⟩ := this
    refine ⟨z, ?_, ?_⟩
    · have := congrArg (fun l => l[0]?) h1
      simpa using this
    · simp [Lit.wf, IntKind.min, IntKind.max, IntKind.signed, IntKind.bits] at h2
      omega
  refine ⟨l, ?_, hd⟩
  have hnl : n = l.length := by rw [← hl, he', nl_len]
  unfold nats
  rw [he', hnl]

theorem limbRing_law (xs : List AV) (h : Dats Try.prog 9 Try.f7.params.toList xs) : cv gp 7 xs = some (.bool true) := by
  have hp : Try.f7.params.toList = [22, 22, 22] := by kernel_rfl
  rw [hp] at h
  match xs, h with
  | [x, y, z], ⟨hx, hy, hz, _⟩ =>
    obtain ⟨a, rfl, ha⟩ := row_in (k := 7) Try.underlying22 (by kernel_rfl) (by kernel_rfl) hx
    obtain ⟨b, rfl, hb⟩ := row_in (k := 7) Try.underlying22 (by kernel_rfl) (by kernel_rfl) hy
    obtain ⟨c, rfl, hc⟩ := row_in (k := 7) Try.underlying22 (by kernel_rfl) (by kernel_rfl) hz
    exact limbRing_cv a b c ha hb hc

end Go.Proofs.Ytlpimdkgboabcaa.Am
