/- Arguments of the common kinds, opened. -/
import Derived.Test.YtlpimdkgboabcaaAmNat
import Derived.Test.YtlpimdkgboabcaaAmRow
set_option linter.unusedVariables false
set_option linter.unusedSimpArgs false
namespace Go.Proofs.Ytlpimdkgboabcaa.Am
open Go

/-- A row of limbs that comes in. -/
theorem limbs_in {P : Program} {k : Nat} {t e : TypeId} {v : AV} (hu : P.underlying t = some (.slice e)) (he : P.underlying e = some (.int .u64)) (hc : P.cellsOf e = 1) (h : DatV P (k + 2) t v) : ∃ l, v = nats l ∧ Dg B64 l := by
  unfold DatV at h
  rw [if_neg (by simp [isAggT, hu])] at h
  unfold Dat at h
  rw [hu] at h
  simp only at h
  obtain ⟨n, xs, hv, hn, hl, hx⟩ := h
  simp only [List.cons.injEq, and_true] at hv
  subst hv
  rw [hc, Nat.mul_one] at hl
  have key : ∀ (xs : List AV), (∀ i, i < xs.length → ∃ z : Int, xs[i]? = some (.int .u64 z) ∧ 0 ≤ z ∧ z < 18446744073709551616) → ∃ l : List Nat, xs = nl .u64 l ∧ Dg B64 l := by
    intro xs
    induction xs with
    | nil => intro _; exact ⟨[], rfl, .nil⟩
    | cons x xs ih =>
      intro h
      obtain ⟨l, hl, hd⟩ := ih fun i hi => by
        obtain ⟨z, h1, h2⟩ := h (i + 1) (by simp; omega)
        exact ⟨z, by simpa using h1, h2⟩
      obtain ⟨z, h1, h2, h3⟩ := h 0 (by simp)
      simp only [List.getElem?_cons_zero, Option.some.injEq] at h1
      refine ⟨z.toNat :: l, ?_, .cons (by unfold B64; omega) hd⟩
      rw [nl_cons, ← hl, h1]
      unfold nat
      congr 2
      omega
  obtain ⟨l, he', hd⟩ := key xs fun i hi => by
    have := hx i (by omega)
    rw [hc, Nat.mul_one] at this
    unfold Dat at this
    rw [he] at this
    simp only at this
    obtain ⟨z, h1, h2⟩ := this
    refine ⟨z, ?_, ?_⟩
    · have := congrArg (fun l => l[0]?) h1
      simpa using this
    · simp [Lit.wf, IntKind.min, IntKind.max, IntKind.signed, IntKind.bits] at h2
      omega
  refine ⟨l, ?_, hd⟩
  have hnl : n = l.length := by rw [← hl, he', nl_len]
  unfold nats
  rw [he', hnl]


/-- A string that comes in. -/
theorem str_in {P : Program} {k : Nat} {t : TypeId} {v : AV} (hu : P.underlying t = some .string) (h : DatV P (k + 1) t v) : ∃ l, v = str l ∧ ∀ x ∈ l, x < 256 := by
  unfold DatV at h
  rw [if_neg (by simp [isAggT, hu])] at h
  unfold Dat at h
  rw [hu] at h
  simp only at h
  obtain ⟨s, hv, _⟩ := h
  simp only [List.cons.injEq, and_true] at hv
  subst hv
  exact ⟨bytesOf s, (str_bytesOf s).symm, bytesOf_lt s⟩

/-- A whole number that comes in. -/
theorem int_in {P : Program} {k : Nat} {t : TypeId} {v : AV} (hu : P.underlying t = some (.int .i64)) (h : DatV P (k + 1) t v) : ∃ z : Int, v = .int .i64 z ∧ -9223372036854775808 ≤ z ∧ z ≤ 9223372036854775807 := by
  unfold DatV at h
  rw [if_neg (by simp [isAggT, hu])] at h
  unfold Dat at h
  rw [hu] at h
  simp only at h
  obtain ⟨z, hv, hw⟩ := h
  simp only [List.cons.injEq, and_true] at hv
  subst hv
  refine ⟨z, rfl, ?_⟩
  simp [Lit.wf, IntKind.min, IntKind.max, IntKind.signed, IntKind.bits] at hw
  omega

/-- A bool that comes in. -/
theorem bool_in {P : Program} {k : Nat} {t : TypeId} {v : AV} (hu : P.underlying t = some .bool) (h : DatV P (k + 1) t v) : ∃ b, v = .bool b := by
  unfold DatV at h
  rw [if_neg (by simp [isAggT, hu])] at h
  unfold Dat at h
  rw [hu] at h
  simp only at h
  obtain ⟨b, hv⟩ := h
  simp only [List.cons.injEq, and_true] at hv
  exact ⟨b, hv⟩
end Go.Proofs.Ytlpimdkgboabcaa.Am
