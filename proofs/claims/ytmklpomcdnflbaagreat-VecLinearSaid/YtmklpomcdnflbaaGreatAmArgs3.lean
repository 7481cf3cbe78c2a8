import Derived.Test.YtmklpomcdnflbaaGreatAmV
import Derived.Test.YtmklpomcdnflbaaGreatAmDet
/- Arguments that are rows of numbers and matrices, opened. -/
set_option linter.unusedVariables false
set_option maxRecDepth 10000
set_option linter.unusedSimpArgs false
namespace Go.Proofs.YtmklpomcdnflbaaGreat.Am
open Go

variable {P : Program}

theorem chunks {α : Type} {f : α → List AV} {c : Nat} {ok : α → Prop} (hf : ∀ x, (f x).length = c) : ∀ (n : Nat) (xs : List AV), xs.length = n * c → (∀ i, i < n → ∃ x, (xs.drop (i * c)).take c = f x ∧ ok x) → ∃ l : List α, xs = l.flatMap f ∧ l.length = n ∧ ∀ x ∈ l, ok x
  | 0, xs, hl, _ => by
    have : xs = [] := List.length_eq_zero_iff.1 (by simpa using hl)
    subst this
    exact ⟨[], rfl, rfl, by simp⟩
  | n + 1, xs, hl, h => by
    obtain ⟨x, hx, ox⟩ := h 0 (by omega)
    rw [Nat.zero_mul, List.drop_zero] at hx
    rw [Nat.add_mul, Nat.one_mul] at hl
    obtain ⟨l, h1, h2, h3⟩ := chunks hf n (xs.drop c) (by rw [List.length_drop]; omega) fun i hi => by
      have := h (i + 1) (by omega)
      rwa [Nat.add_mul, Nat.one_mul, Nat.add_comm, ← List.drop_drop] at this
    refine ⟨x :: l, ?_, by simp [h2], ?_⟩
    · rw [List.flatMap_cons, ← hx, ← h1, List.take_append_drop]
    · intro y hy
      rcases List.mem_cons.1 hy with rfl | hy
      · exact ox
      · exact h3 y hy
theorem rats_cells {k : Nat} {t e : TypeId} {cs : List AV} (hu : P.underlying t = some (.slice e)) (he : isRatT P e = true) (h : Dat P (k + 4) t cs) : ∃ r : List RT, cs = [rowV r] ∧ ∀ x ∈ r, x.ok := by
  unfold Dat at h
  rw [hu] at h
  obtain ⟨n, xs, rfl, hn, hl, hx⟩ := h
  rw [cells_of_T.2.2.2.1 he] at hl hx
  obtain ⟨r, h1, h2, h3⟩ := chunks (f := rtc) (ok := RT.ok) rtc_len n xs hl fun i hi => rat_cells he (hx i hi)
  exact ⟨r, by rw [h1, ← h2], h3⟩
theorem mat_in {t e d : TypeId} {v : AV} (hag : isAggT P t = false) (hu : P.underlying t = some (.slice e)) (hu2 : P.underlying e = some (.slice d)) (hc : P.cellsOf e = 1) (hd : isRatT P d = true) (h : DatV P 9 t v) : ∃ m : List (List RT), v = matV m ∧ ∀ r ∈ m, ∀ x ∈ r, x.ok := by
  unfold DatV at h
  rw [if_neg (by rw [hag]; decide)] at h
  unfold Dat at h
  rw [hu] at h
  obtain ⟨n, xs, hv, hn, hl, hx⟩ := h
  rw [hc] at hl hx
  obtain ⟨m, h1, h2, h3⟩ := chunks (f := fun r => [rowV r]) (ok := fun r => ∀ x ∈ r, x.ok) (fun _ => rfl) n xs hl fun i hi => rats_cells (k := 4) hu2 hd (hx i hi)
  have e1 : ∀ m : List (List RT), m.flatMap (fun r => [rowV r]) = m.map rowV := fun m => by induction m with
    | nil => rfl
    | cons x m ih => rw [List.flatMap_cons, ih]; rfl
  refine ⟨m, ?_, h3⟩
  rw [List.cons.injEq] at hv
  rw [hv.1, h1, e1, ← h2]
end Go.Proofs.YtmklpomcdnflbaaGreat.Am