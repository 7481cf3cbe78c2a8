import Derived.Test.YtcpmkohlmjakmaaGreatDoorAmV
/- Arrays as arguments. -/
set_option linter.unusedVariables false
set_option maxRecDepth 10000
set_option linter.unusedSimpArgs false
namespace Go.Proofs.YtcpmkohlmjakmaaGreatDoor.Am
open Go

section
variable {P : Program}
theorem chunk {α : Type} {f : α → List AV} {c : Nat} {ok : α → Prop} (hf : ∀ x, (f x).length = c) : ∀ (n : Nat) (xs : List AV), xs.length = n * c → (∀ i, i < n → ∃ x, (xs.drop (i * c)).take c = f x ∧ ok x) → ∃ l : List α, xs = l.flatMap f ∧ l.length = n ∧ ∀ x ∈ l, ok x
  | 0, xs, hl, _ => by
    have : xs = [] := List.length_eq_zero_iff.1 (by simpa using hl)
    subst this
    exact ⟨[], rfl, rfl, by simp⟩
  | n + 1, xs, hl, h => by
    obtain ⟨x, hx, ox⟩ := h 0 (by omega)
    rw [Nat.zero_mul, List.drop_zero] at hx
    rw [Nat.add_mul, Nat.one_mul] at hl
    obtain ⟨l, h1, h2, h3⟩ := chunk hf n (xs.drop c) (by rw [List.length_drop]; omega) fun i hi => by
      have := h (i + 1) (by omega)
      rwa [Nat.add_mul, Nat.one_mul, Nat.add_comm, ← List.drop_drop] at this
    refine ⟨x :: l, ?_, by simp [h2], ?_⟩
    · rw [List.flatMap_cons, ← hx, ← h1, List.take_append_drop]
    · intro y hy
      rcases List.mem_cons.1 hy with rfl | hy
      · exact ox
      · exact h3 y hy
theorem arr_cells {k n : Nat} {t e : TypeId} {cs : List AV} {α : Type} {f : α → List AV} {ok : α → Prop} {c : Nat} (hu : P.underlying t = some (.array n e)) (hc : P.cellsOf e = c) (hl : P.cellsOf t = n * c) (hf : ∀ x, (f x).length = c) (he : ∀ cs, Dat P k e cs → ∃ x, cs = f x ∧ ok x) (hd : Dat P (k + 1) t cs) :
    ∃ l : List α, cs = l.flatMap f ∧ l.length = n ∧ ∀ x ∈ l, ok x := by
  unfold Dat at hd
  rw [hu] at hd
  obtain ⟨h1, h2⟩ := hd
  rw [hc] at h2
  rw [hl] at h1
  exact chunk hf n cs h1 fun i hi => he _ (h2 i hi)
theorem arr_in {k n : Nat} {t e : TypeId} {v : AV} {α : Type} {f : α → List AV} {ok : α → Prop} {c : Nat} (hag : isAggT P t = true) (hu : P.underlying t = some (.array n e)) (hc : P.cellsOf e = c) (hl : P.cellsOf t = n * c) (hf : ∀ x, (f x).length = c) (he : ∀ cs, Dat P k e cs → ∃ x, cs = f x ∧ ok x) (h : DatV P (k + 1) t v) :
    ∃ l : List α, v = .agg (l.flatMap f) ∧ l.length = n ∧ ∀ x ∈ l, ok x := by
  obtain ⟨cs, rfl, hd⟩ := agg_in hag h
  obtain ⟨l, g1, g2, g3⟩ := arr_cells (ok := ok) hu hc hl hf he hd
  exact ⟨l, by rw [g1], g2, g3⟩
theorem p3_in {t e : TypeId} {v : AV} (hag : isAggT P t = true) (hu : P.underlying t = some (.array 3 e)) (he : isPtT P e = true) (hl : P.cellsOf t = 18) (h : DatV P 9 t v) : ∃ p : T3, v = .agg (t3c p) ∧ p.ok := by
  obtain ⟨l, rfl, hn, hok⟩ := arr_in (k := 8) (f := ptc) (ok := PT.ok) hag hu (cells_of_T.2.2.2.2.1 he) hl ptc_len (fun cs h => pt_cells he h) h
  match l, hn with
  | [a, b, c], _ => exact ⟨(a, b, c), by simp [t3c], hok a (by simp), hok b (by simp), hok c (by simp)⟩
end
end Go.Proofs.YtcpmkohlmjakmaaGreatDoor.Am