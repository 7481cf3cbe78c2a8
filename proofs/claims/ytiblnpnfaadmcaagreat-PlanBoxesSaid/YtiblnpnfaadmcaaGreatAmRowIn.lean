import Derived.Test.YtiblnpnfaadmcaaGreatAmPlB
import Derived.Test.YtiblnpnfaadmcaaGreatAmV
/- Rows of points and of segments as arguments. -/
set_option linter.unusedVariables false
set_option maxRecDepth 10000
set_option linter.unusedSimpArgs false
namespace Go.Proofs.YtiblnpnfaadmcaaGreat.Am
open Go

section
variable {P : Program}
theorem chunkP {α : Type} {f : α → List AV} {c : Nat} {ok : α → Prop} (hf : ∀ x, (f x).length = c) : ∀ (n : Nat) (xs : List AV), xs.length = n * c → (∀ i, i < n → ∃ x, (xs.drop (i * c)).take c = f x ∧ ok x) → ∃ l : List α, xs = l.flatMap f ∧ l.length = n ∧ ∀ x ∈ l, ok x
  | 0, xs, hl, _ => by
    have : xs = [] := List.length_eq_zero_iff.1 (by simpa using hl)
    subst this
    exact ⟨[], rfl, rfl, by simp⟩
  | n + 1, xs, hl, h => by
    obtain ⟨x, hx, ox⟩ := h 0 (by omega)
    rw [Nat.zero_mul, List.drop_zero] at hx
    rw [Nat.add_mul, Nat.one_mul] at hl
    obtain ⟨l, h1, h2, h3⟩ := chunkP hf n (xs.drop c) (by rw [List.length_drop]; omega) fun i hi => by
      have := h (i + 1) (by omega)
      rwa [Nat.add_mul, Nat.one_mul, Nat.add_comm, ← List.drop_drop] at this
    refine ⟨x :: l, ?_, by simp [h2], ?_⟩
    · rw [List.flatMap_cons, ← hx, ← h1, List.take_append_drop]
    · intro y hy
      rcases List.mem_cons.1 hy with rfl | hy
      · exact ox
      · exact h3 y hy
theorem rowP {k : Nat} {t e : TypeId} {cs : List AV} {α : Type} {f : α → List AV} {ok : α → Prop} {c : Nat} (hu : P.underlying t = some (.slice e)) (hc : P.cellsOf e = c) (hf : ∀ x, (f x).length = c) (he : ∀ cs, Dat P k e cs → ∃ x, cs = f x ∧ ok x) (hd : Dat P (k + 1) t cs) :
    ∃ l : List α, cs = [.is l.length false (l.flatMap f)] ∧ ∀ x ∈ l, ok x := by
  unfold Dat at hd
  rw [hu] at hd
  obtain ⟨n, xs, rfl, hn, hl, hx⟩ := hd
  rw [hc] at hl hx
  obtain ⟨l, h1, h2, h3⟩ := chunkP hf n xs hl fun i hi => he _ (hx i hi)
  exact ⟨l, by rw [h1, ← h2], h3⟩
def isRowT (P : Program) (t e : TypeId) : Bool := P.cellsOf t == 1 &&
  match P.underlying t with
  | some (.slice d) => d == e
  | _ => false
theorem row_of {t e : TypeId} (h : isRowT P t e = true) : P.cellsOf t = 1 ∧ P.underlying t = some (.slice e) := by
  unfold isRowT at h
  simp only [Bool.and_eq_true, beq_iff_eq] at h
  refine ⟨h.1, ?_⟩
  have h2 := h.2
  split at h2
  · rename_i d hu
    simp only [beq_iff_eq] at h2
    rw [hu, h2]
  · cases h2
theorem pts_in {t pt : TypeId} {v : AV} (hag : isAggT P t = false) (h1 : isRowT P t pt = true) (h2 : isPtT P pt = true) (h : DatV P 9 t v) : ∃ l : List PT, v = .is l.length false (l.flatMap ptc) ∧ ∀ p ∈ l, p.ok := by
  obtain ⟨c1, u1⟩ := row_of h1
  unfold DatV at h
  rw [if_neg (by rw [hag]; simp)] at h
  obtain ⟨ps, g1, k1⟩ := rowP (k := 8) (f := ptc) (ok := PT.ok) u1 (cells_of_T.2.2.2.2.1 h2) ptc_len (fun cs h => pt_cells h2 h) h
  exact ⟨ps, by simpa using g1, k1⟩
abbrev Tr := Int × Int × Int
structure Ms where
  pts : List PT
  tris : List Tr
  segs : List Sg
end
end Go.Proofs.YtiblnpnfaadmcaaGreat.Am
