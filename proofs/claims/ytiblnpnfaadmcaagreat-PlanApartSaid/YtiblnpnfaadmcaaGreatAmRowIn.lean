import Derived.Test.YtiblnpnfaadmcaaGreatAmPlB
import Derived.Test.YtiblnpnfaadmcaaGreatAmV
/- Rows of points and of segments as arguments. -/
set_option linter.unusedVariables false
set_option maxRecDepth 10000
set_option linter.unusedSimpArgs false
namespace Go.Proofs.YtiblnpnfaadmcaaGreat.Am
open Go

section
variable {P : Program}
theorem chunkP {α : Type} {f : α → List AV} {c : Nat} {ok : α → Prop} (hf : ∀ x, (f x).length = c) : ∀ (n : Nat) (xs : List AV), xs.length = n * c → (∀ i, i < n → ∃ x, (xs.drop (i * c)).take c = f x ∧ ok x) → ∃ l : List α, xs = l.flatMap f ∧ l.length = n ∧ ∀ x ∈ l, ok x
 | 0, xs, hl, _ => by
  have : xs = [] := List.length_eq_zero_iff.1 (by simpa using hl)
  subst this
  exact ⟨[], rfl, rfl, by simp⟩
 | n + 1, xs, hl, h => by
  obtain ⟨x, hx, ox⟩ := h 0 (by omega)
  rw [Nat.zero_mul, List.drop_zero] at hx
  rw [Nat.add_mul, Nat.one_mul] at hl
  obtain ⟨l, h1, h2, h3⟩ := chunkP hf n (xs.drop c) (by rw [List.length_drop]; omega) fun i hi => by
   have := h (i + 1) (by omega)
   rwa [Nat.add_mul, Nat.one_mul, Nat.add_comm, ← List.drop_drop] at this
  refine ⟨x :: l, ?_, by simp [h2], ?_⟩
  ·rw [List.flatMap_cons, ← hx, ← h1, List.take_append_drop]
  ·intro y hy
   rcases List.mem_cons.1 hy with rfl | hy
   ·exact ox
   ·exact h3 y hy
theorem arrP {k n : Nat} {t e : TypeId} {cs : List AV} {α : Type} {f : α → List AV} {ok : α → Prop} {c : Nat} (hu : P.underlying t = some (.array n e)) (hc : P.cellsOf e = c) (hl : P.cellsOf t = n * c) (hf : ∀ x, (f x).length = c) (he : ∀ cs, Dat P k e cs → ∃ x, cs = f x ∧ ok x) (hd : Dat P (k + 1) t cs) :
  ∃ l : List α, cs = l.flatMap f ∧ l.length = n ∧ ∀ x ∈ l, ok x := by
 unfold Dat at hd
 rw [hu] at hd
 obtain ⟨h1, h2⟩ := hd
 rw [hc] at h2
 rw [hl] at h1
 exact chunkP hf n cs h1 fun i hi => he _ (h2 i hi)
abbrev Tr := Int × Int × Int
structure Ms where
 pts : List PT
 tris : List Tr
 segs : List Sg
end
end Go.Proofs.YtiblnpnfaadmcaaGreat.Am
