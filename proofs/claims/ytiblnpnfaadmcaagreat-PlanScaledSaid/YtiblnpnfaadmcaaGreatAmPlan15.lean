import Derived.Test.YtiblnpnfaadmcaaGreatAmPlan14
/- Section 09: PlanLeast. -/
set_option linter.unusedVariables false
set_option maxRecDepth 10000
set_option linter.unusedSimpArgs false
namespace Go.Proofs.YtiblnpnfaadmcaaGreat.Am
open Go

theorem firstE_mem {α : Type} {f : α → Int} : ∀ {l : List α}, firstE (l.map f) = 0 → ∀ t ∈ l, f t = 0
  | [], _, t, ht => by cases ht
  | a :: l, h, t, ht => by
    rw [List.map_cons, firstE] at h
    by_cases h0 : f a = 0
    · rw [if_pos h0] at h
      rcases List.mem_cons.1 ht with rfl | ht
      · exact h0
      · exact firstE_mem h t ht
    · rw [if_neg h0] at h; exact absurd h h0
theorem to_ps : ∀ (xs : List PT), (∀ t ∈ xs, t.ok) → fewP xs → (∀ t ∈ xs, askc t = 0) → ∃ ps : List (Rat × Rat), xs = ps.map pc ∧ ∀ p ∈ ps, Rz p.1 30 ∧ Rz p.2 30
  | [], _, _, _ => ⟨[], rfl, fun p hp => by cases hp⟩
  | t :: l, h1, h2, h3 => by
    obtain ⟨ps, e, hp⟩ := to_ps l (fun t ht => h1 t (List.mem_cons_of_mem _ ht)) (fun t ht => h2 t (List.mem_cons_of_mem _ ht)) (fun t ht => h3 t (List.mem_cons_of_mem _ ht))
    obtain ⟨x, y, e', z1, z2⟩ := pt_rat (h1 t (List.mem_cons_self ..)) (h2 t (List.mem_cons_self ..)) (h3 t (List.mem_cons_self ..))
    refine ⟨(x, y) :: ps, by rw [e, e']; rfl, fun p hp' => ?_⟩
    rcases List.mem_cons.1 hp' with rfl | hp'
    · exact ⟨z1, z2⟩
    · exact hp p hp'
theorem to_ss {n : Nat} : ∀ (gs : List Sg), EVs n gs → ∃ ss : List Sq, gs = ss.map sq_ ∧ ∀ s ∈ ss, s.1 < n ∧ s.2.1 < n
  | [], _ => ⟨[], rfl, fun p hp => by cases hp⟩
  | t :: l, h => by
    obtain ⟨ss, e, hs⟩ := to_ss l (fun t ht => h t (List.mem_cons_of_mem _ ht))
    have ht := h t (List.mem_cons_self ..)
    unfold EV at ht
    refine ⟨(t.a.toNat, t.b.toNat, t.f) :: ss, ?_, fun s hs' => ?_⟩
    · rw [List.map_cons, ← e]
      congr 1
      unfold sq_
      cases t
      simp only [Sg.mk.injEq, and_true] at *
      omega
    · rcases List.mem_cons.1 hs' with rfl | hs'
      · dsimp only; omega
      · exact hs s hs'
theorem pz_of {ps : List (Rat × Rat)} (h : ∀ p ∈ ps, Rz p.1 30 ∧ Rz p.2 30) : PZ ps := fun i hi => by
  have e : ps.getD i (0, 0) = ps[i] := by simp [List.getD, List.getElem?_eq_getElem hi]
  obtain ⟨a, b⟩ := h _ (List.getElem_mem hi)
  unfold px py
  rw [e]
  exact ⟨a.mono (by omega), b.mono (by omega)⟩
theorem sv_of {n : Nat} {ss : List Sq} (h : ∀ s ∈ ss, s.1 < n ∧ s.2.1 < n) : SV n ss := fun i hi => by
  have e : sat ss i = ss[i] := by unfold sat; simp [List.getD, List.getElem?_eq_getElem hi]
  rw [e]
  exact h _ (List.getElem_mem hi)
section
variable {y0 y1 : AV} {k : Nat} {H : Heap}
end
end Go.Proofs.YtiblnpnfaadmcaaGreat.Am
