import Derived.Test.YtechbfodaallkaaGreatAmCopy
/- The law of section 10 that both answers are one. -/
set_option linter.unusedVariables false
set_option maxRecDepth 10000
set_option linter.unusedSimpArgs false
namespace Go.Proofs.YtechbfodaallkaaGreat.Am
open Go

theorem given_zero {p : Pl} (h : (givenF p).1 = 0) : givenF p = (0, 0, 0) ∧ firstE (p.pts.map askc) = 0 ∧ firstE (p.holes.map askc) = 0 ∧ scan (fun i => badS p.pts.length (sgAt p.segs i)) p.segs.length 0 = none := by
  unfold givenF at *
  by_cases q1 : 40 < p.pts.length ∨ 60 < p.segs.length ∨ 10 < p.holes.length
  · rw [if_pos q1] at h; exact absurd h (show ¬ (5 : Int) = 0 by decide)
  rw [if_neg q1] at *
  by_cases q2 : firstE (p.pts.map askc) ≠ 0
  · rw [if_pos q2] at h; exact absurd h q2
  rw [if_neg q2] at *
  by_cases q3 : firstE (p.holes.map askc) ≠ 0
  · rw [if_pos q3] at h; exact absurd h q3
  rw [if_neg q3] at *
  by_cases q4 : ask6 p.F ≠ 0 ∨ ask6 p.G ≠ 0
  · rw [if_pos q4] at h; exact absurd h (show ¬ (1 : Int) = 0 by decide)
  rw [if_neg q4] at *
  cases hs : scan (fun i => badS p.pts.length (sgAt p.segs i)) p.segs.length 0 with
  | some i => rw [hs] at h; exact absurd h (show ¬ (1 : Int) = 0 by decide)
  | none => exact ⟨rfl, by omega, by omega, rfl⟩
theorem sgs_of {n : Nat} : ∀ {l : List Sg}, (∀ s ∈ l, badS n s = false) → ∃ ss : List Sq, l = ss.map sq_ ∧ ∀ s ∈ ss, SqOk n s
  | [], _ => ⟨[], rfl, fun _ h => absurd h List.not_mem_nil⟩
  | s :: l, h => by
    obtain ⟨ss, e, hs⟩ := sgs_of (l := l) fun s hs => h s (List.mem_cons_of_mem _ hs)
    have hb := h s (List.mem_cons_self ..)
    unfold badS mnI mxI at hb
    simp only [Bool.or_eq_false_iff, decide_eq_false_iff_not] at hb
    obtain ⟨h1, h2, h3⟩ := hb
    obtain ⟨a, b, f⟩ := s
    simp only at h1 h2 h3
    refine ⟨(a.toNat, b.toNat, f) :: ss, ?_, fun t ht => ?_⟩
    · rw [e, List.map_cons]
      unfold sq_
      simp only [List.cons.injEq, Sg.mk.injEq, and_true]
      split at h1 <;> exact ⟨by omega, by omega⟩
    · rcases List.mem_cons.1 ht with rfl | ht
      · unfold SqOk
        simp only
        split at h1 <;> split at h2 <;> exact ⟨by omega, by omega, by omega⟩
      · exact hs t ht
/-- A plan of few bytes with which nothing is wrong is one of numbers. -/
theorem plan_rat {p : Pl} (hp : p.ok) (h1 : ∀ t ∈ p.pts, sh2 t) (h2 : ∀ t ∈ p.holes, sh2 t) (hg : (givenF p).1 = 0) : ∃ q : Pq, p = q.pl ∧ q.ok ∧ PsZ q.ps 30 ∧ PsZ q.hs 30 ∧ givenF q.pl = (0, 0, 0) := by
  obtain ⟨g0, g1, g2, g3⟩ := given_zero hg
  obtain ⟨ps, e1, z1⟩ := pts_rat30 hp.pts h1 g1
  obtain ⟨hs, e2, z2⟩ := pts_rat30 hp.holes h2 g2
  have hb : ∀ s ∈ p.segs, badS p.pts.length s = false := fun s hs => by
    obtain ⟨i, hi, rfl⟩ := List.getElem_of_mem hs
    have := scan_none g3 i (Nat.zero_le _) (by omega)
    have es : sgAt p.segs i = p.segs[i] := by simp [sgAt, List.getD, List.getElem?_eq_getElem hi]
    rwa [es] at this
  obtain ⟨ss, e3, z3⟩ := sgs_of hb
  have hl : p.pts.length = ps.length := by rw [e1, List.length_map]
  rw [hl] at z3
  have hq : p = (⟨ps, ss, hs, p.F, p.G⟩ : Pq).pl := by
    unfold Pq.pl
    rw [← e1, ← e2, ← e3]
  refine ⟨⟨ps, ss, hs, p.F, p.G⟩, hq, ⟨z1.up (by omega), z2.up (by omega), z3, hp.F, hp.G, by rw [← hl]; exact hp.n1, ?_, ?_⟩, z1, z2, by rw [← hq]; exact g0⟩
  · have := hp.n2; rw [e3, List.length_map] at this; exact this
  · have := hp.n3; rw [e2, List.length_map] at this; exact this
theorem st_app1 {h : Heap} {z v : List AV} {n : Nat} (hz : z.length = n) (hv : CellsOK v n) : opStore (h ++ [some z]) n (.rp h.length 0) (.agg v) = some (h ++ [some v]) := by
  rw [st_rp, live_app_self, Option.bind_some, stc_agg hv (by omega), set_app_self, List.take_zero, List.nil_append, Nat.zero_add, List.drop_of_length_le (by omega), List.append_nil]
theorem eqli {a : Int} : opBin .eql (.int .i64 a) (.int .i64 a) = some (.bool true) := by
  show some (AV.bool (decide (a = a))) = _
  rw [decide_eq_true rfl]
end Go.Proofs.YtechbfodaallkaaGreat.Am
