import Derived.Test.YtiblnpnfaadmcaaGreatAmPlan14
/- Section 09: PlanLeast. -/
set_option linter.unusedVariables false
set_option maxRecDepth 10000
set_option linter.unusedSimpArgs false
namespace Go.Proofs.YtiblnpnfaadmcaaGreat.Am
open Go

theorem zy5q {α : Type} {f : α → Int} : ∀ {l : List α}, zy5n (l.map f) = 0 → ∀ t ∈ l, f t = 0
 | [], _, t, ht => by cases ht
 | a :: l, h, t, ht => by
  rw [List.map_cons, zy5n] at h
  by_cases h0 : f a = 0
  ·rw [if_pos h0] at h
   rcases List.mem_cons.1 ht with rfl | ht
   ·exact h0
   ·exact zy5q h t ht
  ·rw [if_neg h0] at h; exact absurd h h0
theorem to_ps : ∀ (xs : List PT), (∀ t ∈ xs, t.ok) → fewP xs → (∀ t ∈ xs, askc t = 0) → ∃ ps : List (Rat × Rat), xs = ps.map pc ∧ ∀ p ∈ ps, Rz p.1 30 ∧ Rz p.2 30
 | [], _, _, _ => ⟨[], rfl, fun p hp => by cases hp⟩
 | t :: l, h1, h2, h3 => by
  obtain ⟨ps, e, hp⟩ := to_ps l (fun t ht => h1 t (List.mem_cons_of_mem _ ht)) (fun t ht => h2 t (List.mem_cons_of_mem _ ht)) (fun t ht => h3 t (List.mem_cons_of_mem _ ht))
  obtain ⟨x, y, e', z1, z2⟩ := pt_rat (h1 t (List.mem_cons_self ..)) (h2 t (List.mem_cons_self ..)) (h3 t (List.mem_cons_self ..))
  refine ⟨(x, y) :: ps, by rw [e, e']; rfl, fun p hp' => ?_⟩
  rcases List.mem_cons.1 hp' with rfl | hp'
  ·exact ⟨z1, z2⟩
  ·exact hp p hp'
theorem to_ss {n : Nat} : ∀ (gs : List Sg), EVs n gs → ∃ ss : List Sq, gs = ss.map sq_ ∧ ∀ s ∈ ss, s.1 < n ∧ s.2.1 < n
 | [], _ => ⟨[], rfl, fun p hp => by cases hp⟩
 | t :: l, h => by
  obtain ⟨ss, e, hs⟩ := to_ss l (fun t ht => h t (List.mem_cons_of_mem _ ht))
  have ht := h t (List.mem_cons_self ..)
  unfold EV at ht
  refine ⟨(t.a.toNat, t.b.toNat, t.f) :: ss, ?_, fun s hs' => ?_⟩
  ·rw [List.map_cons, ← e]
   congr 1
   unfold sq_
   cases t
   simp only [Sg.mk.injEq, and_true] at *
   omega
  ·rcases List.mem_cons.1 hs' with rfl | hs'
   ·dsimp only; omega
   ·exact hs s hs'
theorem pz_of {ps : List (Rat × Rat)} (h : ∀ p ∈ ps, Rz p.1 30 ∧ Rz p.2 30) : PZ ps := fun i hi => by
 have e : ps.getD i (0, 0) = ps[i] := by simp [List.getD, List.getElem?_eq_getElem hi]
 obtain ⟨a, b⟩ := h _ (List.getElem_mem hi)
 unfold px py
 rw [e]
 exact ⟨a.mono (by omega), b.mono (by omega)⟩
theorem sv_of {n : Nat} {ss : List Sq} (h : ∀ s ∈ ss, s.1 < n ∧ s.2.1 < n) : SV n ss := fun i hi => by
 have e : sat ss i = ss[i] := by unfold sat; simp [List.getD, List.getElem?_eq_getElem hi]
 rw [e]
 exact h _ (List.getElem_mem hi)
section
variable {y0 y1 : AV} {k : Nat} {H : Heap}
theorem j0_err {e : Int} (he : e ≠ 0) (hl : live H k = some z3) : zf05.j0 y0 y1 (.rp k 0) (.int .i64 e) (.int .i64 e) H = some (.bool true) := by
 have kl := fun h => zy26 (h := h)
 have nq := neqT9 he
 unfold zf05.j0
 simp (disch := first | exact dD | fail) only [Wd, W2d, W3d, Nat.reduceAdd, Nat.reduceMul, Nat.reduceSub, nq, eqlT9, hl, z3_rd, bldz, eqa_z39, kl]
 try rfl
theorem j0_ok {M : Rat} (hl : live H k = some (rcl M)) (hr : byVal (callW gp) H fid.zf0n [y0, y1] = some (ra M)) : zf05.j0 y0 y1 (.rp k 0) (.int .i64 0) (.int .i64 0) H = some (.bool true) := by
 have kl := fun h => zy26 (h := h)
 unfold zf05.j0
 simp (disch := first | exact dD | fail) only [Wd, W2d, W3d, Nat.reduceAdd, Nat.reduceMul, Nat.reduceSub, neqF9, eqlT9, hl, zyel, hr, eqa_r, decide_true, kl]
end
set_option maxHeartbeats 4000000 in
theorem zye5 (xs : List PT) (gs : List Sg) (hx : ∀ t ∈ xs, t.ok) : cv gp fid.zf05 [.is xs.length false (xs.flatMap ptc), .is gs.length false (gs.flatMap sgc)] = some (.bool true) := by
 have kl := fun h => zy26 (h := h)
 have hsm : ∀ h, byVal (callW gp) h fid.zf09 [.is xs.length false (xs.flatMap ptc), .int .i64 12] = some (.bool (decide (smlP xs 12))) := fun h => zy2a (xs := xs) (H := h) (x := .is xs.length false (xs.flatMap ptc)) (m := 12) (by decide) zy65
 by_cases hs : smlP xs 12
 rotate_left
 ·rw [decide_eq_false hs] at hsm
  rw [zf05.eq]
  unfold zf05.f
  simp only [zy13, hsm, notF, zy6m, kl]
  rfl
 rw [decide_eq_true hs] at hsm
 by_cases hg : gs.length ≤ 12
 rotate_left
 ·have c1 := gtrT (a := (gs.length : Int)) (b := 12) (by omega)
  rw [zf05.eq]
  unfold zf05.f
  simp only [zy13, hsm, notT, zy6l, zy9y, c1, cond_t, kl]
  rfl
 have n1 := hs.1
 by_cases hE : zy5n (xs.map askc) = 0
 rotate_left
 ·exact zy9m hx hs hg (v := z3) (e := zy5n (xs.map askc)) ⟨rfl, rfl⟩ z3_rd (fun h => k_leastE hx (by omega) (by omega) hE) rfl (fun H k _ hl => j0_err hE hl) (fun H k h => absurd h hE) (fun H k h => absurd h hE)
 by_cases h2 : xs.length < 2
 ·exact zy9m hx hs hg (v := z3) (e := 1) ⟨rfl, rfl⟩ z3_rd (fun h => k_least1 hx h2 (by omega) hE) rfl (fun H k h => absurd hE h) (fun H k _ _ hl => j0_err (by decide) hl) (fun H k _ h => absurd h (by omega))
 by_cases hb : EVs xs.length gs
 rotate_left
 ·have hb' : ∃ s ∈ gs, ¬ EV xs.length s := by
   refine Classical.byContradiction fun h => hb fun s hs => Classical.byContradiction fun h' => h ⟨s, hs, h'⟩
  exact zy9m hx hs hg (v := z3) (e := 1) ⟨rfl, rfl⟩ z3_rd (fun h => k_leastB hx (by omega) (by omega) (by omega) hE hb') rfl (fun H k h => absurd hE h) (fun H k _ _ hl => j0_err (by decide) hl) (fun H k _ _ h => absurd h hb)
 ·have hf := hs.2
  obtain ⟨ps, rfl, hps⟩ := to_ps xs hx hf (zy5q hE)
  obtain ⟨ss, rfl, hss⟩ := to_ss gs hb
  rw [List.length_map] at hss h2 n1 hg
  have hz := pz_of hps
  have hv := sv_of hss
  have lm1 : (ps.map pc).length = ps.length := List.length_map ..
  have lm2 : (ss.map sq_).length = ss.length := List.length_map ..
  refine zy9m hx hs (by omega) (v := rcl (zy9j ps ss)) (e := 0) ⟨rfl, rfl⟩ zyel (fun h => ?_) rfl (fun H k h => absurd hE h) (fun H k _ h => ?_) (fun H k _ _ _ hl => ?_)
  ·have := k_least (h := h) hz hv (by omega) (by omega) (by omega)
   unfold pcs scs at this
   rw [lm1, lm2]
   exact this
  ·rcases h with h | h
   ·exact absurd h (by omega)
   ·exact absurd hb h
  ·have := k_rleast (h := H) hz hv (by omega) (by omega) (by omega)
   unfold pcs scs at this
   rw [lm1, lm2]
   exact j0_ok hl this
end Go.Proofs.YtiblnpnfaadmcaaGreat.Am
