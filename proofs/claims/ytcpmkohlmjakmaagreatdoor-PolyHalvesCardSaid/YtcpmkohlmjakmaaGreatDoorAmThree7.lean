import Derived.Test.YtcpmkohlmjakmaaGreatDoorAmSm7
/- Where all of it may be asked. -/
set_option linter.unusedVariables false
set_option maxRecDepth 10000
set_option linter.unusedSimpArgs false
namespace Go.Proofs.YtcpmkohlmjakmaaGreatDoor.Am
open Go

theorem fewR_app {l m : List RT} (h : fewR (l ++ m)) : fewR l ∧ fewR m := ⟨fun x hx => h x (List.mem_append_left _ hx), fun x hx => h x (List.mem_append_right _ hx)⟩
theorem three_or {t : R6} {a b c : PT} (ht : t.ok) (ha : a.ok) (hb : b.ok) (hc : c.ok) (hs : few7 t [a, b, c]) : (∃ e, e ≠ 0 ∧ ∀ h, byVal (callW gp) h fid.gussetref07_Three [.agg (r6c t), .agg (t3c (a, b, c))] = some (.int .i64 e)) ∨
    ∃ f ax ay bx b_ cx cy, t = rt6 f ∧ a = (rt ax, rt ay) ∧ b = (rt bx, rt b_) ∧ c = (rt cx, rt cy) ∧ f.Z 30 ∧ Tz ax ay bx b_ cx cy 30 ∧ area ax ay bx b_ cx cy ≠ 0 ∧ ∀ h, byVal (callW gp) h fid.gussetref07_Three [.agg (r6c t), .agg (t3c (a, b, c))] = some (.int .i64 0) := by
  by_cases h0 : ask6 t = 0
  rotate_left
  · exact .inl ⟨_, h0, fun h => k_three1 ht h0⟩
  by_cases h1 : askp [a, b, c] = 0
  rotate_left
  · exact .inl ⟨_, h1, fun h => k_three2 ht ha hb hc h0 h1⟩
  obtain ⟨f, rfl, hf⟩ := r6_rat ht (fewR_app hs).1 h0
  obtain ⟨ax, ay, bx, b_, cx, cy, rfl, rfl, rfl, tz⟩ := pts_rat ha hb hc (fewR_app hs).2 h1
  have k := fun h => k_three3 (h := h) (hf.up (show 30 ≤ 100 by omega)) (tz.up (show 30 ≤ 100 by omega))
  by_cases hA : area ax ay bx b_ cx cy = 0
  · rw [if_pos hA] at k
    exact .inl ⟨6, by omega, k⟩
  · rw [if_neg hA] at k
    exact .inr ⟨f, ax, ay, bx, b_, cx, cy, rfl, rfl, rfl, rfl, hf, tz, hA, k⟩
end Go.Proofs.YtcpmkohlmjakmaaGreatDoor.Am