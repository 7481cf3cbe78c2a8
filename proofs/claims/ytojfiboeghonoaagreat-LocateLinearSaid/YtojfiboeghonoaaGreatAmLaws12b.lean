import Derived.Test.YtojfiboeghonoaaGreatAmLaws12
import Derived.Test.YtojfiboeghonoaaGreatAmLoc10
/- Section 12: where a point lies, what a function is there, where ways end. -/
set_option linter.unusedVariables false
set_option maxRecDepth 10000
set_option linter.unusedSimpArgs false
namespace Go.Proofs.YtojfiboeghonoaaGreat.Am
open Go

section
theorem rts_rat40 : ∀ {l : List RT}, (∀ t ∈ l, t.ok) → (∀ t ∈ l, sh1 t) → firstE (l.map RT.chk) = 0 → ∃ us : List Rat, l = us.map rt ∧ UsZ us 40
  | [], _, _, _ => ⟨[], rfl, fun _ h => absurd h List.not_mem_nil⟩
  | t :: l, ho, hs, hf => by
    rw [List.map_cons, firstE] at hf
    by_cases h0 : t.chk = 0
    · rw [if_pos h0] at hf
      obtain ⟨r, e, h1⟩ := RT.ratz (ho t (List.mem_cons_self ..)) h0 (hs t (List.mem_cons_self ..))
      obtain ⟨us, e', hz⟩ := rts_rat40 (fun t ht => ho t (List.mem_cons_of_mem _ ht)) (fun t ht => hs t (List.mem_cons_of_mem _ ht)) hf
      refine ⟨r :: us, by rw [e, e']; rfl, fun q hq => ?_⟩
      rcases List.mem_cons.1 hq with rfl | hq
      · exact h1
      · exact hz q hq
    · rw [if_neg h0] at hf; exact absurd hf h0
end
end Go.Proofs.YtojfiboeghonoaaGreat.Am
