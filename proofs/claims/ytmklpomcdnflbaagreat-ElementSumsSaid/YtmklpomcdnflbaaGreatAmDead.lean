import Derived.Test.YtmklpomcdnflbaaGreatAmSound
import Derived.Test.YtmklpomcdnflbaaGreatAmGp
import Derived.Tactics
import Derived.Tactics2
import Derived.Recover
/- The deferred function that does nothing where nobody panics. -/
set_option linter.unusedVariables false
set_option maxRecDepth 10000
namespace Go.Proofs.YtmklpomcdnflbaaGreat.Am
open Go
theorem catch_idle (g : FuncId) (caps : Array Value) (w : World) :
    CallsD Tryz.prog fid.num_Catch #[.func (.func g) #[] caps] .returning w fun e u' w' => e = .returned (.tuple #[]) ∧ u' = .returning ∧ w' = w := by
  refine callsD_of_wpS Tryz.func90 rfl fun c₀ cs hu => ?_
  apply wpS_seq
  apply wpS_region
  simp [wpOpsS, go_sem, recoverD, hu, Tryz.ntmps90, Exit.thenS]
  apply wpS_seq
  apply wpS_region
  simp [wpOpsS, go_sem, Exit.thenS]
  refine wpS_cond (t := false) (by simp [Act.eval, Array.replicate]) ?_
  simp only [Bool.false_eq_true, if_false]
  refine wpS_of_wp (wp_skip ?_)
  cases c₀
  simp_all [bodyPostS, Go.results, Tryz.results90]
theorem dead_ok : DeadOk Tryz.prog := fun f hf => by
  have e : f = fid.num_Catch := by
    have : (f == 90) = true := hf
    exact beq_iff_eq.1 this
  subst e
  refine ⟨⟨Tryz.f90, _, Tryz.func90, rfl, rfl⟩, fun g caps w => (catch_idle g caps w).mono ?_⟩
  rintro e u' w' ⟨rfl, rfl, rfl⟩
  exact ⟨⟨_, rfl⟩, rfl, _, rfl⟩
end Go.Proofs.YtmklpomcdnflbaaGreat.Am