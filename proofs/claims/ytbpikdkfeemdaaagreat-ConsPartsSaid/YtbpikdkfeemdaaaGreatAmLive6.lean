import Derived.Test.YtbpikdkfeemdaaaGreatAmCons2
import Derived.Test.YtbpikdkfeemdaaaGreatTLaw06
/- What the laws of layer 6 say where they have nothing to say. -/
set_option linter.unusedVariables false
set_option maxRecDepth 10000
set_option linter.unusedSimpArgs false
namespace Go.Proofs.YtbpikdkfeemdaaaGreat.Am
open Go
section
variable {h : Heap}
theorem c_at6 {x y : Int} (h1 : -9223372036854775808 ≤ x) (h2 : x ≤ 9223372036854775807) (h3 : -9223372036854775808 ≤ y) (h4 : y ≤ 9223372036854775807) : byVal (callW gp) h fid.gussetlaw06_at [.int .i64 x, .int .i64 y] = some (pa (x : Rat) (y : Rat)) := byVal_imm (imm_L2 (imm_int.mono (by omega)) (imm_int.mono (by omega))) (by
  rw [gussetlaw06_at.eq]
  unfold gussetlaw06_at.f
  simp (disch := first | omega | assumption | rfl | exact of_decide_eq_true rfl | exact ⟨rfl, rfl⟩ | (simp only [List.length_append, List.length_cons, List.length_nil]; omega) | fail) only [Wd, W2d, W3d, Int.toNat_natCast, List.nil_append, List.length_nil, List.length_cons, Nat.zero_add, Nat.mul_one, List.length_set, ne_eq, eq_self, not_true_eq_false, not_false_eq_true, decide_true, decide_false, Decidable.not_not, List.drop_zero, List.drop_succ_cons, List.take_zero, List.take_succ_cons, List.cons_append, List.set_cons_zero, List.set_cons_succ, List.drop_nil, List.append_nil, Nat.one_mul, Nat.reduceAdd, Nat.reduceMul, Nat.reduceSub, k_3of])
theorem live6_by : byVal (callW gp) h fid.gussetlaw06_live [] = some (.bool true) := byVal_imm (fun _ h => by cases h) (by
  rw [gussetlaw06_live.eq]
  unfold gussetlaw06_live.f
  have z : ∀ z : Int, -9223372036854775808 ≤ z → z ≤ 9223372036854775807 → Rz (z : Rat) 100 := fun z h1 h2 => (Rz_int h1 h2).mono (by omega)
  have z0 := z 0 (by omega) (by omega)
  have z1 := z 1 (by omega) (by omega)
  have z2 := z 2 (by omega) (by omega)
  have z4 := z 4 (by omega) (by omega)
  have z6 := z 6 (by omega) (by omega)
  have a1 : area ((0 : Int) : Rat) ((0 : Int) : Rat) ((2 : Int) : Rat) ((0 : Int) : Rat) ((0 : Int) : Rat) ((2 : Int) : Rat) ≠ 0 := by decide +kernel
  have a2 : area ((0 : Int) : Rat) ((0 : Int) : Rat) ((1 : Int) : Rat) ((0 : Int) : Rat) ((2 : Int) : Rat) ((0 : Int) : Rat) = 0 := by decide +kernel
  have v1 : cenX ((0 : Int) : Rat) ((0 : Int) : Rat) ((2 : Int) : Rat) ((0 : Int) : Rat) ((0 : Int) : Rat) ((2 : Int) : Rat) = ((1 : Int) : Rat) ∧ cenY ((0 : Int) : Rat) ((0 : Int) : Rat) ((2 : Int) : Rat) ((0 : Int) : Rat) ((0 : Int) : Rat) ((2 : Int) : Rat) = ((1 : Int) : Rat) := by decide +kernel
  have v2 : nearQ ((0 : Int) : Rat) ((0 : Int) : Rat) ((4 : Int) : Rat) ((0 : Int) : Rat) ((6 : Int) : Rat) ((0 : Int) : Rat) = ((4 : Int) : Rat) := by decide +kernel
  have v3 : sharpQ ((1 : Int) : Rat) ((0 : Int) : Rat) ((0 : Int) : Rat) ((0 : Int) : Rat) ((1 : Int) : Rat) ((1 : Int) : Rat) = true := by decide +kernel
  have n1 : ¬ (((1 : Int) : Rat) = ((0 : Int) : Rat) ∧ ((0 : Int) : Rat) = ((0 : Int) : Rat)) := by decide +kernel
  have n2 : ¬ (((1 : Int) : Rat) = ((0 : Int) : Rat) ∧ ((1 : Int) : Rat) = ((0 : Int) : Rat)) := by decide +kernel
  have k3 := fun h => k_sharp (h := h) z1 z0 z0 z0 z1 z1 n1 n2
  rw [v3] at k3
  simp (disch := first | omega | assumption | rfl | exact of_decide_eq_true rfl | exact ⟨rfl, rfl⟩ | (simp only [List.length_append, List.length_cons, List.length_nil]; omega) | fail) only [Wd, W2d, W3d, Int.toNat_natCast, List.nil_append, List.length_nil, List.length_cons, Nat.zero_add, Nat.mul_one, List.length_set, ne_eq, eq_self, not_true_eq_false, not_false_eq_true, decide_true, decide_false, Decidable.not_not, List.drop_zero, List.drop_succ_cons, List.take_zero, List.take_succ_cons, List.cons_append, List.set_cons_zero, List.set_cons_succ, List.drop_nil, List.append_nil, Nat.one_mul, Nat.reduceAdd, Nat.reduceMul, Nat.reduceSub, c_at6, k_centre, k_near, k3, k_centre0, k_3of, eqa_p, eqa_r])
end
end Go.Proofs.YtbpikdkfeemdaaaGreat.Am