import Derived.Test.YtiblnpnfaadmcaaGreatAmPlan10
/- Section 09: PlanEnds, PlanApart. -/
set_option linter.unusedVariables false
set_option maxRecDepth 10000
set_option linter.unusedSimpArgs false
namespace Go.Proofs.YtiblnpnfaadmcaaGreat.Am
open Go

abbrev T4 := PT × PT × PT × PT
def T4.ok (t : T4) : Prop := t.1.ok ∧ t.2.1.ok ∧ t.2.2.1.ok ∧ t.2.2.2.ok
section
variable {h : Heap} {ax ay bx b_ cx cy dx dy : Rat}
set_option maxHeartbeats 8000000 in
theorem k_r9apart (h1 : Rz ax 40) (h2 : Rz ay 40) (h3 : Rz bx 40) (h4 : Rz b_ 40) (h5 : Rz cx 40) (h6 : Rz cy 40) (h7 : Rz dx 40) (h8 : Rz dy 40) : byVal (callW gp) h fid.zf0h [pa ax ay, pa bx b_, pa cx cy, pa dx dy] = some (ra (zy0j ax ay bx b_ cx cy dx dy)) := zy1m (zy76 zy7m zy7m zy7m zy7m) (by
 have m : ∀ {r : Rat}, Rz r 40 → Rz r 100 := fun h => h.mono (by omega)
 have w : ∀ {r : Rat}, Rz r 40 → Rz r 2000 := fun h => h.mono (by omega)
 have km := fun h => k_5meet (h := h) (w h1) (w h2) (w h3) (w h4) (w h5) (w h6) (w h7) (w h8)
 rw [zf0h.eq]
 unfold zf0h.f
 by_cases hm : meetQ ax ay bx b_ cx cy dx dy ≠ 0
 ·have e : zy0j ax ay bx b_ cx cy dx dy = 0 := by unfold zy0j; rw [if_pos hm]
  rw [e]
  have nq := neqT9 hm
  have o0 : ∀ h, byVal (callW gp) h fid.gussetref03_Of [.int .i64 0] = some (ra 0) := fun h => k_3of (z := 0) (by decide) (by decide)
  simp (disch := first | exact dD | fail) only [Wd, W2d, W3d, Nat.reduceAdd, Nat.reduceMul, Nat.reduceSub, km, nq, o0]
 ·have e : zy0j ax ay bx b_ cx cy dx dy = minQ (minQ (nearQ ax ay bx b_ cx cy) (nearQ ax ay bx b_ dx dy)) (minQ (nearQ cx cy dx dy ax ay) (nearQ cx cy dx dy bx b_)) := by unfold zy0j; rw [if_neg hm]
  rw [e]
  have nq : opBin .neq (.int .i64 (meetQ ax ay bx b_ cx cy dx dy)) (.int .i64 0) = some (.bool false) := by rw [zy12]; exact congrArg (fun b => some (AV.bool b)) (decide_eq_false hm)
  have k1 := fun h => zy8u (h := h) (m h1) (m h2) (m h3) (m h4) (m h5) (m h6)
  have k2 := fun h => zy8u (h := h) (m h1) (m h2) (m h3) (m h4) (m h7) (m h8)
  have k3 := fun h => zy8u (h := h) (m h5) (m h6) (m h7) (m h8) (m h1) (m h2)
  have k4 := fun h => zy8u (h := h) (m h5) (m h6) (m h7) (m h8) (m h3) (m h4)
  simp only [← near_eq] at k1 k2 k3 k4
  have n1 : Rz (nearQ ax ay bx b_ cx cy) 1500 := zybz h1 h2 h3 h4 h5 h6
  have n2 : Rz (nearQ ax ay bx b_ dx dy) 1500 := zybz h1 h2 h3 h4 h7 h8
  have n3 : Rz (nearQ cx cy dx dy ax ay) 1500 := zybz h5 h6 h7 h8 h1 h2
  have n4 : Rz (nearQ cx cy dx dy bx b_) 1500 := zybz h5 h6 h7 h8 h3 h4
  generalize nearQ ax ay bx b_ cx cy = d1 at *
  generalize nearQ ax ay bx b_ dx dy = d2 at *
  generalize nearQ cx cy dx dy ax ay = d3 at *
  generalize nearQ cx cy dx dy bx b_ = d4 at *
  have y1 : Rz (minQ d1 d2) 1500 := by unfold minQ; split <;> assumption
  have y2 : Rz (minQ d3 d4) 1500 := by unfold minQ; split <;> assumption
  have l1 := fun h => zy8t (h := h) (n1.mono (by omega)) (n2.mono (by omega))
  have l2 := fun h => zy8t (h := h) (n3.mono (by omega)) (n4.mono (by omega))
  have l3 := fun h => zy8t (h := h) (y1.mono (by omega)) (y2.mono (by omega))
  simp (disch := first | exact dD | fail) only [Wd, W2d, W3d, Nat.reduceAdd, Nat.reduceMul, Nat.reduceSub, km, nq, k1, k2, k3, k4, l1, l2, l3])
theorem eql0 {z : Int} : opBin .eql (.int .i64 z) (.int .i64 0) = some (.bool (decide (z = 0))) := by
 simp only [opBin, zy7u]
 by_cases h : z = 0 <;> simp [h]
theorem eqa_z39 : opEqa false [.b, .s, .s] (.agg z3) (.agg [.bool false, .str ⟨#[]⟩, .str ⟨#[]⟩]) = some (.bool true) := by kernel_rfl
theorem eqlT9 {a : Int} : opBin .eql (.int .i64 a) (.int .i64 a) = some (.bool true) := by
 simp only [opBin, zy7u]
 simp
end
end Go.Proofs.YtiblnpnfaadmcaaGreat.Am
