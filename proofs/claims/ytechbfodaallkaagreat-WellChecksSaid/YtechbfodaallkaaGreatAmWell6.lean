import Derived.Test.YtechbfodaallkaaGreatAmWell5
import Derived.Test.YtechbfodaallkaaGreatAmGeom3w
import Derived.Test.YtechbfodaallkaaGreatTRef10
/- Well, the document's answer: what is asked, what two segments have in common. -/
set_option linter.unusedVariables false
set_option maxRecDepth 10000
set_option linter.unusedSimpArgs false
namespace Go.Proofs.YtechbfodaallkaaGreat.Am
open Go

def raskF (p : Pl) : Int :=
  if 40 < p.pts.length ∨ 60 < p.segs.length ∨ 10 < p.holes.length then 5
  else if firstE (p.pts.map askc) ≠ 0 then firstE (p.pts.map askc)
  else if firstE (p.holes.map askc) ≠ 0 then firstE (p.holes.map askc)
  else if ask6 p.F ≠ 0 ∨ ask6 p.G ≠ 0 then 1 else 0
section
variable {h : Heap}
theorem k_rasked {p : Pl} (hp : p.ok) : byVal (callW gp) h fid.gussetref10_asked [.agg (plc p)] = some (.int .i64 (raskF p)) := byVal_imm (imm_L1 imm_pl) (by
  have n1 := hp.n1
  have n2 := hp.n2
  have n3 := hp.n3
  rw [gussetref10_asked.eq]
  unfold gussetref10_asked.f raskF
  by_cases q1 : 40 < p.pts.length
  · rw [if_pos (.inl q1)]
    simp (disch := first | exact dD | fail) only [Wd, W2d, W3d, Nat.reduceAdd, Nat.reduceMul, Nat.reduceSub, plc_0, plc_1, plc_2]
  by_cases q2 : 60 < p.segs.length
  · rw [if_pos (.inr (.inl q2))]
    simp (disch := first | exact dD | fail) only [Wd, W2d, W3d, Nat.reduceAdd, Nat.reduceMul, Nat.reduceSub, plc_0, plc_1, plc_2]
  by_cases q3 : 10 < p.holes.length
  · rw [if_pos (.inr (.inr q3))]
    simp (disch := first | exact dD | fail) only [Wd, W2d, W3d, Nat.reduceAdd, Nat.reduceMul, Nat.reduceSub, plc_0, plc_1, plc_2]
  rw [if_neg (by omega)]
  have ka := fun h => k_5asked (h := h) (f := false) hp.pts (by omega)
  have kb := fun h => k_5asked (h := h) (f := false) hp.holes (by omega)
  have kF := fun h => k_check7 (h := h) hp.F
  have kG := fun h => k_check7 (h := h) hp.G
  by_cases h1 : firstE (p.pts.map askc) = 0
  rotate_left
  · rw [if_pos h1]
    simp (disch := first | exact dD | fail) only [Wd, W2d, W3d, Nat.reduceAdd, Nat.reduceMul, Nat.reduceSub, plc_0, plc_1, plc_2, ka, cond_d, decide_eq_false h1, h1]
  rw [if_neg (by simpa using h1)]
  rw [h1] at ka
  by_cases h2 : firstE (p.holes.map askc) = 0
  rotate_left
  · rw [if_pos h2]
    simp (disch := first | exact dD | fail) only [Wd, W2d, W3d, Nat.reduceAdd, Nat.reduceMul, Nat.reduceSub, plc_0, plc_1, plc_2, ka, kb, cond_d, decide_eq_false h2, h2]
  rw [if_neg (by simpa using h2)]
  rw [h2] at kb
  by_cases h3 : ask6 p.F = 0
  rotate_left
  · rw [if_pos (.inl h3)]
    simp (disch := first | exact dD | fail) only [Wd, W2d, W3d, Nat.reduceAdd, Nat.reduceMul, Nat.reduceSub, plc_0, plc_1, plc_2, plc_3, ka, kb, kF, decide_eq_true h3, h3]
  rw [h3] at kF
  by_cases h4 : ask6 p.G = 0
  rotate_left
  · rw [if_pos (.inr h4)]
    simp (disch := first | exact dD | fail) only [Wd, W2d, W3d, Nat.reduceAdd, Nat.reduceMul, Nat.reduceSub, plc_0, plc_1, plc_2, plc_3, plc_21, ka, kb, kF, kG, cond_d, decide_eq_true h4, h4]
  rw [h4] at kG
  rw [if_neg (fun hh => hh.elim (fun h => h h3) (fun h => h h4))]
  simp (disch := first | exact dD | fail) only [Wd, W2d, W3d, Nat.reduceAdd, Nat.reduceMul, Nat.reduceSub, plc_0, plc_1, plc_2, plc_3, plc_21, ka, kb, kF, kG])
theorem given_rask (p : Pl) : givenF p = if raskF p ≠ 0 then ((raskF p, 0, 0) : Fnd) else match scan (fun i => badS p.pts.length (sgAt p.segs i)) p.segs.length 0 with
    | some i => (1, (i : Int), 0)
    | none => (0, 0, 0) := by
  unfold givenF raskF
  by_cases q : 40 < p.pts.length ∨ 60 < p.segs.length ∨ 10 < p.holes.length
  · rw [if_pos q, if_pos q, if_pos (by decide)]
  rw [if_neg q, if_neg q]
  by_cases h1 : firstE (p.pts.map askc) ≠ 0
  · rw [if_pos h1, if_pos h1, if_pos h1]
  rw [if_neg h1, if_neg h1]
  by_cases h2 : firstE (p.holes.map askc) ≠ 0
  · rw [if_pos h2, if_pos h2, if_pos h2]
  rw [if_neg h2, if_neg h2]
  by_cases h3 : ask6 p.F ≠ 0 ∨ ask6 p.G ≠ 0
  · rw [if_pos h3, if_pos h3, if_pos (by decide)]
  · rw [if_neg h3, if_neg h3, if_neg (by decide)]
    cases scan (fun i => badS p.pts.length (sgAt p.segs i)) p.segs.length 0 <;> rfl
/-- Are a segment's ends points' numbers? -/
def endsB (n : Nat) (s : Sg) : Bool := !(decide (s.a < 0) || (decide ((n : Int) ≤ s.a) || (decide (s.b < 0) || decide ((n : Int) ≤ s.b))))
theorem badS_eq (n : Nat) (s : Sg) : badS n s = (!(endsB n s) || decide (s.a = s.b)) := by
  obtain ⟨a, b, f⟩ := s
  unfold badS endsB mnI mxI
  simp only [Bool.not_not]
  by_cases h1 : a < 0 <;> by_cases h2 : (n : Int) ≤ a <;> by_cases h3 : b < 0 <;> by_cases h4 : (n : Int) ≤ b <;> by_cases h5 : a = b <;> by_cases h6 : b < a <;> by_cases h7 : a < b <;> simp [h1, h2, h3, h4, h5, h6, h7] <;> omega
theorem k_ends {n : Nat} {s : Sg} {f : Bool} (hn : n ≤ 100000) : byVal (callW gp) h fid.gussetref09_Ends [.int .i64 (n : Int), .is 1 f [.int .i64 s.a, .int .i64 s.b, .bool s.f]] = some (.bool (endsB n s)) := by
  have hc : cv gp fid.gussetref09_Ends [.int .i64 (n : Int), .is 1 false [.int .i64 s.a, .int .i64 s.b, .bool s.f]] = some (.bool (endsB n s)) := by
    rw [gussetref09_Ends.eq]
    unfold gussetref09_Ends.f endsB
    rw [gussetref09_Ends.l0_eq]
    by_cases h1 : s.a < 0
    · rw [decide_eq_true h1]
      simp (disch := first | exact dD | fail) only [Wd, W2d, W3d, Nat.reduceAdd, Nat.reduceMul, Nat.reduceSub, Bool.true_or, Bool.not_true]
    by_cases h2 : (n : Int) ≤ s.a
    · rw [decide_eq_false h1, decide_eq_true h2]
      simp (disch := first | exact dD | fail) only [Wd, W2d, W3d, Nat.reduceAdd, Nat.reduceMul, Nat.reduceSub, Bool.true_or, Bool.false_or, Bool.not_true]
    by_cases h3 : s.b < 0
    · rw [decide_eq_false h1, decide_eq_false h2, decide_eq_true h3]
      simp (disch := first | exact dD | fail) only [Wd, W2d, W3d, Nat.reduceAdd, Nat.reduceMul, Nat.reduceSub, Bool.true_or, Bool.false_or, Bool.not_true]
    by_cases h4 : (n : Int) ≤ s.b
    · rw [decide_eq_false h1, decide_eq_false h2, decide_eq_false h3, decide_eq_true h4]
      simp (disch := first | exact dD | fail) only [Wd, W2d, W3d, Nat.reduceAdd, Nat.reduceMul, Nat.reduceSub, Bool.true_or, Bool.false_or, Bool.not_true]
    rw [decide_eq_false h1, decide_eq_false h2, decide_eq_false h3, decide_eq_false h4]
    simp (disch := first | exact dD | fail) only [Wd, W2d, W3d, Nat.reduceAdd, Nat.reduceMul, Nat.reduceSub, wl0, wl1, wi0]
    rw [gussetref09_Ends.l0_eq]
    simp (disch := first | exact dD | fail) only [Wd, W2d, W3d, Nat.reduceAdd, Nat.reduceMul, Nat.reduceSub, wl0, wl1, wi0]
    rfl
  refine byVal_flat (xs := [.int .i64 (n : Int), .is 1 false [.int .i64 s.a, .int .i64 s.b, .bool s.f]]) ?_ hc rfl
  rfl
theorem eqa_iib {a b c d : Int} {f g : Bool} : opEqa false [.i, .i, .b] (.agg [.int .i64 a, .int .i64 b, .bool f]) (.agg [.int .i64 c, .int .i64 d, .bool g]) = some (.bool (decide (a = c ∧ b = d ∧ f = g))) := by
  rw [eqa_eq rfl rfl]
  unfold eqCells
  by_cases h1 : a = c
  · by_cases h2 : b = d
    · cases f <;> cases g <;> simp [h1, h2, eqCells]
    · have e2 : (b == d) = false := by simpa using h2
      simp [h1, h2, e2, eqCells]
  · have e1 : (a == c) = false := by simpa using h1
    simp [h1, e1]
end
end Go.Proofs.YtechbfodaallkaaGreat.Am
