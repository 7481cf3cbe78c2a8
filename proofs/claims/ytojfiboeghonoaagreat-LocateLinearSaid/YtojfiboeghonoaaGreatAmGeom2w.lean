import Derived.Test.YtojfiboeghonoaaGreatAmGeom
/- Geometry: discs, segments, triangles (out of AmGeom2). -/
set_option linter.unusedVariables false
set_option maxRecDepth 10000
set_option linter.unusedSimpArgs false
namespace Go.Proofs.YtojfiboeghonoaaGreat.Am
open Go

def onP (ax ay bx b_ px py : Rat) : Prop := area ax ay bx b_ px py = 0 ∧ discQ ax ay bx b_ px py ≤ 0
instance (ax ay bx b_ px py : Rat) : Decidable (onP ax ay bx b_ px py) := by unfold onP; infer_instance
def min3 (x y z : Int) : Int := if z < (if y < x then y else x) then z else if y < x then y else x
def withinQ (ax ay bx b_ cx cy dx dy : Rat) : Int :=
  min3 (rsgn (area ax ay bx b_ cx cy) * rsgn (area ax ay bx b_ dx dy)) (rsgn (area ax ay bx b_ cx cy) * rsgn (area bx b_ cx cy dx dy)) (rsgn (area ax ay bx b_ cx cy) * rsgn (area cx cy ax ay dx dy))
theorem sgn_mulQ {p q : Rat} : opBin .mul (.int .i64 (rsgn p)) (.int .i64 (rsgn q)) = some (.int .i64 (rsgn p * rsgn q)) := by
  have v : ∀ q : Rat, rsgn q = -1 ∨ rsgn q = 0 ∨ rsgn q = 1 := fun q => by have := rsgn_bd q; omega
  rcases v p with h | h | h <;> rcases v q with g | g | g <;> rw [h, g] <;> rfl
theorem mm3 {k : IntKind} {x y z : Int} : opMm false [.int k x, .int k y, .int k z] = some (.int k (min3 x y z)) := rfl
theorem firstE4 {a b c d : PT} {f : PT → Int} : firstE ([a, b, c, d].map f) = if firstE ([a, b, c].map f) = 0 then f d else firstE ([a, b, c].map f) := by
  rw [firstE3]
  show (if f a = 0 then (if f b = 0 then (if f c = 0 then (if f d = 0 then 0 else f d) else f c) else f b) else f a) = _
  by_cases h1 : f a = 0 <;> by_cases h2 : f b = 0 <;> by_cases h3 : f c = 0 <;> by_cases h4 : f d = 0 <;> simp [h1, h2, h3, h4]
theorem ok4 {a b c d : PT} (ha : a.ok) (hb : b.ok) (hc : c.ok) (hd : d.ok) : ∀ t ∈ [a, b, c, d], t.ok := fun t ht => by
  simp only [List.mem_cons, List.not_mem_nil, or_false] at ht
  rcases ht with rfl | rfl | rfl | rfl <;> assumption
theorem imm_L4 {a b c d : AV} (ha : Imm 12 a) (hb : Imm 12 b) (hc : Imm 12 c) (hd : Imm 12 d) : ∀ x ∈ [a, b, c, d], Imm 12 x := fun x hx => by
  rcases List.mem_cons.1 hx with rfl | hx
  · exact ha
  · exact imm_three hb hc hd x hx

section
variable {h : Heap} {ax ay bx b_ cx cy dx dy : Rat}

theorem k_gwithin (h1 : Rz ax 100) (h2 : Rz ay 100) (h3 : Rz bx 100) (h4 : Rz b_ 100) (h5 : Rz cx 100) (h6 : Rz cy 100) (h7 : Rz dx 100) (h8 : Rz dy 100) (h0 : area ax ay bx b_ cx cy ≠ 0) : byVal (callW gp) h fid.zf1q [pa ax ay, pa bx b_, pa cx cy, pa dx dy] = some (.tup [.int .i64 (withinQ ax ay bx b_ cx cy dx dy), .int .i64 0]) := byVal_imm (imm_L4 imm_pa imm_pa imm_pa imm_pa) (by
  rw [zf1q.eq]
  unfold zf1q.f
  have hk := fun h f => k_asked (h := h) (f := f) (ok4 (pt_ok ax ay) (pt_ok bx b_) (pt_ok cx cy) (pt_ok dx dy)) (by simp)
  rw [firstE4, firstE3, askc_rat h1 h2, askc_rat h3 h4, askc_rat h5 h6, askc_rat h7 h8] at hk
  simp only [if_true, List.flatMap_cons, List.flatMap_nil, List.length_cons, List.length_nil] at hk
  unfold ptc rtc rt at hk
  simp only [List.cons_append, List.nil_append, List.append_nil, Nat.zero_add, Nat.reduceAdd] at hk
  have g1 := h1.mono (m := 900) (by omega)
  have g2 := h2.mono (m := 900) (by omega)
  have g3 := h3.mono (m := 900) (by omega)
  have g4 := h4.mono (m := 900) (by omega)
  have g5 := h5.mono (m := 900) (by omega)
  have g6 := h6.mono (m := 900) (by omega)
  have g7 := h7.mono (m := 900) (by omega)
  have g8 := h8.mono (m := 900) (by omega)
  have q0 := fun h => h0 (rsgn_zero.1 h)
  unfold withinQ
  simp (disch := first | exact dD | fail) only [Wd, W2d, W3d, Nat.reduceAdd, Nat.reduceMul, Nat.reduceSub, hk, k_turn, sgn_mulQ, mm3, q0])
end
end Go.Proofs.YtojfiboeghonoaaGreat.Am
