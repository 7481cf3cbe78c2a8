import Derived.Test.YtiblnpnfaadmcaaGreatAmGeom
/- Geometry: discs, segments, triangles (out of AmGeom2). -/
set_option linter.unusedVariables false
set_option maxRecDepth 10000
set_option linter.unusedSimpArgs false
namespace Go.Proofs.YtiblnpnfaadmcaaGreat.Am
open Go

def onP (ax ay bx b_ px py : Rat) : Prop := area ax ay bx b_ px py = 0 ∧ discQ ax ay bx b_ px py ≤ 0
instance (ax ay bx b_ px py : Rat) : Decidable (onP ax ay bx b_ px py) := by unfold onP; infer_instance
def meetQ (ax ay bx b_ cx cy dx dy : Rat) : Int :=
 if onP ax ay bx b_ cx cy ∨ onP ax ay bx b_ dx dy ∨ onP cx cy dx dy ax ay ∨ onP cx cy dx dy bx b_ then 2
 else if rsgn (area ax ay bx b_ cx cy) * rsgn (area ax ay bx b_ dx dy) < 0 ∧ rsgn (area cx cy dx dy ax ay) * rsgn (area cx cy dx dy bx b_) < 0 then 1 else 0
theorem zyg2 {p q : Rat} : opBin .mul (.int .i64 (rsgn p)) (.int .i64 (rsgn q)) = some (.int .i64 (rsgn p * rsgn q)) := by
 have v : ∀ q : Rat, rsgn q = -1 ∨ rsgn q = 0 ∨ rsgn q = 1 := fun q => by have := zyfa q; omega
 rcases v p with h | h | h <;> rcases v q with g | g | g <;> rw [h, g] <;> rfl
theorem firstE4 {a b c d : PT} {f : PT → Int} : zy5n ([a, b, c, d].map f) = if zy5n ([a, b, c].map f) = 0 then f d else zy5n ([a, b, c].map f) := by
 rw [zy5o]
 show (if f a = 0 then (if f b = 0 then (if f c = 0 then (if f d = 0 then 0 else f d) else f c) else f b) else f a) = _
 by_cases h1 : f a = 0 <;> by_cases h2 : f b = 0 <;> by_cases h3 : f c = 0 <;> by_cases h4 : f d = 0 <;> simp [h1, h2, h3, h4]
theorem ok4 {a b c d : PT} (ha : a.ok) (hb : b.ok) (hc : c.ok) (hd : d.ok) : ∀ t ∈ [a, b, c, d], t.ok := fun t ht => by
 simp only [List.mem_cons, List.not_mem_nil, or_false] at ht
 rcases ht with rfl | rfl | rfl | rfl <;> assumption
theorem zy76 {a b c d : AV} (ha : Imm 12 a) (hb : Imm 12 b) (hc : Imm 12 c) (hd : Imm 12 d) : ∀ x ∈ [a, b, c, d], Imm 12 x := fun x hx => by
 rcases List.mem_cons.1 hx with rfl | hx
 ·exact ha
 ·exact zy7s hb hc hd x hx

section
variable {h : Heap} {ax ay bx b_ cx cy dx dy : Rat}

theorem zy8z (h1 : Rz ax 900) (h2 : Rz ay 900) (h3 : Rz bx 900) (h4 : Rz b_ 900) (h5 : Rz cx 900) (h6 : Rz cy 900) : byVal (callW gp) h fid.zf2z [pa ax ay, pa bx b_, pa cx cy] = some (.int .i64 (-(rsgn (discQ ax ay bx b_ cx cy)))) := zy1m (zy75 zy7m zy7m zy7m) (by
 rw [zf2z.eq]
 unfold zf2z.f
 have g1 := h1.mono (m := 8000) (by omega)
 have g2 := h2.mono (m := 8000) (by omega)
 have g3 := h3.mono (m := 8000) (by omega)
 have g4 := h4.mono (m := 8000) (by omega)
 have g5 := h5.mono (m := 8000) (by omega)
 have g6 := h6.mono (m := 8000) (by omega)
 have d1 := (h1.sub h5).mono (m := 3900) (by omega)
 have d2 := (h2.sub h6).mono (m := 3900) (by omega)
 have d3 := (h3.sub h5).mono (m := 3900) (by omega)
 have d4 := (h4.sub h6).mono (m := 3900) (by omega)
 have d5 : Rz (discQ ax ay bx b_ cx cy) 8000 := (((h1.sub h5).mul (h3.sub h5)).add ((h2.sub h6).mul (h4.sub h6))).mono (by omega)
 have e : (ax - cx) * (bx - cx) + (ay - cy) * (b_ - cy) = discQ ax ay bx b_ cx cy := rfl
 have hb := zyfa (discQ ax ay bx b_ cx cy)
 simp (disch := first | exact dD | fail) only [Wd, W2d, W3d, Nat.reduceAdd, Nat.reduceMul, Nat.reduceSub, zy24, k_dot, e, c_gsign, zyhr])
theorem k_gon (h1 : Rz ax 900) (h2 : Rz ay 900) (h3 : Rz bx 900) (h4 : Rz b_ 900) (h5 : Rz cx 900) (h6 : Rz cy 900) : byVal (callW gp) h fid.geom_on [pa ax ay, pa bx b_, pa cx cy] = some (.bool (decide (onP ax ay bx b_ cx cy))) := zy1m (zy75 zy7m zy7m zy7m) (by
 rw [geom_on.eq]
 unfold geom_on.f
 have hb := zyfa (discQ ax ay bx b_ cx cy)
 by_cases q1 : area ax ay bx b_ cx cy = 0
 ·have s1 := rsgn_zero.2 q1
  by_cases q2 : discQ ax ay bx b_ cx cy ≤ 0
  ·have s2 := rsgn_le.2 q2
   have q : onP ax ay bx b_ cx cy := ⟨q1, q2⟩
   rw [decide_eq_true q]
   have e : decide ((0 : Int) ≤ -(rsgn (discQ ax ay bx b_ cx cy))) = true := decide_eq_true (by omega)
   simp (disch := first | exact dD | fail) only [Wd, W2d, W3d, Nat.reduceAdd, Nat.reduceMul, Nat.reduceSub, zy9c, zy8z, s1, e]
  ·have s2 : ¬ rsgn (discQ ax ay bx b_ cx cy) ≤ 0 := fun h => q2 (rsgn_le.1 h)
   have q : ¬ onP ax ay bx b_ cx cy := fun h => q2 h.2
   rw [decide_eq_false q]
   have e : decide ((0 : Int) ≤ -(rsgn (discQ ax ay bx b_ cx cy))) = false := decide_eq_false (by omega)
   simp (disch := first | exact dD | fail) only [Wd, W2d, W3d, Nat.reduceAdd, Nat.reduceMul, Nat.reduceSub, zy9c, zy8z, s1, e]
 ·have s1 := fun h => q1 (rsgn_zero.1 h)
  have q : ¬ onP ax ay bx b_ cx cy := fun h => q1 h.1
  rw [decide_eq_false q]
  simp (disch := first | exact dD | fail) only [Wd, W2d, W3d, Nat.reduceAdd, Nat.reduceMul, Nat.reduceSub, zy9c, zy8z, s1])
theorem k_gmeet (h1 : Rz ax 100) (h2 : Rz ay 100) (h3 : Rz bx 100) (h4 : Rz b_ 100) (h5 : Rz cx 100) (h6 : Rz cy 100) (h7 : Rz dx 100) (h8 : Rz dy 100) : byVal (callW gp) h fid.zf1o [pa ax ay, pa bx b_, pa cx cy, pa dx dy] = some (.tup [.int .i64 (meetQ ax ay bx b_ cx cy dx dy), .int .i64 0]) := zy1m (zy76 zy7m zy7m zy7m zy7m) (by
 rw [zf1o.eq]
 unfold zf1o.f zf1o.j0
 have hk := fun h f => zy8v (h := h) (f := f) (ok4 (pt_ok ax ay) (pt_ok bx b_) (pt_ok cx cy) (pt_ok dx dy)) (by simp)
 rw [firstE4, zy5o, zy0r h1 h2, zy0r h3 h4, zy0r h5 h6, zy0r h7 h8] at hk
 simp only [if_true, List.flatMap_cons, List.flatMap_nil, List.length_cons, List.length_nil] at hk
 unfold ptc rtc rt at hk
 simp only [List.cons_append, List.nil_append, List.append_nil, Nat.zero_add, Nat.reduceAdd] at hk
 have g1 := h1.mono (m := 900) (by omega)
 have g2 := h2.mono (m := 900) (by omega)
 have g3 := h3.mono (m := 900) (by omega)
 have g4 := h4.mono (m := 900) (by omega)
 have g5 := h5.mono (m := 900) (by omega)
 have g6 := h6.mono (m := 900) (by omega)
 have g7 := h7.mono (m := 900) (by omega)
 have g8 := h8.mono (m := 900) (by omega)
 have o1 := fun h => k_gon (h := h) g1 g2 g3 g4 g5 g6
 have o2 := fun h => k_gon (h := h) g1 g2 g3 g4 g7 g8
 have o3 := fun h => k_gon (h := h) g5 g6 g7 g8 g1 g2
 have o4 := fun h => k_gon (h := h) g5 g6 g7 g8 g3 g4
 unfold meetQ
 by_cases q1 : onP ax ay bx b_ cx cy
 ·rw [if_pos (.inl q1)]; rw [decide_eq_true q1] at o1
  simp (disch := first | exact dD | fail) only [Wd, W2d, W3d, Nat.reduceAdd, Nat.reduceMul, Nat.reduceSub, hk, o1]
 rw [decide_eq_false q1] at o1
 by_cases q2 : onP ax ay bx b_ dx dy
 ·rw [if_pos (.inr (.inl q2))]; rw [decide_eq_true q2] at o2
  simp (disch := first | exact dD | fail) only [Wd, W2d, W3d, Nat.reduceAdd, Nat.reduceMul, Nat.reduceSub, hk, o1, o2]
 rw [decide_eq_false q2] at o2
 by_cases q3 : onP cx cy dx dy ax ay
 ·rw [if_pos (.inr (.inr (.inl q3)))]; rw [decide_eq_true q3] at o3
  simp (disch := first | exact dD | fail) only [Wd, W2d, W3d, Nat.reduceAdd, Nat.reduceMul, Nat.reduceSub, hk, o1, o2, o3]
 rw [decide_eq_false q3] at o3
 by_cases q4 : onP cx cy dx dy bx b_
 ·rw [if_pos (.inr (.inr (.inr q4)))]; rw [decide_eq_true q4] at o4
  simp (disch := first | exact dD | fail) only [Wd, W2d, W3d, Nat.reduceAdd, Nat.reduceMul, Nat.reduceSub, hk, o1, o2, o3, o4]
 rw [decide_eq_false q4] at o4
 rw [if_neg (by rintro (h | h | h | h) <;> contradiction)]
 by_cases r1 : rsgn (area ax ay bx b_ cx cy) * rsgn (area ax ay bx b_ dx dy) < 0
 ·by_cases r2 : rsgn (area cx cy dx dy ax ay) * rsgn (area cx cy dx dy bx b_) < 0
  ·rw [if_pos ⟨r1, r2⟩]
   simp (disch := first | exact dD | fail) only [Wd, W2d, W3d, Nat.reduceAdd, Nat.reduceMul, Nat.reduceSub, hk, o1, o2, o3, o4, zy9c, zyg2]
  ·rw [if_neg fun h => r2 h.2]
   simp (disch := first | exact dD | fail) only [Wd, W2d, W3d, Nat.reduceAdd, Nat.reduceMul, Nat.reduceSub, hk, o1, o2, o3, o4, zy9c, zyg2]
 ·rw [if_neg fun h => r1 h.1]
  simp (disch := first | exact dD | fail) only [Wd, W2d, W3d, Nat.reduceAdd, Nat.reduceMul, Nat.reduceSub, hk, o1, o2, o3, o4, zy9c, zyg2])
end
end Go.Proofs.YtiblnpnfaadmcaaGreat.Am
