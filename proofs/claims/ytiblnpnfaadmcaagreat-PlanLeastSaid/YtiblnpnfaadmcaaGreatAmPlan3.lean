import Derived.Test.YtiblnpnfaadmcaaGreatAmPlan2
/- Section 09: how far segments are apart. -/
set_option linter.unusedVariables false
set_option maxRecDepth 10000
set_option linter.unusedSimpArgs false
namespace Go.Proofs.YtiblnpnfaadmcaaGreat.Am
open Go

theorem told4 {a b c d : Rat} : told (told (told (told none a) b) c) d = some (minQ (minQ a b) (minQ c d)) := by
 unfold told minQ
 dsimp only
 by_cases h1 : b < a
 ·rw [if_pos h1]
  dsimp only
  by_cases h2 : c < b
  ·rw [if_pos h2]
   dsimp only
   by_cases h3 : d < c <;> simp only [h3, if_true, if_false] <;> grind
  ·rw [if_neg h2]
   dsimp only
   by_cases h3 : d < b <;> simp only [h3, if_true, if_false] <;> grind
 ·rw [if_neg h1]
  dsimp only
  by_cases h2 : c < a
  ·rw [if_pos h2]
   dsimp only
   by_cases h3 : d < c <;> simp only [h3, if_true, if_false] <;> grind
  ·rw [if_neg h2]
   dsimp only
   by_cases h3 : d < a <;> simp only [h3, if_true, if_false] <;> grind
abbrev pcl (x y : Rat) : List AV := [.bool (decide (x.num < 0)), str (nb x.num.natAbs), str (nb x.den), .bool (decide (y.num < 0)), str (nb y.num.natAbs), str (nb y.den)]
theorem zygk {H : Heap} {id : Nat} {z : List AV} {a b c : AV} (hc : [a, b, c].all AV.cell = true) (h : live H id = some z) (hz : z.length = 3) : zydm H 3 (.rp id 0) (.agg [a, b, c]) = some (H.set id (some [a, b, c])) := by
 have q : z.drop 3 = [] := List.drop_of_length_le (by omega)
 rw [st_rp, h, Option.bind_some, zygl (n := 3) (new := [a, b, c]) ⟨rfl, hc⟩ (by omega), List.take_zero, List.nil_append, Nat.zero_add, q, List.append_nil]
section
variable {h : Heap} {ax ay bx b_ cx cy dx dy : Rat}
set_option maxHeartbeats 16000000 in
theorem zy95 (h1 : Rz ax 40) (h2 : Rz ay 40) (h3 : Rz bx 40) (h4 : Rz b_ 40) (h5 : Rz cx 40) (h6 : Rz cy 40) (h7 : Rz dx 40) (h8 : Rz dy 40) : byVal (callW gp) h fid.zf14 [pa ax ay, pa bx b_, pa cx cy, pa dx dy] = some (ra (zy0j ax ay bx b_ cx cy dx dy)) := zy1m (zy76 zy7m zy7m zy7m zy7m) (by
 have m : ∀ {r : Rat}, Rz r 40 → Rz r 100 := fun h => h.mono (by omega)
 have km := fun h => k_gmeet (h := h) (m h1) (m h2) (m h3) (m h4) (m h5) (m h6) (m h7) (m h8)
 have fa : ∀ k id off, zyd1 k (.rp id off) = some (.rp id (off + k)) := fun _ _ _ => rfl
 rw [zf14.eq]
 unfold zf14.f
 by_cases hm : meetQ ax ay bx b_ cx cy dx dy ≠ 0
 ·have e : zy0j ax ay bx b_ cx cy dx dy = 0 := by unfold zy0j; rw [if_pos hm]
  rw [e]
  have nq : opBin .neq (.int .i64 (meetQ ax ay bx b_ cx cy dx dy)) (.int .i64 0) = some (.bool true) := by rw [zy12]; exact congrArg (fun b => some (AV.bool b)) (decide_eq_true hm)
  have o0 : ∀ h, byVal (callW gp) h fid.rat_Of [.int .i64 0] = some (ra 0) := fun h => k_rof (z := 0) (by decide) (by decide)
  simp (disch := first | exact dD | fail) only [Wd, W2d, W3d, Nat.reduceAdd, Nat.reduceMul, Nat.reduceSub, km, nq, o0]
 ·have e : zy0j ax ay bx b_ cx cy dx dy = minQ (minQ (nearQ ax ay bx b_ cx cy) (nearQ ax ay bx b_ dx dy)) (minQ (nearQ cx cy dx dy ax ay) (nearQ cx cy dx dy bx b_)) := by unfold zy0j; rw [if_neg hm]
  rw [e]
  have nq : opBin .neq (.int .i64 (meetQ ax ay bx b_ cx cy dx dy)) (.int .i64 0) = some (.bool false) := by rw [zy12]; exact congrArg (fun b => some (AV.bool b)) (decide_eq_false hm)
  have k1 := fun h => zy97 (h := h) (m h1) (m h2) (m h3) (m h4) (m h5) (m h6)
  have k2 := fun h => zy97 (h := h) (m h1) (m h2) (m h3) (m h4) (m h7) (m h8)
  have k3 := fun h => zy97 (h := h) (m h5) (m h6) (m h7) (m h8) (m h1) (m h2)
  have k4 := fun h => zy97 (h := h) (m h5) (m h6) (m h7) (m h8) (m h3) (m h4)
  have n1 : Rz (nearQ ax ay bx b_ cx cy) 8000 := (zybz h1 h2 h3 h4 h5 h6).mono (by omega)
  have n2 : Rz (nearQ ax ay bx b_ dx dy) 8000 := (zybz h1 h2 h3 h4 h7 h8).mono (by omega)
  have n3 : Rz (nearQ cx cy dx dy ax ay) 8000 := (zybz h5 h6 h7 h8 h1 h2).mono (by omega)
  have n4 : Rz (nearQ cx cy dx dy bx b_) 8000 := (zybz h5 h6 h7 h8 h3 h4).mono (by omega)
  generalize nearQ ax ay bx b_ cx cy = d1 at *
  generalize nearQ ax ay bx b_ dx dy = d2 at *
  generalize nearQ cx cy dx dy ax ay = d3 at *
  generalize nearQ cx cy dx dy bx b_ = d4 at *
  have u0 : UZ none 8000 := fun m hm => by cases hm
  obtain ⟨H1, p1, p2, p3, p4⟩ := zy27 (H := [some (pcl ax ay), some (pcl bx b_), some (pcl cx cy), some (pcl dx dy), some z3, some (lsc none)]) (id := 5) (s := none) rfl n1 u0
  obtain ⟨H2, q1, q2, q3, q4⟩ := zy27 (id := 5) p2 n2 (zyhf u0 n1)
  obtain ⟨H3, r1, r2, r3, r4⟩ := zy27 (id := 5) q2 n3 (zyhf (zyhf u0 n1) n2)
  obtain ⟨H4, s1, s2, s3, s4⟩ := zy27 (id := 5) r2 n4 (zyhf (zyhf (zyhf u0 n1) n2) n3)
  simp only [List.length_cons, List.length_nil, Nat.zero_add] at p3
  have t1 : ∀ j x, j < 5 → live [some (pcl ax ay), some (pcl bx b_), some (pcl cx cy), some (pcl dx dy), some z3, some (lsc none)] j = some x → live H1 j = some x ∧ live H2 j = some x ∧ live H3 j = some x ∧ live H4 j = some x := fun j x hj hx => by
   have w1 := p4 j (by omega) (by simp; omega)
   have w2 := q4 j (by omega) (by omega)
   have w3 := r4 j (by omega) (by omega)
   have w4 := s4 j (by omega) (by omega)
   exact ⟨by rw [w1, hx], by rw [w2, w1, hx], by rw [w3, w2, w1, hx], by rw [w4, w3, w2, w1, hx]⟩
  obtain ⟨a1, a2, a3, _⟩ := t1 0 _ (by omega) rfl
  obtain ⟨b1, b2, b3, _⟩ := t1 1 _ (by omega) rfl
  obtain ⟨c1, c2, c3, _⟩ := t1 2 _ (by omega) rfl
  obtain ⟨e1, e2, e3, _⟩ := t1 3 _ (by omega) rfl
  obtain ⟨_, _, _, g4⟩ := t1 4 _ (by omega) rfl
  rw [told4] at s2
  generalize minQ (minQ d1 d2) (minQ d3 d4) = M at *
  have rM : zyem (lsc (some M)) (some 3) = some (ra M) := Eq.trans rfl rfl
  have hs := zygk (a := .bool (decide (M.num < 0))) (b := str (nb M.num.natAbs)) (c := str (nb M.den)) rfl g4 rfl
  have gl : live (H4.set 4 (some (rcl M))) 4 = some (rcl M) := by rw [zyag (zyae g4), if_pos rfl]
  have p1' : callW gp fid.zf1a [.rp 5 0, ra d1] [some (pcl ax ay), some (pcl bx b_), some (pcl cx cy), some (pcl dx dy), some z3, some [.bool false, .str ⟨#[]⟩, .str ⟨#[]⟩, .bool false]] = some (.tup [], H1) := p1
  rw [st_rp] at hs
  simp (disch := first | exact dD | fail) only [Wd, W2d, W3d, Nat.reduceAdd, Nat.reduceMul, Nat.reduceSub, km, nq, k1, k2, k3, k4, p1', q1, r1, s1, a1, a2, a3, b1, b2, b3, c1, c2, c3, e1, e2, e3, fa, s2, rM, hs, gl, zyel]
  )
end
end Go.Proofs.YtiblnpnfaadmcaaGreat.Am
