import Derived.Test.YtiblnpnfaadmcaaGreatAmCons
import Derived.Test.YtiblnpnfaadmcaaGreatTCen
import Derived.Test.YtiblnpnfaadmcaaGreatTCen6
import Derived.Test.YtiblnpnfaadmcaaGreatTRef6
/- Distances, middles, centres: cons with its errors, and the document's answer (printed by gencons.py). -/
set_option linter.unusedVariables false
set_option maxRecDepth 10000
set_option linter.unusedSimpArgs false
namespace Go.Proofs.YtiblnpnfaadmcaaGreat.Am
open Go

section
variable {h : Heap} {x y u v ax ay bx b_ cx cy : Rat}

theorem k_near (h1 : Rz ax 100) (h2 : Rz ay 100) (h3 : Rz bx 100) (h4 : Rz b_ 100) (h5 : Rz cx 100) (h6 : Rz cy 100) : byVal (callW gp) h fid.zf2g [pa ax ay, pa bx b_, pa cx cy] = some (.tup [ra (nearQ ax ay bx b_ cx cy), .int .i64 0]) := zy1m (zy75 zy7m zy7m zy7m) (by
 rw [zf2g.eq]
 unfold zf2g.f nearQ
 by_cases q1 : (cx - ax) * (bx - ax) + (cy - ay) * (b_ - ay) ≤ 0
 ·rw [if_pos q1]
  have s1 : rsgn ((cx - ax) * (bx - ax) + (cy - ay) * (b_ - ay)) ≤ 0 := rsgn_le.2 q1
  simp (disch := first | exact dE | fail) only [Wd, W2d, W3d, Nat.reduceAdd, Nat.reduceMul, Nat.reduceSub, zy8w, zy23, c_cdot, zy9a, c_cfar]
 rw [if_neg q1]
 have s1 : ¬ rsgn ((cx - ax) * (bx - ax) + (cy - ay) * (b_ - ay)) ≤ 0 := fun hh => q1 (rsgn_le.1 hh)
 by_cases q2 : 0 ≤ (cx - bx) * (bx - ax) + (cy - b_) * (b_ - ay)
 ·rw [if_pos q2]
  have s2 : 0 ≤ rsgn ((cx - bx) * (bx - ax) + (cy - b_) * (b_ - ay)) := rsgn_ge.2 q2
  simp (disch := first | exact dE | fail) only [Wd, W2d, W3d, Nat.reduceAdd, Nat.reduceMul, Nat.reduceSub, zy8w, zy23, c_cdot, zy9a, c_cfar]
 ·rw [if_neg q2]
  have s2 : ¬ 0 ≤ rsgn ((cx - bx) * (bx - ax) + (cy - b_) * (b_ - ay)) := fun hh => q2 (rsgn_ge.1 hh)
  have n0 : (bx - ax) * (bx - ax) + (b_ - ay) * (b_ - ay) ≠ 0 := fun hh => by
   have hx : bx - ax = 0 := by
    have a1 := sq_nn (bx - ax); have a2 := sq_nn (b_ - ay)
    have : (bx - ax) * (bx - ax) = 0 := by grind
    rcases Rat.mul_eq_zero.1 this with h | h <;> exact h
   have hy : b_ - ay = 0 := by
    have a1 := sq_nn (bx - ax); have a2 := sq_nn (b_ - ay)
    have : (b_ - ay) * (b_ - ay) = 0 := by grind
    rcases Rat.mul_eq_zero.1 this with h | h <;> exact h
   exact q1 (by rw [hx, hy]; grind)
  simp (disch := first | exact dE | fail) only [Wd, W2d, W3d, Nat.reduceAdd, Nat.reduceMul, Nat.reduceSub, zy8w, zy23, c_cdot, c_ccross, c_cprod, c_cover, zy9a, c_cfar])
theorem zy8s (h1 : Rz ax 3000) (h2 : Rz ay 3000) (h3 : Rz bx 3000) (h4 : Rz b_ 3000) : byVal (callW gp) h fid.zf0o [pa ax ay, pa bx b_] = some (ra (farQ ax ay bx b_)) := zy1m (zy73 zy7m zy7m) (by
 rw [zf0o.eq]
 unfold zf0o.f
 have e : (bx - ax) * (bx - ax) + (b_ - ay) * (b_ - ay) = farQ ax ay bx b_ := rfl
 simp (disch := first | exact dE | fail) only [Wd, W2d, W3d, Nat.reduceAdd, Nat.reduceMul, Nat.reduceSub, zy8o, zy8p, e])
theorem zy8t (hx : Rz x 20000) (hy : Rz y 20000) : byVal (callW gp) h fid.zf17 [ra x, ra y] = some (ra (minQ x y)) := zy1m (zy73 zy7p zy7p) (by
 rw [zf17.eq]
 unfold zf17.f minQ
 by_cases q : x ≤ y
 ·have := cmpQ_le.2 q
  rw [if_pos q]
  simp (disch := first | exact dE | fail) only [Wd, W2d, W3d, Nat.reduceAdd, Nat.reduceMul, Nat.reduceSub, zy8l]
 ·have : ¬ cmpQ x y ≤ 0 := fun hh => q (cmpQ_le.1 hh)
  rw [if_neg q]
  simp (disch := first | exact dE | fail) only [Wd, W2d, W3d, Nat.reduceAdd, Nat.reduceMul, Nat.reduceSub, zy8l])
theorem zy8u (h1 : Rz ax 100) (h2 : Rz ay 100) (h3 : Rz bx 100) (h4 : Rz b_ 100) (h5 : Rz cx 100) (h6 : Rz cy 100) : byVal (callW gp) h fid.zf18 [pa ax ay, pa bx b_, pa cx cy] = some (ra (near6 ax ay bx b_ cx cy)) := zy1m (zy75 zy7m zy7m zy7m) (by
 rw [zf18.eq]
 unfold zf18.f near6
 have o1 := fun h => k_3of (h := h) (z := 1) (by omega) (by omega)
 have m1 : Rz (minQ (farQ cx cy ax ay) (farQ cx cy bx b_)) 20000 := by apply Rz.mono; apply Rz_min (n := 805) <;> exact rzT; omega
 by_cases q1 : (bx - ax) * (bx - ax) + (b_ - ay) * (b_ - ay) = 0
 ·rw [if_pos q1]
  have s1 : rsgn ((bx - ax) * (bx - ax) + (b_ - ay) * (b_ - ay)) = 0 := rsgn_zero.2 q1
  simp (disch := first | exact dE | fail) only [Wd, W2d, W3d, Nat.reduceAdd, Nat.reduceMul, Nat.reduceSub, zy8s, zy8t, zy8o, zy8p, zy8m, ← zyfb]
 rw [if_neg q1]
 have s1 : ¬ rsgn ((bx - ax) * (bx - ax) + (b_ - ay) * (b_ - ay)) = 0 := fun hh => q1 (rsgn_zero.1 hh)
 by_cases q2 : (((cx - ax) * (bx - ax) + (cy - ay) * (b_ - ay)) / ((bx - ax) * (bx - ax) + (b_ - ay) * (b_ - ay))) < 0
 ·rw [if_pos q2]
  have s2 : rsgn ((((cx - ax) * (bx - ax) + (cy - ay) * (b_ - ay)) / ((bx - ax) * (bx - ax) + (b_ - ay) * (b_ - ay)))) < 0 := rsgn_lt.2 q2
  simp (disch := first | exact dE | fail) only [Wd, W2d, W3d, Nat.reduceAdd, Nat.reduceMul, Nat.reduceSub, zy8s, zy8t, zy8o, zy8p, zy8n, k_3div, zy8m, ← zyfb]
 rw [if_neg q2]
 have s2 : ¬ rsgn ((((cx - ax) * (bx - ax) + (cy - ay) * (b_ - ay)) / ((bx - ax) * (bx - ax) + (b_ - ay) * (b_ - ay)))) < 0 := fun hh => q2 (rsgn_lt.1 hh)
 by_cases q3 : ((1 : Int) : Rat) < (((cx - ax) * (bx - ax) + (cy - ay) * (b_ - ay)) / ((bx - ax) * (bx - ax) + (b_ - ay) * (b_ - ay)))
 ·rw [if_pos q3]
  have s3 : 0 < cmpQ (((cx - ax) * (bx - ax) + (cy - ay) * (b_ - ay)) / ((bx - ax) * (bx - ax) + (b_ - ay) * (b_ - ay))) ((1 : Int) : Rat) := cmpQ_gt.2 q3
  simp (disch := first | exact dE | fail) only [Wd, W2d, W3d, Nat.reduceAdd, Nat.reduceMul, Nat.reduceSub, zy8s, zy8t, zy8o, zy8p, zy8n, k_3div, zy8m, ← zyfb, o1, zy8l]
 rw [if_neg q3]
 have s3 : ¬ 0 < cmpQ (((cx - ax) * (bx - ax) + (cy - ay) * (b_ - ay)) / ((bx - ax) * (bx - ax) + (b_ - ay) * (b_ - ay))) ((1 : Int) : Rat) := fun hh => q3 (cmpQ_gt.1 hh)
 have fx : Rz (ax + (bx - ax) * (((cx - ax) * (bx - ax) + (cy - ay) * (b_ - ay)) / ((bx - ax) * (bx - ax) + (b_ - ay) * (b_ - ay)))) 2000 := by exact rzT
 have fy : Rz (ay + (b_ - ay) * (((cx - ax) * (bx - ax) + (cy - ay) * (b_ - ay)) / ((bx - ax) * (bx - ax) + (b_ - ay) * (b_ - ay)))) 2000 := by exact rzT
 simp (disch := first | exact dE | fail) only [Wd, W2d, W3d, Nat.reduceAdd, Nat.reduceMul, Nat.reduceSub, zy8s, zy8t, zy8o, zy8p, zy8n, k_3div, zy8m, ← zyfb, o1, zy8l, k_4scale, k_4plus])
end
end Go.Proofs.YtiblnpnfaadmcaaGreat.Am
