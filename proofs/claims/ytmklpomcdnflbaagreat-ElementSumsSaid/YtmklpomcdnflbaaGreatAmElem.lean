import Derived.Test.YtmklpomcdnflbaaGreatAmCons
import Derived.Test.YtmklpomcdnflbaaGreatTElem
import Derived.Test.YtmklpomcdnflbaaGreatTSlope
import Derived.Test.YtmklpomcdnflbaaGreatTStiff
import Derived.Test.YtmklpomcdnflbaaGreatTStiff17
import Derived.Test.YtmklpomcdnflbaaGreatTRef6
/- What a triangle gives: num and element. -/
set_option linter.unusedVariables false
set_option maxRecDepth 10000
set_option linter.unusedSimpArgs false
namespace Go.Proofs.YtmklpomcdnflbaaGreat.Am
open Go

theorem rsgn_b (q : Rat) : -1 ≤ rsgn q ∧ rsgn q ≤ 1 := by unfold rsgn; split <;> (try split) <;> omega
theorem lc0 : ((0 : Nat) : Int) = 0 := rfl
theorem lc1 : ((1 : Nat) : Int) = 1 := rfl
theorem lc2 : ((2 : Nat) : Int) = 2 := rfl
theorem lc3 : ((3 : Nat) : Int) = 3 := rfl
section
variable {sz len id o : Nat} {k : IntKind} {ag : Option Nat} {cs : List AV}
theorem aidx_0 (h : 0 < len) : opAidx sz len (.rp id o) (.int k 0) = some (.rp id o) := by
  show (if 0 ≤ (0 : Int) ∧ (0 : Int) < (len : Int) then some (AV.rp id (o + Int.toNat 0 * sz)) else none) = _
  rw [if_pos ⟨by omega, by omega⟩]; simp
theorem aidx_1 (h : 1 < len) : opAidx sz len (.rp id o) (.int k 1) = some (.rp id (o + sz)) := by
  show (if 0 ≤ (1 : Int) ∧ (1 : Int) < (len : Int) then some (AV.rp id (o + Int.toNat 1 * sz)) else none) = _
  rw [if_pos ⟨by omega, by omega⟩]; simp
theorem aidx_2 (h : 2 < len) : opAidx sz len (.rp id o) (.int k 2) = some (.rp id (o + 2 * sz)) := by
  show (if 0 ≤ (2 : Int) ∧ (2 : Int) < (len : Int) then some (AV.rp id (o + Int.toNat 2 * sz)) else none) = _
  rw [if_pos ⟨by omega, by omega⟩]; simp
theorem idx_0 (h : 0 < len) : opIdx sz len ag (.agg cs) (.int k 0) = readCells cs ag := by
  show (if 0 ≤ (0 : Int) ∧ (0 : Int) < (len : Int) then readCells (cs.drop (Int.toNat 0 * sz)) ag else none) = _
  rw [if_pos ⟨by omega, by omega⟩]; simp
theorem idx_1 (h : 1 < len) : opIdx sz len ag (.agg cs) (.int k 1) = readCells (cs.drop sz) ag := by
  show (if 0 ≤ (1 : Int) ∧ (1 : Int) < (len : Int) then readCells (cs.drop (Int.toNat 1 * sz)) ag else none) = _
  rw [if_pos ⟨by omega, by omega⟩]; simp
theorem idx_2 (h : 2 < len) : opIdx sz len ag (.agg cs) (.int k 2) = readCells (cs.drop (2 * sz)) ag := by
  show (if 0 ≤ (2 : Int) ∧ (2 : Int) < (len : Int) then readCells (cs.drop (Int.toNat 2 * sz)) ag else none) = _
  rw [if_pos ⟨by omega, by omega⟩]; simp
theorem rc27 {a0 a1 a2 a3 a4 a5 a6 a7 a8 a9 b0 b1 b2 b3 b4 b5 b6 b7 b8 b9 c0 c1 c2 c3 c4 c5 c6 : AV} {l : List AV} : readCells (a0 :: a1 :: a2 :: a3 :: a4 :: a5 :: a6 :: a7 :: a8 :: a9 :: b0 :: b1 :: b2 :: b3 :: b4 :: b5 :: b6 :: b7 :: b8 :: b9 :: c0 :: c1 :: c2 :: c3 :: c4 :: c5 :: c6 :: l) (some 27) = some (.agg [a0, a1, a2, a3, a4, a5, a6, a7, a8, a9, b0, b1, b2, b3, b4, b5, b6, b7, b8, b9, c0, c1, c2, c3, c4, c5, c6]) := Eq.trans rfl rfl
theorem rc9 {a0 a1 a2 a3 a4 a5 a6 a7 a8 : AV} {l : List AV} : readCells (a0 :: a1 :: a2 :: a3 :: a4 :: a5 :: a6 :: a7 :: a8 :: l) (some 9) = some (.agg [a0, a1, a2, a3, a4, a5, a6, a7, a8]) := Eq.trans rfl rfl
theorem ad0 : opBin .add (.int .i64 0) (.int .i64 1) = some (.int .i64 1) := Eq.trans rfl rfl
theorem ad1 : opBin .add (.int .i64 1) (.int .i64 1) = some (.int .i64 2) := Eq.trans rfl rfl
theorem ad2 : opBin .add (.int .i64 2) (.int .i64 1) = some (.int .i64 3) := Eq.trans rfl rfl
theorem two_sgn {q : Rat} : opBin .mul (.int .i64 2) (.int .i64 (rsgn q)) = some (.int .i64 (2 * rsgn q)) := by
  have b := rsgn_b q
  rcases (by omega : rsgn q = -1 ∨ rsgn q = 0 ∨ rsgn q = 1) with h | h | h <;> rw [h] <;> rfl
theorem same1 {R : Type} {x : R} : sameAll [some x] := ⟨x, fun y hy => by simpa using hy⟩
theorem same2 {R : Type} {x : R} : sameAll [some x, some x] := ⟨x, fun y hy => by simpa using hy⟩
theorem same3 {R : Type} {x : R} : sameAll [some x, some x, some x] := ⟨x, fun y hy => by simpa using hy⟩
theorem ifP3 {R Q : Type} {x : R} {A : Option Q} : ifP (sameAll [some x, some x, some x]) A = A := ifP_yes same3
theorem ifP2 {R Q : Type} {x : R} {A : Option Q} : ifP (sameAll [some x, some x]) A = A := ifP_yes same2
end

section
variable {h : Heap} {x y u v p q ax ay bx b_ cx cy : Rat}
theorem k_must {q : Rat} : byVal (callW gp) h fid.num_must [ra q, .int .i64 0] = some (ra q) := byVal_imm (imm_L2 imm_r3 (imm_int.mono (by omega))) (by
  rw [num_must.eq]
  unfold num_must.f
  simp (disch := first | exact dD | fail) only [Wd, W2d, W3d, Nat.reduceAdd, Nat.reduceMul, Nat.reduceSub])
theorem k_nadd (hp : Rz p 8000) (hq : Rz q 8000) : byVal (callW gp) h fid.num_Add [ra p, ra q] = some (ra (p + q)) := byVal_imm (imm_L2 imm_r3 imm_r3) (by
  rw [num_Add.eq]
  unfold num_Add.f
  simp (disch := first | exact dD | fail) only [Wd, W2d, W3d, Nat.reduceAdd, Nat.reduceMul, Nat.reduceSub, k_radd, k_must])
theorem k_nmul (hp : Rz p 8000) (hq : Rz q 8000) : byVal (callW gp) h fid.num_Mul [ra p, ra q] = some (ra (p * q)) := byVal_imm (imm_L2 imm_r3 imm_r3) (by
  rw [num_Mul.eq]
  unfold num_Mul.f
  simp (disch := first | exact dD | fail) only [Wd, W2d, W3d, Nat.reduceAdd, Nat.reduceMul, Nat.reduceSub, k_rmul, k_must])
theorem k_ndiv (hp : Rz p 8000) (hq : Rz q 8000) (h0 : q ≠ 0) : byVal (callW gp) h fid.num_Div [ra p, ra q] = some (ra (p / q)) := byVal_imm (imm_L2 imm_r3 imm_r3) (by
  rw [num_Div.eq]
  unfold num_Div.f
  simp (disch := first | exact dD | fail) only [Wd, W2d, W3d, Nat.reduceAdd, Nat.reduceMul, Nat.reduceSub, k_rdiv, k_must])
theorem c_eminus (hx : Rz x 8000) (hy : Rz y 8000) (hu : Rz u 8000) (hv : Rz v 8000) : byVal (callW gp) h fid.element_minus [pa x y, pa u v] = some (pa (x - u) (y - v)) := byVal_imm (imm_L2 imm_pa imm_pa) (by
  rw [element_minus.eq]
  unfold element_minus.f
  simp (disch := first | exact dD | fail) only [Wd, W2d, W3d, Nat.reduceAdd, Nat.reduceMul, Nat.reduceSub, k_minus])
theorem c_eleft (hx : Rz x 8000) (hy : Rz y 8000) : byVal (callW gp) h fid.element_left [pa x y] = some (pa (0 - y) x) := byVal_imm (imm_L1 imm_pa) (by
  rw [element_left.eq]
  unfold element_left.f
  have z0 : Rz ((0 : Int) : Rat) 8000 := (Rz_int (by omega) (by omega)).mono (by omega)
  have e : ((0 : Int) : Rat) - y = 0 - y := rfl
  simp (disch := first | exact dD | fail) only [Wd, W2d, W3d, Nat.reduceAdd, Nat.reduceMul, Nat.reduceSub, k_rof, k_rsub, e])
/-- A triangle's corners, in a row. -/
abbrev corn (ax ay bx b_ cx cy : Rat) : AV := .agg (ptc (rt ax, rt ay) ++ ptc (rt bx, rt b_) ++ ptc (rt cx, rt cy))
theorem imm_corn : Imm 12 (corn ax ay bx b_ cx cy) := (imm_agg (d := 1) (fun c hc => by
  rcases List.mem_append.1 hc with h | h
  · rcases List.mem_append.1 h with h | h
    · exact imm_ptc _ c h
    · exact imm_ptc _ c h
  · exact imm_ptc _ c h)).mono (by omega)
theorem c_earea (h1 : Rz ax 100) (h2 : Rz ay 100) (h3 : Rz bx 100) (h4 : Rz b_ 100) (h5 : Rz cx 100) (h6 : Rz cy 100) : byVal (callW gp) h fid.element_corners_area2 [corn ax ay bx b_ cx cy] = some (ra (area ax ay bx b_ cx cy)) := byVal_imm (imm_L1 imm_corn) (by
  rw [element_corners_area2.eq]
  unfold element_corners_area2.f corn ptc rtc rt
  simp only [List.cons_append, List.nil_append]
  simp (disch := first | exact dD | fail) only [Wd, W2d, W3d, Nat.reduceAdd, Nat.reduceMul, Nat.reduceSub, aidx_0, aidx_1, aidx_2, k_carea])
theorem c_along0 (h1 : Rz ax 100) (h2 : Rz ay 100) (h3 : Rz bx 100) (h4 : Rz b_ 100) (h5 : Rz cx 100) (h6 : Rz cy 100) : byVal (callW gp) h fid.element_corners_along [corn ax ay bx b_ cx cy, .int .i64 0] = some (pa (cx - bx) (cy - b_)) := byVal_imm (imm_L2 imm_corn (imm_int.mono (by omega))) (by
  rw [element_corners_along.eq]
  unfold element_corners_along.f corn ptc rtc rt
  have g3 := h3.mono (m := 8000) (by omega)
  have g4 := h4.mono (m := 8000) (by omega)
  have g5 := h5.mono (m := 8000) (by omega)
  have g6 := h6.mono (m := 8000) (by omega)
  have e1 : opBin .add (.int .i64 0) (.int .i64 2) = some (.int .i64 2) := rfl
  have e2 : opBin .rem (.int .i64 2) (.int .i64 3) = some (.int .i64 2) := rfl
  have e3 : opBin .rem (.int .i64 1) (.int .i64 3) = some (.int .i64 1) := rfl
  simp only [List.cons_append, List.nil_append]
  simp (disch := first | exact dD | fail) only [e1, e2, e3, ad0, Wd, W2d, W3d, Nat.reduceAdd, Nat.reduceMul, Nat.reduceSub, aidx_0, aidx_1, aidx_2, c_eminus])
theorem c_along1 (h1 : Rz ax 100) (h2 : Rz ay 100) (h3 : Rz bx 100) (h4 : Rz b_ 100) (h5 : Rz cx 100) (h6 : Rz cy 100) : byVal (callW gp) h fid.element_corners_along [corn ax ay bx b_ cx cy, .int .i64 1] = some (pa (ax - cx) (ay - cy)) := byVal_imm (imm_L2 imm_corn (imm_int.mono (by omega))) (by
  rw [element_corners_along.eq]
  unfold element_corners_along.f corn ptc rtc rt
  have g1 := h1.mono (m := 8000) (by omega)
  have g2 := h2.mono (m := 8000) (by omega)
  have g5 := h5.mono (m := 8000) (by omega)
  have g6 := h6.mono (m := 8000) (by omega)
  have e1 : opBin .add (.int .i64 1) (.int .i64 2) = some (.int .i64 3) := rfl
  have e2 : opBin .rem (.int .i64 3) (.int .i64 3) = some (.int .i64 0) := rfl
  have e3 : opBin .rem (.int .i64 2) (.int .i64 3) = some (.int .i64 2) := rfl
  simp only [List.cons_append, List.nil_append]
  simp (disch := first | exact dD | fail) only [e1, e2, e3, ad1, Wd, W2d, W3d, Nat.reduceAdd, Nat.reduceMul, Nat.reduceSub, aidx_0, aidx_1, aidx_2, c_eminus])
theorem c_along2 (h1 : Rz ax 100) (h2 : Rz ay 100) (h3 : Rz bx 100) (h4 : Rz b_ 100) (h5 : Rz cx 100) (h6 : Rz cy 100) : byVal (callW gp) h fid.element_corners_along [corn ax ay bx b_ cx cy, .int .i64 2] = some (pa (bx - ax) (b_ - ay)) := byVal_imm (imm_L2 imm_corn (imm_int.mono (by omega))) (by
  rw [element_corners_along.eq]
  unfold element_corners_along.f corn ptc rtc rt
  have g1 := h1.mono (m := 8000) (by omega)
  have g2 := h2.mono (m := 8000) (by omega)
  have g3 := h3.mono (m := 8000) (by omega)
  have g4 := h4.mono (m := 8000) (by omega)
  have e1 : opBin .add (.int .i64 2) (.int .i64 2) = some (.int .i64 4) := rfl
  have e2 : opBin .rem (.int .i64 4) (.int .i64 3) = some (.int .i64 1) := rfl
  have e3 : opBin .rem (.int .i64 3) (.int .i64 3) = some (.int .i64 0) := rfl
  simp only [List.cons_append, List.nil_append]
  simp (disch := first | exact dD | fail) only [e1, e2, e3, ad2, Wd, W2d, W3d, Nat.reduceAdd, Nat.reduceMul, Nat.reduceSub, aidx_0, aidx_1, aidx_2, c_eminus])
end
end Go.Proofs.YtmklpomcdnflbaaGreat.Am