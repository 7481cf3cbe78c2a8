import Derived.Test.YtiblnpnfaadmcaaGreatAmGeom
import Derived.Test.YtiblnpnfaadmcaaGreatTCons
import Derived.Test.YtiblnpnfaadmcaaGreatAmV
/- Distances, middles, centres: cons and the document's answer. -/
set_option linter.unusedVariables false
set_option maxRecDepth 10000
set_option linter.unusedSimpArgs false
namespace Go.Proofs.YtiblnpnfaadmcaaGreat.Am
open Go

section
variable {h : Heap} {x y u v ax ay bx b_ cx cy : Rat}

theorem casked_l0 {xs : List PT} {f : Bool} (hb : ∀ t ∈ xs, t.ok) (hn : xs.length ≤ 1000000) : ∀ (k i : Nat) (hh : Heap), i + k = xs.length → zf2i.l0 (.is xs.length f (xs.flatMap ptc)) (.int .i64 xs.length) (.int .i64 (i : Nat)) hh = some (.int .i64 (zy5n ((xs.drop i).map askc))) := by
 intro k
 induction k with
 | zero =>
  intro i hh hik
  rw [zf2i.l0_eq]
  simp (disch := first | exact dD | fail) only [Wd, W2d, W3d, Nat.reduceAdd, Nat.reduceMul, Nat.reduceSub]
  rw [List.drop_of_length_le (by omega)]
  rfl
 | succ k ih =>
  intro i hh hik
  rw [zf2i.l0_eq]
  have hi : i < xs.length := by omega
  have ht := hb _ (List.getElem_mem hi)
  have e : (xs.flatMap ptc).drop (i * 6) = .bool xs[i].1.s :: str xs[i].1.m :: str xs[i].1.d :: .bool xs[i].2.s :: str xs[i].2.m :: str xs[i].2.d :: (xs.drop (i + 1)).flatMap ptc := by
   rw [zy4f zye8, List.drop_eq_getElem_cons hi, List.flatMap_cons]; rfl
  obtain ⟨z, hc⟩ := zy94 ht
  unfold ptc rtc at hc
  simp only [List.cons_append, List.nil_append] at hc
  rw [List.drop_eq_getElem_cons hi, List.map_cons, zy5n]
  simp (disch := first | exact dD | fail) only [Wd, W2d, W3d, Nat.reduceAdd, Nat.reduceMul, Nat.reduceSub, e, hc, zy3c]
  by_cases h0 : askc xs[i] = 0
  ·rw [if_pos h0, if_neg (by simpa using h0)]
   exact ih (i + 1) _ (by omega)
  ·rw [if_neg h0, if_pos h0]
theorem zy8x {xs : List PT} {f : Bool} (hb : ∀ t ∈ xs, t.ok) (hn : xs.length ≤ 1000000) : byVal (callW gp) h fid.zf2i [.is xs.length f (xs.flatMap ptc)] = some (.int .i64 (zy5n (xs.map askc))) := zy1o (fun c hc => (zy79 zy7o xs c hc).mono (by omega)) (by
 rw [zf2i.eq]
 unfold zf2i.f
 simp only [zy9y, zy13]
 exact casked_l0 hb hn xs.length 0 [] (by omega))
theorem k_casked2 {a b : PT} {f : Bool} (ha : a.ok) (hb : b.ok) : byVal (callW gp) h fid.zf2i [.is 2 f [.bool a.1.s, str a.1.m, str a.1.d, .bool a.2.s, str a.2.m, str a.2.d, .bool b.1.s, str b.1.m, str b.1.d, .bool b.2.s, str b.2.m, str b.2.d]] = some (.int .i64 (zy5n ([a, b].map askc))) := zy8x (ok2 ha hb) (by simp)
theorem k_casked3 {a b c : PT} {f : Bool} (ha : a.ok) (hb : b.ok) (hc : c.ok) : byVal (callW gp) h fid.zf2i [.is 3 f [.bool a.1.s, str a.1.m, str a.1.d, .bool a.2.s, str a.2.m, str a.2.d, .bool b.1.s, str b.1.m, str b.1.d, .bool b.2.s, str b.2.m, str b.2.d, .bool c.1.s, str c.1.m, str c.1.d, .bool c.2.s, str c.2.m, str c.2.d]] = some (.int .i64 (zy5n ([a, b, c].map askc))) := zy8x (ok3 ha hb hc) (by simp)
theorem k_cask2 {f : Bool} (h1 : Rz ax 100) (h2 : Rz ay 100) (h3 : Rz bx 100) (h4 : Rz b_ 100) : byVal (callW gp) h fid.zf2i [.is 2 f [.bool (decide (ax.num < 0)), str (nb ax.num.natAbs), str (nb ax.den), .bool (decide (ay.num < 0)), str (nb ay.num.natAbs), str (nb ay.den), .bool (decide (bx.num < 0)), str (nb bx.num.natAbs), str (nb bx.den), .bool (decide (b_.num < 0)), str (nb b_.num.natAbs), str (nb b_.den)]] = some (.int .i64 0) := by
 have := k_casked2 (h := h) (f := f) (pt_ok ax ay) (pt_ok bx b_)
 rw [firstE2, zy0r h1 h2, zy0r h3 h4, if_pos rfl] at this
 exact this
theorem zy8w {f : Bool} (h1 : Rz ax 100) (h2 : Rz ay 100) (h3 : Rz bx 100) (h4 : Rz b_ 100) (h5 : Rz cx 100) (h6 : Rz cy 100) : byVal (callW gp) h fid.zf2i [.is 3 f [.bool (decide (ax.num < 0)), str (nb ax.num.natAbs), str (nb ax.den), .bool (decide (ay.num < 0)), str (nb ay.num.natAbs), str (nb ay.den), .bool (decide (bx.num < 0)), str (nb bx.num.natAbs), str (nb bx.den), .bool (decide (b_.num < 0)), str (nb b_.num.natAbs), str (nb b_.den), .bool (decide (cx.num < 0)), str (nb cx.num.natAbs), str (nb cx.den), .bool (decide (cy.num < 0)), str (nb cy.num.natAbs), str (nb cy.den)]] = some (.int .i64 0) := by
 have := k_casked3 (h := h) (f := f) (pt_ok ax ay) (pt_ok bx b_) (pt_ok cx cy)
 rw [zy5o, zy0r h1 h2, zy0r h3 h4, zy0r h5 h6, if_pos rfl, if_pos rfl] at this
 exact this
theorem zy23 (hx : Rz x 8000) (hy : Rz y 8000) (hu : Rz u 8000) (hv : Rz v 8000) : byVal (callW gp) h fid.zf30 [pa x y, pa u v] = some (pa (x - u) (y - v)) := zy1m (zy73 zy7m zy7m) (by
 rw [zf30.eq]
 unfold zf30.f
 simp (disch := first | exact dD | fail) only [Wd, W2d, W3d, Nat.reduceAdd, Nat.reduceMul, Nat.reduceSub, k_minus])
theorem c_cdot (hx : Rz x 3900) (hy : Rz y 3900) (hu : Rz u 3900) (hv : Rz v 3900) : byVal (callW gp) h fid.zf32 [pa x y, pa u v] = some (ra (x * u + y * v)) := zy1m (zy73 zy7m zy7m) (by
 rw [zf32.eq]
 unfold zf32.f
 simp (disch := first | exact dD | fail) only [Wd, W2d, W3d, Nat.reduceAdd, Nat.reduceMul, Nat.reduceSub, k_dot])
theorem c_ccross (hx : Rz x 3900) (hy : Rz y 3900) (hu : Rz u 3900) (hv : Rz v 3900) : byVal (callW gp) h fid.zf33 [pa x y, pa u v] = some (ra (x * v - y * u)) := zy1m (zy73 zy7m zy7m) (by
 rw [zf33.eq]
 unfold zf33.f
 simp (disch := first | exact dD | fail) only [Wd, W2d, W3d, Nat.reduceAdd, Nat.reduceMul, Nat.reduceSub, k_cross])
theorem c_cover (hx : Rz x 8000) (hy : Rz y 8000) (h0 : y ≠ 0) : byVal (callW gp) h fid.zf34 [ra x, ra y] = some (ra (x / y)) := zy1m (zy73 zy7p zy7p) (by
 rw [zf34.eq]
 unfold zf34.f
 simp (disch := first | exact dD | fail) only [Wd, W2d, W3d, Nat.reduceAdd, Nat.reduceMul, Nat.reduceSub, k_rdiv])
theorem c_cprod (hx : Rz x 8000) (hy : Rz y 8000) : byVal (callW gp) h fid.zf35 [ra x, ra y] = some (ra (x * y)) := zy1m (zy73 zy7p zy7p) (by
 rw [zf35.eq]
 unfold zf35.f
 simp (disch := first | exact dD | fail) only [Wd, W2d, W3d, Nat.reduceAdd, Nat.reduceMul, Nat.reduceSub, k_rmul])
theorem c_cfar (h1 : Rz ax 900) (h2 : Rz ay 900) (h3 : Rz bx 900) (h4 : Rz b_ 900) : byVal (callW gp) h fid.zf2j [pa ax ay, pa bx b_] = some (ra (farQ ax ay bx b_)) := zy1m (zy73 zy7m zy7m) (by
 rw [zf2j.eq]
 unfold zf2j.f
 have g1 := h1.mono (m := 8000) (by omega)
 have g2 := h2.mono (m := 8000) (by omega)
 have g3 := h3.mono (m := 8000) (by omega)
 have g4 := h4.mono (m := 8000) (by omega)
 have d1 := (h3.sub h1).mono (m := 3900) (by omega)
 have d2 := (h4.sub h2).mono (m := 3900) (by omega)
 have e : (bx - ax) * (bx - ax) + (b_ - ay) * (b_ - ay) = farQ ax ay bx b_ := rfl
 simp (disch := first | exact dD | fail) only [Wd, W2d, W3d, Nat.reduceAdd, Nat.reduceMul, Nat.reduceSub, zy23, c_cdot, e])
theorem k_far (h1 : Rz ax 100) (h2 : Rz ay 100) (h3 : Rz bx 100) (h4 : Rz b_ 100) : byVal (callW gp) h fid.zf1y [pa ax ay, pa bx b_] = some (.tup [ra (farQ ax ay bx b_), .int .i64 0]) := zy1m (zy73 zy7m zy7m) (by
 rw [zf1y.eq]
 unfold zf1y.f
 have g1 := h1.mono (m := 900) (by omega)
 have g2 := h2.mono (m := 900) (by omega)
 have g3 := h3.mono (m := 900) (by omega)
 have g4 := h4.mono (m := 900) (by omega)
 simp (disch := first | exact dD | fail) only [Wd, W2d, W3d, Nat.reduceAdd, Nat.reduceMul, Nat.reduceSub, k_cask2, c_cfar])
end
end Go.Proofs.YtiblnpnfaadmcaaGreat.Am
