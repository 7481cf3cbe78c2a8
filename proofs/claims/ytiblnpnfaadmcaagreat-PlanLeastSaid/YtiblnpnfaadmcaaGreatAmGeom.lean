import Derived.Test.YtiblnpnfaadmcaaGreatAmV
import Derived.Test.YtiblnpnfaadmcaaGreatTGeom
/- How points turn: geom and the document's answer, as far as cons needs them. -/
set_option linter.unusedVariables false
set_option maxRecDepth 10000
set_option linter.unusedSimpArgs false
namespace Go.Proofs.YtiblnpnfaadmcaaGreat.Am
open Go

def askc (p : PT) : Int := if 100 < p.1.m.length ∨ 100 < p.1.d.length ∨ 100 < p.2.m.length ∨ 100 < p.2.d.length then 5 else pchk p
theorem zy0r {x y : Rat} (hx : Rz x 100) (hy : Rz y 100) : askc (rt x, rt y) = 0 := by
 unfold askc
 have h1 := hx.num
 have h2 := hx.den
 have h3 := hy.num
 have h4 := hy.den
 rw [if_neg (by
  show ¬ (100 < (nb x.num.natAbs).length ∨ 100 < (nb x.den).length ∨ 100 < (nb y.num.natAbs).length ∨ 100 < (nb y.den).length)
  unfold isz at h1 h3
  omega), zye7 (hx.mono (by omega)) (hy.mono (by omega))]
theorem zy0s {p : PT} (h1 : p.1.m.length ≤ 100 ∧ p.1.d.length ≤ 100) (h2 : p.2.m.length ≤ 100 ∧ p.2.d.length ≤ 100) : askc p = pchk p := by
 unfold askc; rw [if_neg (by omega)]

section
variable {h : Heap} {x y u v ax ay bx b_ cx cy : Rat}

theorem asked_l0 {xs : List PT} {f : Bool} (hb : ∀ t ∈ xs, t.ok) (hn : xs.length ≤ 1000000) : ∀ (k i : Nat) (hh : Heap), i + k = xs.length → zf25.l0 (.is xs.length f (xs.flatMap ptc)) (.int .i64 xs.length) (.int .i64 (i : Nat)) hh = some (.int .i64 (zy5n ((xs.drop i).map askc))) := by
 intro k
 induction k with
 | zero =>
  intro i hh hik
  rw [zf25.l0_eq]
  simp (disch := first | exact dD | fail) only [Wd, W2d, W3d, Nat.reduceAdd, Nat.reduceMul, Nat.reduceSub]
  rw [List.drop_of_length_le (by omega)]
  rfl
 | succ k ih =>
  intro i hh hik
  rw [zf25.l0_eq]
  have hi : i < xs.length := by omega
  have ht := hb _ (List.getElem_mem hi)
  have e : (xs.flatMap ptc).drop (i * 6) = .bool xs[i].1.s :: str xs[i].1.m :: str xs[i].1.d :: .bool xs[i].2.s :: str xs[i].2.m :: str xs[i].2.d :: (xs.drop (i + 1)).flatMap ptc := by
   rw [zy4f zye8, List.drop_eq_getElem_cons hi, List.flatMap_cons]; rfl
  have hc := fun h => zy2c (h := h) ht
  unfold ptc rtc at hc
  simp only [List.cons_append, List.nil_append] at hc
  rw [List.drop_eq_getElem_cons hi, List.map_cons, zy5n]
  simp (disch := first | exact dD | fail) only [Wd, W2d, W3d, Nat.reduceAdd, Nat.reduceMul, Nat.reduceSub, e]
  rw [zf25.l1_eq]
  by_cases h1 : 100 < xs[i].1.m.length
  ·have ea : askc xs[i] = 5 := by unfold askc; rw [if_pos (.inl h1)]
   rw [ea, if_neg (by omega)]
   simp (disch := first | exact dD | fail) only [Wd, W2d, W3d, Nat.reduceAdd, Nat.reduceMul, Nat.reduceSub]
  by_cases h2 : 100 < xs[i].1.d.length
  ·have ea : askc xs[i] = 5 := by unfold askc; rw [if_pos (.inr (.inl h2))]
   rw [ea, if_neg (by omega)]
   simp (disch := first | exact dD | fail) only [Wd, W2d, W3d, Nat.reduceAdd, Nat.reduceMul, Nat.reduceSub]
  simp (disch := first | exact dD | fail) only [Wd, W2d, W3d, Nat.reduceAdd, Nat.reduceMul, Nat.reduceSub]
  rw [zf25.l1_eq]
  by_cases h3 : 100 < xs[i].2.m.length
  ·have ea : askc xs[i] = 5 := by unfold askc; rw [if_pos (.inr (.inr (.inl h3)))]
   rw [ea, if_neg (by omega)]
   simp (disch := first | exact dD | fail) only [Wd, W2d, W3d, Nat.reduceAdd, Nat.reduceMul, Nat.reduceSub]
  by_cases h4 : 100 < xs[i].2.d.length
  ·have ea : askc xs[i] = 5 := by unfold askc; rw [if_pos (.inr (.inr (.inr h4)))]
   rw [ea, if_neg (by omega)]
   simp (disch := first | exact dD | fail) only [Wd, W2d, W3d, Nat.reduceAdd, Nat.reduceMul, Nat.reduceSub]
  have ea : askc xs[i] = pchk xs[i] := by unfold askc; rw [if_neg (by omega)]
  rw [ea]
  simp (disch := first | exact dD | fail) only [Wd, W2d, W3d, Nat.reduceAdd, Nat.reduceMul, Nat.reduceSub]
  rw [zf25.l1_eq]
  simp (disch := first | exact dD | fail) only [Wd, W2d, W3d, Nat.reduceAdd, Nat.reduceMul, Nat.reduceSub, hc, zy3c]
  by_cases h0 : pchk xs[i] = 0
  ·rw [if_pos h0, if_neg (by simpa using h0)]
   exact ih (i + 1) _ (by omega)
  ·rw [if_neg h0, if_pos h0]
theorem zy8v {xs : List PT} {f : Bool} (hb : ∀ t ∈ xs, t.ok) (hn : xs.length ≤ 1000000) : byVal (callW gp) h fid.zf25 [.is xs.length f (xs.flatMap ptc)] = some (.int .i64 (zy5n (xs.map askc))) := zy1o (fun c hc => (zy79 zy7o xs c hc).mono (by omega)) (by
 rw [zf25.eq]
 unfold zf25.f
 simp only [zy9y, zy13]
 exact asked_l0 hb hn xs.length 0 [] (by omega))
theorem zy5o {a b c : PT} {f : PT → Int} : zy5n ([a, b, c].map f) = if f a = 0 then (if f b = 0 then f c else f b) else f a := by
 show (if f a = 0 then (if f b = 0 then (if f c = 0 then 0 else f c) else f b) else f a) = _
 by_cases h : f c = 0 <;> simp [h]
theorem firstE2 {a b : PT} {f : PT → Int} : zy5n ([a, b].map f) = if f a = 0 then f b else f a := by
 show (if f a = 0 then (if f b = 0 then 0 else f b) else f a) = _
 by_cases h : f b = 0 <;> simp [h]
theorem ok3 {a b c : PT} (ha : a.ok) (hb : b.ok) (hc : c.ok) : ∀ t ∈ [a, b, c], t.ok := fun t ht => by
 simp only [List.mem_cons, List.not_mem_nil, or_false] at ht
 rcases ht with rfl | rfl | rfl <;> assumption
theorem ok2 {a b : PT} (ha : a.ok) (hb : b.ok) : ∀ t ∈ [a, b], t.ok := fun t ht => by
 simp only [List.mem_cons, List.not_mem_nil, or_false] at ht
 rcases ht with rfl | rfl <;> assumption

theorem zyfb (q : Rat) : rsgn q = if q.num < 0 then -1 else if q.num = 0 then 0 else 1 := rfl
theorem Rz.area {n : Nat} (h1 : Rz ax n) (h2 : Rz ay n) (h3 : Rz bx n) (h4 : Rz b_ n) (h5 : Rz cx n) (h6 : Rz cy n) : Rz (area ax ay bx b_ cx cy) (8 * n + 5) := (Rz_area h1 h2 h3 h4 h5 h6).mono (by omega)

theorem zy24 (hx : Rz x 8000) (hy : Rz y 8000) (hu : Rz u 8000) (hv : Rz v 8000) : byVal (callW gp) h fid.zf2r [pa x y, pa u v] = some (pa (x - u) (y - v)) := zy1m (zy73 zy7m zy7m) (by
 rw [zf2r.eq]
 unfold zf2r.f
 simp (disch := first | exact dD | fail) only [Wd, W2d, W3d, Nat.reduceAdd, Nat.reduceMul, Nat.reduceSub, k_minus])
theorem c_gsign {q : Rat} (hq : Rz q 8000) : byVal (callW gp) h fid.zf2p [ra q] = some (.int .i64 (rsgn q)) := zy1m (zy72 zy7p) (by
 rw [zf2p.eq]
 unfold zf2p.f
 simp (disch := first | exact dD | fail) only [Wd, W2d, W3d, Nat.reduceAdd, Nat.reduceMul, Nat.reduceSub, zy9a])
theorem c_gcross (hx : Rz x 3900) (hy : Rz y 3900) (hu : Rz u 3900) (hv : Rz v 3900) : byVal (callW gp) h fid.zf2q [pa x y, pa u v] = some (ra (x * v - y * u)) := zy1m (zy73 zy7m zy7m) (by
 rw [zf2q.eq]
 unfold zf2q.f
 simp (disch := first | exact dD | fail) only [Wd, W2d, W3d, Nat.reduceAdd, Nat.reduceMul, Nat.reduceSub, k_cross])
theorem zy9c (h1 : Rz ax 900) (h2 : Rz ay 900) (h3 : Rz bx 900) (h4 : Rz b_ 900) (h5 : Rz cx 900) (h6 : Rz cy 900) : byVal (callW gp) h fid.zf26 [pa ax ay, pa bx b_, pa cx cy] = some (.int .i64 (rsgn (area ax ay bx b_ cx cy))) := zy1m (zy75 zy7m zy7m zy7m) (by
 rw [zf26.eq]
 unfold zf26.f
 have g1 := h1.mono (m := 8000) (by omega)
 have g2 := h2.mono (m := 8000) (by omega)
 have g3 := h3.mono (m := 8000) (by omega)
 have g4 := h4.mono (m := 8000) (by omega)
 have g5 := h5.mono (m := 8000) (by omega)
 have g6 := h6.mono (m := 8000) (by omega)
 have d1 := (h3.sub h1).mono (m := 3900) (by omega)
 have d2 := (h4.sub h2).mono (m := 3900) (by omega)
 have d3 := (h5.sub h1).mono (m := 3900) (by omega)
 have d4 := (h6.sub h2).mono (m := 3900) (by omega)
 have d5 := (Rz.area h1 h2 h3 h4 h5 h6).mono (m := 8000) (by omega)
 have e : (bx - ax) * (cy - ay) - (b_ - ay) * (cx - ax) = area ax ay bx b_ cx cy := rfl
 simp (disch := first | exact dD | fail) only [Wd, W2d, W3d, Nat.reduceAdd, Nat.reduceMul, Nat.reduceSub, zy24, c_gcross, e, c_gsign])
theorem k_orient (h1 : Rz ax 100) (h2 : Rz ay 100) (h3 : Rz bx 100) (h4 : Rz b_ 100) (h5 : Rz cx 100) (h6 : Rz cy 100) : byVal (callW gp) h fid.zf1h [pa ax ay, pa bx b_, pa cx cy] = some (.tup [.int .i64 (rsgn (area ax ay bx b_ cx cy)), .int .i64 0]) := zy1m (zy75 zy7m zy7m zy7m) (by
 rw [zf1h.eq]
 unfold zf1h.f
 have hk := fun h f => zy8v (h := h) (f := f) (ok3 (pt_ok ax ay) (pt_ok bx b_) (pt_ok cx cy)) (by simp)
 rw [zy5o, zy0r h1 h2, zy0r h3 h4, zy0r h5 h6] at hk
 simp only [if_true, List.flatMap_cons, List.flatMap_nil, List.length_cons, List.length_nil] at hk
 unfold ptc rtc rt at hk
 simp only [List.cons_append, List.nil_append, List.append_nil, Nat.zero_add, Nat.reduceAdd] at hk
 have g1 := h1.mono (m := 900) (by omega)
 have g2 := h2.mono (m := 900) (by omega)
 have g3 := h3.mono (m := 900) (by omega)
 have g4 := h4.mono (m := 900) (by omega)
 have g5 := h5.mono (m := 900) (by omega)
 have g6 := h6.mono (m := 900) (by omega)
 simp (disch := first | exact dD | fail) only [Wd, W2d, W3d, Nat.reduceAdd, Nat.reduceMul, Nat.reduceSub, hk, zy9c])
theorem k_orientE {a b c : PT} (ha : a.ok) (hb : b.ok) (hc : c.ok) (hne : zy5n ([a, b, c].map askc) ≠ 0) : byVal (callW gp) h fid.zf1h [.agg (ptc a), .agg (ptc b), .agg (ptc c)] = some (.tup [.int .i64 0, .int .i64 (zy5n ([a, b, c].map askc))]) := zy1m (zy75 zy7n zy7n zy7n) (by
 have hk := fun h f => zy8v (h := h) (f := f) (ok3 ha hb hc) (by simp)
 rw [zf1h.eq]
 unfold zf1h.f
 generalize zy5n ([a, b, c].map askc) = e at *
 simp only [List.flatMap_cons, List.flatMap_nil, List.length_cons, List.length_nil] at hk
 unfold ptc rtc at *
 simp only [List.cons_append, List.nil_append, List.append_nil, Nat.zero_add, Nat.reduceAdd] at hk ⊢
 simp (disch := first | exact dD | fail) only [Wd, W2d, W3d, Nat.reduceAdd, Nat.reduceMul, Nat.reduceSub, hk])
theorem zy94 {a : PT} (ha : a.ok) : ∃ z, ∀ h, byVal (callW gp) h fid.zf1h [.agg (ptc a), .agg (ptc a), .agg (ptc a)] = some (.tup [.int .i64 z, .int .i64 (askc a)]) := by
 have e : zy5n ([a, a, a].map askc) = askc a := by rw [zy5o]; by_cases h : askc a = 0 <;> simp [h]
 by_cases h0 : askc a = 0
 ·have h1 : ¬ (100 < a.1.m.length ∨ 100 < a.1.d.length ∨ 100 < a.2.m.length ∨ 100 < a.2.d.length) := fun hh => by
   unfold askc at h0; rw [if_pos hh] at h0; cases h0
  have h2 : pchk a = 0 := by unfold askc at h0; rw [if_neg h1] at h0; exact h0
  obtain ⟨x, y, rfl, hx, hy⟩ := PT.ratz (n := 100) ha h2 (by omega) (by omega)
  exact ⟨_, fun h => by rw [ptc_rt, k_orient hx hy hx hy hx hy, zy0r hx hy]⟩
 ·exact ⟨0, fun h => by rw [k_orientE ha ha ha (by rw [e]; exact h0), e]⟩


theorem c_5long {t : RT} : byVal (callW gp) h fid.zf0z [.agg (rtc t)] = some (.bool (decide (100 < t.m.length ∨ 100 < t.d.length))) := zy1m (zy72 zy7p) (by
 rw [zf0z.eq]
 unfold zf0z.f rtc
 by_cases h1 : 100 < t.m.length
 ·rw [decide_eq_true (.inl h1)]
  simp (disch := first | exact dD | fail) only [Wd, W2d, W3d, Nat.reduceAdd, Nat.reduceMul, Nat.reduceSub]
 ·by_cases h2 : 100 < t.d.length
  ·rw [decide_eq_true (.inr h2)]
   have e : decide ((100 : Int) < t.d.length) = true := decide_eq_true (by omega)
   simp (disch := first | exact dD | fail) only [Wd, W2d, W3d, Nat.reduceAdd, Nat.reduceMul, Nat.reduceSub, e]
  ·rw [decide_eq_false (by omega)]
   have e : decide ((100 : Int) < t.d.length) = false := decide_eq_false (by omega)
   simp (disch := first | exact dD | fail) only [Wd, W2d, W3d, Nat.reduceAdd, Nat.reduceMul, Nat.reduceSub, e])
theorem asked5_l0 {xs : List PT} {f : Bool} (hb : ∀ t ∈ xs, t.ok) (hn : xs.length ≤ 1000000) : ∀ (k i : Nat), i + k = xs.length → zf0c.l0 (.is xs.length f (xs.flatMap ptc)) (.int .i64 (i : Nat)) = some (.int .i64 (zy5n ((xs.drop i).map askc))) := by
 intro k
 induction k with
 | zero =>
  intro i hik
  rw [zf0c.l0_eq]
  simp (disch := first | exact dD | fail) only [Wd, W2d, W3d, Nat.reduceAdd, Nat.reduceMul, Nat.reduceSub]
  rw [List.drop_of_length_le (by omega)]
  rfl
 | succ k ih =>
  intro i hik
  rw [zf0c.l0_eq]
  have hi : i < xs.length := by omega
  have ht := hb _ (List.getElem_mem hi)
  have e : (xs.flatMap ptc).drop (i * 6) = .bool xs[i].1.s :: str xs[i].1.m :: str xs[i].1.d :: .bool xs[i].2.s :: str xs[i].2.m :: str xs[i].2.d :: (xs.drop (i + 1)).flatMap ptc := by
   rw [zy4f zye8, List.drop_eq_getElem_cons hi, List.flatMap_cons]; rfl
  have hc := fun h => c_4check (h := h) ht
  have l1 := fun h => c_5long (h := h) (t := xs[i].1)
  have l2 := fun h => c_5long (h := h) (t := xs[i].2)
  unfold ptc at hc
  unfold rtc at hc l1 l2
  simp only [List.cons_append, List.nil_append] at hc
  rw [List.drop_eq_getElem_cons hi, List.map_cons, zy5n]
  by_cases h1 : 100 < xs[i].1.m.length ∨ 100 < xs[i].1.d.length
  ·have ea : askc xs[i] = 5 := by unfold askc; rw [if_pos (by omega)]
   rw [ea, if_neg (by omega)]
   simp (disch := first | exact dD | fail) only [Wd, W2d, W3d, Nat.reduceAdd, Nat.reduceMul, Nat.reduceSub, e, l1]
  by_cases h2 : 100 < xs[i].2.m.length ∨ 100 < xs[i].2.d.length
  ·have ea : askc xs[i] = 5 := by unfold askc; rw [if_pos (by omega)]
   rw [ea, if_neg (by omega)]
   simp (disch := first | exact dD | fail) only [Wd, W2d, W3d, Nat.reduceAdd, Nat.reduceMul, Nat.reduceSub, e, l1, l2]
  have ea : askc xs[i] = pchk xs[i] := by unfold askc; rw [if_neg (by omega)]
  rw [ea]
  simp (disch := first | exact dD | fail) only [Wd, W2d, W3d, Nat.reduceAdd, Nat.reduceMul, Nat.reduceSub, e, l1, l2, hc, zy3c]
  by_cases h0 : pchk xs[i] = 0
  ·rw [if_pos h0, if_neg (by simpa using h0)]
   exact ih (i + 1) (by omega)
  ·rw [if_neg h0, if_pos h0]
theorem k_5asked {xs : List PT} {f : Bool} (hb : ∀ t ∈ xs, t.ok) (hn : xs.length ≤ 1000000) : byVal (callW gp) h fid.zf0c [.is xs.length f (xs.flatMap ptc)] = some (.int .i64 (zy5n (xs.map askc))) := zy1o (fun c hc => (zy79 zy7o xs c hc).mono (by omega)) (by
 rw [zf0c.eq]
 unfold zf0c.f
 exact asked5_l0 hb hn xs.length 0 (by omega))
theorem zy8r (h1 : Rz ax 2000) (h2 : Rz ay 2000) (h3 : Rz bx 2000) (h4 : Rz b_ 2000) (h5 : Rz cx 2000) (h6 : Rz cy 2000) : byVal (callW gp) h fid.zf16 [pa ax ay, pa bx b_, pa cx cy] = some (.int .i64 (rsgn (area ax ay bx b_ cx cy))) := zy1m (zy75 zy7m zy7m zy7m) (by
 rw [zf16.eq]
 unfold zf16.f
 have g1 := h1.mono (m := 20000) (by omega)
 have g2 := h2.mono (m := 20000) (by omega)
 have g3 := h3.mono (m := 20000) (by omega)
 have g4 := h4.mono (m := 20000) (by omega)
 have g5 := h5.mono (m := 20000) (by omega)
 have g6 := h6.mono (m := 20000) (by omega)
 have d1 := (h3.sub h1).mono (m := 9000) (by omega)
 have d2 := (h4.sub h2).mono (m := 9000) (by omega)
 have d3 := (h5.sub h1).mono (m := 9000) (by omega)
 have d4 := (h6.sub h2).mono (m := 9000) (by omega)
 have e : (bx - ax) * (cy - ay) - (b_ - ay) * (cx - ax) = area ax ay bx b_ cx cy := rfl
 simp (disch := first | exact dD | fail) only [Wd, W2d, W3d, Nat.reduceAdd, Nat.reduceMul, Nat.reduceSub, zy8o, k_4cross, e, zy8m, ← zyfb])
theorem zyfa (q : Rat) : -1 ≤ rsgn q ∧ rsgn q ≤ 1 := by unfold rsgn; split <;> (try split) <;> omega
theorem zy8q (h1 : Rz ax 2000) (h2 : Rz ay 2000) (h3 : Rz bx 2000) (h4 : Rz b_ 2000) (h5 : Rz cx 2000) (h6 : Rz cy 2000) : byVal (callW gp) h fid.zf1r [pa ax ay, pa bx b_, pa cx cy] = some (.int .i64 (-(rsgn (discQ ax ay bx b_ cx cy)))) := zy1m (zy75 zy7m zy7m zy7m) (by
 rw [zf1r.eq]
 unfold zf1r.f
 have g1 := h1.mono (m := 20000) (by omega)
 have g2 := h2.mono (m := 20000) (by omega)
 have g3 := h3.mono (m := 20000) (by omega)
 have g4 := h4.mono (m := 20000) (by omega)
 have g5 := h5.mono (m := 20000) (by omega)
 have g6 := h6.mono (m := 20000) (by omega)
 have d1 := (h1.sub h5).mono (m := 9000) (by omega)
 have d2 := (h2.sub h6).mono (m := 9000) (by omega)
 have d3 := (h3.sub h5).mono (m := 9000) (by omega)
 have d4 := (h4.sub h6).mono (m := 9000) (by omega)
 have e : (ax - cx) * (bx - cx) + (ay - cy) * (b_ - cy) = discQ ax ay bx b_ cx cy := rfl
 have hb := zyfa (discQ ax ay bx b_ cx cy)
 simp (disch := first | exact dD | fail) only [Wd, W2d, W3d, Nat.reduceAdd, Nat.reduceMul, Nat.reduceSub, zy8o, zy8n, e, zy8m, ← zyfb, zyhr])
end
end Go.Proofs.YtiblnpnfaadmcaaGreat.Am
