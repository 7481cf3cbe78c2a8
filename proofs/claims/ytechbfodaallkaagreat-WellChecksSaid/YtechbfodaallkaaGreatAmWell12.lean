import Derived.Test.YtechbfodaallkaaGreatAmWell8
import Derived.Test.YtechbfodaallkaaGreatTWChecks
/- Well: both answers are one; a plan's copy is the same. -/
set_option linter.unusedVariables false
set_option maxRecDepth 10000
set_option linter.unusedSimpArgs false
namespace Go.Proofs.YtechbfodaallkaaGreat.Am
open Go

theorem scan_congr {P Q : Nat → Bool} : ∀ {m k : Nat}, (∀ j, k ≤ j → j < k + m → P j = Q j) → scan P m k = scan Q m k
  | 0, k, _ => rfl
  | m + 1, k, h => by
    rw [scan, scan, h k (by omega) (by omega), scan_congr fun j h1 h2 => h j (by omega) (by omega)]
theorem pairF_congr {P Q : Nat → Nat → Bool} : ∀ {m i : Nat}, (∀ a, i ≤ a → a < i + m → ∀ k, k < a → P a k = Q a k) → pairF P m i = pairF Q m i
  | 0, i, _ => rfl
  | m + 1, i, h => by
    rw [pairF, pairF, scan_congr fun j _ hj => h i (by omega) (by omega) j (by omega), pairF_congr fun a h1 h2 => h a (by omega) (by omega)]
/-- Where two segments have no more than one end in common, both find the same angle. -/
theorem sharp_eq {ps : List (Rat × Rat)} {n : Nat} {s t : Sq} (hs : SqOk n s) (ht : SqOk n t) (hc : crossI ps s t = false) : sharpR ps s t = sharpI ps s t := by
  obtain ⟨a, b, f⟩ := s
  obtain ⟨c, d, g⟩ := t
  obtain ⟨_, _, n1⟩ := hs
  obtain ⟨_, _, n2⟩ := ht
  simp only at n1 n2
  unfold sharpI sharpR
  unfold crossI at hc
  unfold shP sharedF sq_ at *
  simp only at *
  by_cases h1 : (a : Int) = c
  · rw [if_pos h1] at hc ⊢
    have h4 : ¬ (b : Int) = d := by simpa using hc
    have h2 : ¬ (a : Int) = d := by omega
    have h3 : ¬ (b : Int) = c := by omega
    simp [h1, h2, h3, h4]
    have e : a = c := by omega
    subst e
    simp [h4]
    omega
  rw [if_neg h1] at hc ⊢
  by_cases h2 : (a : Int) = d
  · rw [if_pos h2] at hc ⊢
    have h3 : ¬ (b : Int) = c := by simpa using hc
    have h4 : ¬ (b : Int) = d := by omega
    have e : a = d := by omega
    subst e
    simp [h1, h3, h4]
  rw [if_neg h2] at hc ⊢
  by_cases h3 : (b : Int) = c
  · rw [if_pos h3] at hc ⊢
    have h4 : ¬ (b : Int) = d := by omega
    have e : b = c := by omega
    subst e
    simp [h1, h2, h4]
  rw [if_neg h3] at hc ⊢
  by_cases h4 : (b : Int) = d
  · rw [if_pos h4] at hc ⊢
    have e : b = d := by omega
    subst e
    simp [h1, h2, h3]
  · rw [if_neg h4]
    simp [h1, h2, h3, h4]
theorem first_eq {q : Pq} (hq : q.ok) : firstR q = firstQ q := by
  unfold firstR firstQ crossedF
  cases twiceF q with
  | some r => rfl
  | none =>
    cases thrF q with
    | some r => rfl
    | none =>
      cases hc : crsF q with
      | some r => rfl
      | none =>
        have e : pairF (fun i k => sharpR q.ps (sat q.ss i) (sat q.ss k)) q.ss.length 0 = angF q := pairF_congr fun a _ ha k hk => by
          have h := pairF_none hc a (by omega) ha k hk
          exact sharp_eq (sat_ok hq (by omega)) (sat_ok hq (by omega)) h
        simp only [e]
        cases angF q <;> rfl
/-! ### A plan is the same as itself -/
theorem eqa_self {L : List LK} {xs : List AV} (hl : xs.length = L.length) (h : eqCells L xs xs = some true) : opEqa false L (.agg xs) (.agg xs) = some (.bool true) := by
  rw [eqa_eq hl hl, h]; rfl
theorem neqa_self {L : List LK} {xs : List AV} (hl : xs.length = L.length) (h : eqCells L xs xs = some true) : opEqa true L (.agg xs) (.agg xs) = some (.bool false) := by
  unfold opEqa
  simp only [hl, h, and_self, if_true]
  rfl
theorem eqc_r {t : RT} (ht : t.ok) {L : List LK} {l r : List AV} : eqCells (.b :: .s :: .s :: L) (.bool t.s :: str t.m :: str t.d :: l) (.bool t.s :: str t.m :: str t.d :: r) = eqCells L l r := by
  rw [eqCells_cons_b, if_pos rfl, eqCells_cons_s ht.1 ht.1, if_pos rfl, eqCells_cons_s ht.2 ht.2, if_pos rfl]
theorem neqa_pt {t : PT} (ht : t.ok) : opEqa true [.b, .s, .s, .b, .s, .s] (.agg (ptc t)) (.agg (ptc t)) = some (.bool false) := neqa_self rfl (by
  show eqCells _ (.bool t.1.s :: str t.1.m :: str t.1.d :: .bool t.2.s :: str t.2.m :: str t.2.d :: []) (.bool t.1.s :: str t.1.m :: str t.1.d :: .bool t.2.s :: str t.2.m :: str t.2.d :: []) = _
  rw [eqc_r ht.1, eqc_r ht.2]; rfl)
theorem eqa_r6 {t : R6} (ht : t.ok) : opEqa false [.b, .s, .s, .b, .s, .s, .b, .s, .s, .b, .s, .s, .b, .s, .s, .b, .s, .s] (.agg (r6c t)) (.agg (r6c t)) = some (.bool true) := eqa_self rfl (by
  obtain ⟨a, b, c, d, e, f⟩ := t
  have g : ∀ x ∈ [a, b, c, d, e, f], x.ok := ht
  show eqCells _ (.bool a.s :: str a.m :: str a.d :: .bool b.s :: str b.m :: str b.d :: .bool c.s :: str c.m :: str c.d :: .bool d.s :: str d.m :: str d.d :: .bool e.s :: str e.m :: str e.d :: .bool f.s :: str f.m :: str f.d :: []) (.bool a.s :: str a.m :: str a.d :: .bool b.s :: str b.m :: str b.d :: .bool c.s :: str c.m :: str c.d :: .bool d.s :: str d.m :: str d.d :: .bool e.s :: str e.m :: str e.d :: .bool f.s :: str f.m :: str f.d :: []) = _
  rw [eqc_r (g a (by simp)), eqc_r (g b (by simp)), eqc_r (g c (by simp)), eqc_r (g d (by simp)), eqc_r (g e (by simp)), eqc_r (g f (by simp))]; rfl)
theorem neqa_sg {s : Sg} : opEqa true [.i, .i, .b] (.agg [.int .i64 s.a, .int .i64 s.b, .bool s.f]) (.agg [.int .i64 s.a, .int .i64 s.b, .bool s.f]) = some (.bool false) := neqa_self rfl (by
  unfold eqCells
  simp [eqCells])
theorem samep_l0 {xs : List PT} {f g : Bool} (hb : ∀ t ∈ xs, t.ok) (hn : xs.length ≤ 100000) : ∀ (m i : Nat), i + m = xs.length → gussetref08_SamePoints.l0 (.is xs.length f (xs.flatMap ptc)) (.is xs.length g (xs.flatMap ptc)) (.int .i64 (i : Int)) = some (.bool true) := by
  intro m
  induction m with
  | zero =>
    intro i him
    rw [gussetref08_SamePoints.l0_eq]
    simp (disch := first | exact dD | fail) only [Wd, W2d, W3d, Nat.reduceAdd, Nat.reduceMul, Nat.reduceSub]
  | succ m ih =>
    intro i him
    rw [gussetref08_SamePoints.l0_eq]
    have hi : i < xs.length := by omega
    have ht := hb _ (List.getElem_mem hi)
    have e : (xs.flatMap ptc).drop (i * 6) = .bool xs[i].1.s :: str xs[i].1.m :: str xs[i].1.d :: .bool xs[i].2.s :: str xs[i].2.m :: str xs[i].2.d :: (xs.drop (i + 1)).flatMap ptc := by
      rw [drop_flatMap ptc_len, List.drop_eq_getElem_cons hi, List.flatMap_cons]; rfl
    have ne := neqa_pt ht
    unfold ptc rtc at ne
    simp only [List.cons_append, List.nil_append] at ne
    simp (disch := first | exact dD | fail) only [Wd, W2d, W3d, Nat.reduceAdd, Nat.reduceMul, Nat.reduceSub, e, ne]
    exact ih (i + 1) (by omega)
theorem k_samep {h : Heap} {xs : List PT} (hb : ∀ t ∈ xs, t.ok) (hn : xs.length ≤ 100000) : byVal (callW gp) h fid.gussetref08_SamePoints [.is xs.length false (xs.flatMap ptc), .is xs.length false (xs.flatMap ptc)] = some (.bool true) := byVal_imm (imm_L2 ((imm_is (imm_flat imm_ptc xs)).mono (by omega)) ((imm_is (imm_flat imm_ptc xs)).mono (by omega))) (by
  rw [gussetref08_SamePoints.eq]
  unfold gussetref08_SamePoints.f
  have l := samep_l0 (f := false) (g := false) hb hn xs.length 0 (by omega)
  simp (disch := first | exact dD | fail) only [Wd, W2d, W3d, Nat.reduceAdd, Nat.reduceMul, Nat.reduceSub]
  exact l)
theorem sames_l0 {xs : List Sg} {f g : Bool} (hn : xs.length ≤ 100000) : ∀ (m i : Nat), i + m = xs.length → gussetref08_SameSegs.l0 (.is xs.length f (xs.flatMap sgc)) (.is xs.length g (xs.flatMap sgc)) (.int .i64 (i : Int)) = some (.bool true) := by
  intro m
  induction m with
  | zero =>
    intro i him
    rw [gussetref08_SameSegs.l0_eq]
    simp (disch := first | exact dD | fail) only [Wd, W2d, W3d, Nat.reduceAdd, Nat.reduceMul, Nat.reduceSub]
  | succ m ih =>
    intro i him
    rw [gussetref08_SameSegs.l0_eq]
    have hi : i < xs.length := by omega
    have e : (xs.flatMap sgc).drop (i * 3) = .int .i64 xs[i].a :: .int .i64 xs[i].b :: .bool xs[i].f :: (xs.drop (i + 1)).flatMap sgc := by
      rw [drop_flatMap sgc_len, List.drop_eq_getElem_cons hi, List.flatMap_cons]; rfl
    have ne := neqa_sg (s := xs[i])
    simp (disch := first | exact dD | fail) only [Wd, W2d, W3d, Nat.reduceAdd, Nat.reduceMul, Nat.reduceSub, e, ne]
    exact ih (i + 1) (by omega)
theorem k_sames {h : Heap} {xs : List Sg} (hn : xs.length ≤ 100000) : byVal (callW gp) h fid.gussetref08_SameSegs [.is xs.length false (xs.flatMap sgc), .is xs.length false (xs.flatMap sgc)] = some (.bool true) := byVal_imm (imm_L2 ((imm_is (imm_flat imm_sgc xs)).mono (by omega)) ((imm_is (imm_flat imm_sgc xs)).mono (by omega))) (by
  rw [gussetref08_SameSegs.eq]
  unfold gussetref08_SameSegs.f
  have l := sames_l0 (f := false) (g := false) hn xs.length 0 (by omega)
  simp (disch := first | exact dD | fail) only [Wd, W2d, W3d, Nat.reduceAdd, Nat.reduceMul, Nat.reduceSub]
  exact l)
theorem k_same {h : Heap} {p : Pl} (hp : p.ok) : byVal (callW gp) h fid.gussetref08_Same [.agg (plc p), .agg (plc p)] = some (.bool true) := byVal_imm (imm_L2 imm_pl imm_pl) (by
  rw [gussetref08_Same.eq]
  unfold gussetref08_Same.f
  have k1 := fun h => k_samep (h := h) hp.pts hp.n1
  have k2 := fun h => k_sames (h := h) (xs := p.segs) hp.n2
  have k3 := fun h => k_samep (h := h) hp.holes hp.n3
  simp (disch := first | exact dD | fail) only [Wd, W2d, W3d, Nat.reduceAdd, Nat.reduceMul, Nat.reduceSub, plc_0, plc_1, plc_2, plc_3, plc_21, k1, k2, k3, eqa_r6 hp.F, eqa_r6 hp.G])
end Go.Proofs.YtechbfodaallkaaGreat.Am
