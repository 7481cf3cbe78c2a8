import Derived.Test.YtechbfodaallkaaGreatAmWell7
/- Well, the document's answer: the first thing that is wrong. -/
set_option linter.unusedVariables false
set_option maxRecDepth 10000
set_option linter.unusedSimpArgs false
namespace Go.Proofs.YtechbfodaallkaaGreat.Am
open Go

def thrR (ps : List (Rat × Rat)) (s : Sq) (k : Nat) : Bool := decide (¬ (s.1 : Int) = k) && (decide (¬ (s.2.1 : Int) = k) && onI ps s (px ps k) (py ps k))
theorem thr_eq (ps : List (Rat × Rat)) (s : Sq) : thrR ps s = thrI ps s := by
  funext k
  unfold thrR thrI
  congr 1
  · exact decide_eq_decide.2 ⟨fun h e => h e.symm, fun h e => h e.symm⟩
  · congr 1
    exact decide_eq_decide.2 ⟨fun h e => h e.symm, fun h e => h e.symm⟩
abbrev Yp (q : Pq) : AV := .is q.ps.length false (pcs q.ps)
abbrev bii (b : Bool) (i k : Int) : AV := .tup [.bool b, .int .i64 i, .int .i64 k]
theorem frz_bii {h : Heap} {d : Bool} {a b : Int} : freeze h (.tup [.bool d, .int .i64 a, .int .i64 b]) = some (.tup [.bool d, .int .i64 a, .int .i64 b]) := Eq.trans rfl rfl
section
variable {q : Pq}
theorem ron {h : Heap} (hq : q.ok) {s : Sq} (hs : SqOk q.ps.length s) {x y : Rat} (hx : Rz x 100) (hy : Rz y 100) : byVal (callW gp) h fid.gussetref05_On [pa (px q.ps s.1) (py q.ps s.1), pa (px q.ps s.2.1) (py q.ps s.2.1), pa x y] = some (.bool (onI q.ps s x y)) :=
  k5on ((hq.zp.x hs.1).1.mono (by omega)) ((hq.zp.x hs.1).2.mono (by omega)) ((hq.zp.x hs.2.1).1.mono (by omega)) ((hq.zp.x hs.2.1).2.mono (by omega)) (hx.mono (by omega)) (hy.mono (by omega))
theorem crsd_l1 (hq : q.ok) {s : Sq} (hs : SqOk q.ps.length s) {hh : Heap} {i j : Nat} (hi : i ≤ 100000) (hlj : live hh j = some [.int .i64 (s.1 : Int), .int .i64 (s.2.1 : Int), .bool s.2.2]) : ∀ (m k : Nat), k + m = q.ps.length →
    gussetref10_crossed.l1 (.rp 0 0) (Yp q) (.int .i64 (i : Int)) (.rp j 0) (.int .i64 (k : Int)) hh = match scan (thrR q.ps s) m k with | some k' => some (bii true i k') | none => gussetref10_crossed.l0 (.rp 0 0) (Yp q) (.int .i64 ((i + 1 : Nat) : Int)) hh := by
  have n1 := hq.n1
  have ea := pcs_at hs.1
  have eb := pcs_at hs.2.1
  have h1' := hs.1
  have h2' := hs.2.1
  intro m
  induction m with
  | zero =>
    intro k hkm
    obtain rfl : k = q.ps.length := by omega
    rw [gussetref10_crossed.l1_eq]
    simp (disch := first | exact dD | fail) only [Wd, W2d, W3d, Nat.reduceAdd, Nat.reduceMul, Nat.reduceSub]
    rfl
  | succ m ih =>
    intro k hkm
    have hk : k < q.ps.length := by omega
    rw [gussetref10_crossed.l1_eq, scan]
    have e1 := pcs_at hk
    have ko := fun h => ron (h := h) hq hs (hq.zp.x hk).1 (hq.zp.x hk).2
    have g := ih (k + 1) (by omega)
    unfold thrR at *
    by_cases q1 : (s.1 : Int) = k
    · rw [decide_eq_false (not_not_intro q1), Bool.false_and, if_neg (by decide)]
      simp (disch := first | exact dD | fail) only [Wd, W2d, W3d, Nat.reduceAdd, Nat.reduceMul, Nat.reduceSub, hlj, decide_eq_false (not_not_intro q1)]
      exact g
    rw [decide_eq_true q1, Bool.true_and]
    by_cases q2 : (s.2.1 : Int) = k
    · rw [decide_eq_false (not_not_intro q2), Bool.false_and, if_neg (by decide)]
      simp (disch := first | exact dD | fail) only [Wd, W2d, W3d, Nat.reduceAdd, Nat.reduceMul, Nat.reduceSub, hlj, decide_eq_true q1, decide_eq_false (not_not_intro q2)]
      exact g
    rw [decide_eq_true q2, Bool.true_and]
    generalize onI q.ps s (px q.ps k) (py q.ps k) = o at *
    cases o
    · rw [if_neg (by decide)]
      simp (disch := first | exact dD | fail) only [Wd, W2d, W3d, Nat.reduceAdd, Nat.reduceMul, Nat.reduceSub, hlj, e1, ea, eb, decide_eq_true q1, decide_eq_true q2, ko]
      exact g
    · rw [if_pos rfl]
      simp (disch := first | exact dD | fail) only [Wd, W2d, W3d, Nat.reduceAdd, Nat.reduceMul, Nat.reduceSub, hlj, e1, ea, eb, decide_eq_true q1, decide_eq_true q2, ko, frz_bii]
theorem crsd_l3 (hq : q.ok) {hh : Heap} {i : Nat} (hi : i < q.ss.length) (hl0 : live hh 0 = some (plc q.pl)) : ∀ (m k : Nat), k + m = i →
    gussetref10_crossed.l3 (.rp 0 0) (Yp q) (.int .i64 (i : Int)) (.int .i64 (k : Int)) hh = match scan (fun k => crossI q.ps (sat q.ss i) (sat q.ss k)) m k with | some k' => some (bii true i k') | none => gussetref10_crossed.l2 (.rp 0 0) (Yp q) (.int .i64 ((i + 1 : Nat) : Int)) hh := by
  have n1 := hq.n1
  have n2 := hq.n2
  intro m
  induction m with
  | zero =>
    intro k hkm
    obtain rfl : k = i := by omega
    rw [gussetref10_crossed.l3_eq]
    simp (disch := first | exact dD | fail) only [Wd, W2d, W3d, Nat.reduceAdd, Nat.reduceMul, Nat.reduceSub]
    rfl
  | succ m ih =>
    intro k hkm
    have hk : k < q.ss.length := by omega
    rw [gussetref10_crossed.l3_eq, scan]
    have e1 := scs_at hi
    have e2 := scs_at hk
    have g := ih (k + 1) (by omega)
    have kc := fun h => k_common (h := h) n1 hq.zp (sat_ok hq hi) (sat_ok hq hk)
    unfold sgc sq_ at kc
    simp only at kc
    generalize crossI q.ps (sat q.ss i) (sat q.ss k) = o at *
    cases o
    · rw [if_neg (by decide)]
      simp (disch := first | exact dD | fail) only [Wd, W2d, W3d, Nat.reduceAdd, Nat.reduceMul, Nat.reduceSub, hl0, plq_1, e1, e2, kc]
      exact g
    · rw [if_pos rfl]
      simp (disch := first | exact dD | fail) only [Wd, W2d, W3d, Nat.reduceAdd, Nat.reduceMul, Nat.reduceSub, hl0, plq_1, e1, e2, kc, frz_bii]
theorem crsd_l2 (hq : q.ok) {hh : Heap} (hl0 : live hh 0 = some (plc q.pl)) : ∀ (m i : Nat), i + m = q.ss.length →
    gussetref10_crossed.l2 (.rp 0 0) (Yp q) (.int .i64 (i : Int)) hh = match pairF (fun i k => crossI q.ps (sat q.ss i) (sat q.ss k)) m i with | some (i, k) => some (bii true i k) | none => some (bii false 0 0) := by
  have n1 := hq.n1
  have n2 := hq.n2
  intro m
  induction m with
  | zero =>
    intro i him
    obtain rfl : i = q.ss.length := by omega
    rw [gussetref10_crossed.l2_eq]
    simp (disch := first | exact dD | fail) only [Wd, W2d, W3d, Nat.reduceAdd, Nat.reduceMul, Nat.reduceSub, hl0, plq_1, frz_bii]
    rfl
  | succ m ih =>
    intro i him
    have hi : i < q.ss.length := by omega
    rw [gussetref10_crossed.l2_eq]
    simp (disch := first | exact dD | fail) only [Wd, W2d, W3d, Nat.reduceAdd, Nat.reduceMul, Nat.reduceSub, hl0, plq_1]
    refine (crsd_l3 hq hi hl0 i 0 (by omega)).trans ?_
    rw [pairF]
    cases scan (fun k => crossI q.ps (sat q.ss i) (sat q.ss k)) i 0 with
    | some k => rfl
    | none => exact ih (i + 1) (by omega)
theorem crsd_l0 (hq : q.ok) {RR : Option AV} : ∀ (m i : Nat) (hh : Heap), i + m = q.ss.length → 0 < hh.length → live hh 0 = some (plc q.pl) →
    (∀ hh', 0 < hh'.length → live hh' 0 = some (plc q.pl) → gussetref10_crossed.l2 (.rp 0 0) (Yp q) (.int .i64 0) hh' = RR) →
    gussetref10_crossed.l0 (.rp 0 0) (Yp q) (.int .i64 (i : Int)) hh = match pairG q.ps.length (fun i k => thrR q.ps (sat q.ss i) k) m i with | some (i, k) => some (bii true i k) | none => RR := by
  have n1 := hq.n1
  have n2 := hq.n2
  intro m
  induction m with
  | zero =>
    intro i hh him h0 hl0 hR
    obtain rfl : i = q.ss.length := by omega
    rw [gussetref10_crossed.l0_eq]
    simp (disch := first | exact dD | fail) only [Wd, W2d, W3d, Nat.reduceAdd, Nat.reduceMul, Nat.reduceSub, hl0, plq_1]
    exact hR hh h0 hl0
  | succ m ih =>
    intro i hh him h0 hl0 hR
    have hi : i < q.ss.length := by omega
    rw [gussetref10_crossed.l0_eq]
    have e1 := scs_at hi
    have a0 : ∀ x, live (hh ++ [x]) 0 = some (plc q.pl) := fun x => lv_app h0 hl0
    simp (disch := first | exact dD | fail) only [Wd, W2d, W3d, Nat.reduceAdd, Nat.reduceMul, Nat.reduceSub, hl0, plq_1, e1, set_app_self, live_app_self]
    refine (crsd_l1 hq (sat_ok hq hi) (by omega) live_app_self q.ps.length 0 (by omega)).trans ?_
    rw [pairG]
    cases scan (thrR q.ps (sat q.ss i)) q.ps.length 0 with
    | some k => rfl
    | none => exact ih (i + 1) _ (by omega) (by rw [List.length_append]; omega) (a0 _) hR
def crossedF (q : Pq) : Option (Nat × Nat) := match thrF q with
  | some p => some p
  | none => crsF q
theorem k_crossed {h : Heap} (hq : q.ok) : byVal (callW gp) h fid.gussetref10_crossed [.agg (plc q.pl)] = some (match crossedF q with | some (i, k) => bii true i k | none => bii false 0 0) := by
  have hc : cv gp fid.gussetref10_crossed [.agg (plc q.pl)] = some (match crossedF q with | some (i, k) => bii true i k | none => bii false 0 0) := by
    rw [gussetref10_crossed.eq]
    unfold gussetref10_crossed.f crossedF
    simp (disch := first | exact dD | fail) only [Wd, W2d, W3d, Nat.reduceAdd, Nat.reduceMul, Nat.reduceSub, plq_0]
    refine (crsd_l0 hq q.ss.length 0 _ (by omega) (by simp) rfl (fun hh' _ h2 => crsd_l2 hq h2 q.ss.length 0 (by omega))).trans ?_
    have e : (fun i k => thrR q.ps (sat q.ss i) k) = fun i k => thrI q.ps (sat q.ss i) k := by funext i k; rw [thr_eq]
    rw [e]
    unfold thrF crsF
    cases pairG q.ps.length (fun i k => thrI q.ps (sat q.ss i) k) q.ss.length 0 with
    | some r => rfl
    | none => cases pairF (fun i k => crossI q.ps (sat q.ss i) (sat q.ss k)) q.ss.length 0 <;> rfl
  exact byVal_imm (imm_L1 imm_pl) hc
end
/-! ### First -/
theorem rf_l0 {p : Pl} (hp : p.ok) {RR : Option AV} : ∀ (m i : Nat) (hh : Heap), i + m = p.segs.length → 0 < hh.length → live hh 0 = some (plc p) →
    (scan (fun i => badS p.pts.length (sgAt p.segs i)) m i = none → ∀ hh', 0 < hh'.length → live hh' 0 = some (plc p) → gussetref10_First.l1 (.rp 0 0) (.is p.pts.length false (p.pts.flatMap ptc)) (.int .i64 0) hh' = RR) →
    gussetref10_First.l0 (.rp 0 0) (.is p.pts.length false (p.pts.flatMap ptc)) (.int .i64 (i : Int)) hh = match scan (fun i => badS p.pts.length (sgAt p.segs i)) m i with | some i' => some (fdt (1, i', 0)) | none => RR := by
  have n1 := hp.n1
  have n2 := hp.n2
  intro m
  induction m with
  | zero =>
    intro i hh him h0 hl0 hR
    obtain rfl : i = p.segs.length := by omega
    rw [gussetref10_First.l0_eq]
    simp (disch := first | exact dD | fail) only [Wd, W2d, W3d, Nat.reduceAdd, Nat.reduceMul, Nat.reduceSub, hl0, plc_1]
    exact hR rfl hh h0 hl0
  | succ m ih =>
    intro i hh him h0 hl0 hR
    have hi : i < p.segs.length := by omega
    rw [gussetref10_First.l0_eq, scan]
    have es : sgAt p.segs i = p.segs[i] := by simp [sgAt, List.getD, List.getElem?_eq_getElem hi]
    have e1 : (p.segs.flatMap sgc).drop (i * 3) = .int .i64 (sgAt p.segs i).a :: .int .i64 (sgAt p.segs i).b :: .bool (sgAt p.segs i).f :: (p.segs.drop (i + 1)).flatMap sgc := by
      rw [drop_flatMap sgc_len, List.drop_eq_getElem_cons hi, List.flatMap_cons, es]; rfl
    have a0 : ∀ x, live (hh ++ [x]) 0 = some (plc p) := fun x => lv_app h0 hl0
    have g := fun (hb : ¬ badS p.pts.length (sgAt p.segs i) = true) x => ih (i + 1) (hh ++ [x]) (by omega) (by rw [List.length_append]; omega) (a0 x) (fun hs => hR (by rw [scan, if_neg hb]; exact hs))
    have ke := fun h f => k_ends (h := h) (f := f) (s := sgAt p.segs i) n1
    have hbq := badS_eq p.pts.length (sgAt p.segs i)
    rw [hbq] at g ⊢
    clear hbq
    generalize sgAt p.segs i = s at *
    obtain ⟨a, b, f⟩ := s
    simp only at *
    generalize endsB p.pts.length ⟨a, b, f⟩ = o at *
    cases o
    · rw [Bool.not_false, Bool.true_or, if_pos rfl]
      simp (disch := first | exact dD | fail) only [Wd, W2d, W3d, Nat.reduceAdd, Nat.reduceMul, Nat.reduceSub, hl0, plc_1, e1, set_app_self, live_app_self, a0, ke, frz_iii]
    · rw [Bool.not_true, Bool.false_or]
      by_cases q3 : a = b
      · rw [decide_eq_true q3, if_pos rfl]
        simp (disch := first | exact dD | fail) only [Wd, W2d, W3d, Nat.reduceAdd, Nat.reduceMul, Nat.reduceSub, hl0, plc_1, e1, set_app_self, live_app_self, a0, ke, cond_d, decide_eq_true q3, frz_iii]
      · rw [decide_eq_false q3, if_neg (by decide)]
        rw [Bool.not_true, Bool.false_or, decide_eq_false q3] at g
        have g := g (by decide)
        simp (disch := first | exact dD | fail) only [Wd, W2d, W3d, Nat.reduceAdd, Nat.reduceMul, Nat.reduceSub, hl0, plc_1, e1, set_app_self, live_app_self, a0, ke, cond_d, decide_eq_false q3]
        exact g _
section
variable {q : Pq}
theorem rf_l2 (hq : q.ok) {hh : Heap} {i : Nat} (hi : i < q.ps.length) : ∀ (m k : Nat), k + m = i →
    gussetref10_First.l2 (.rp 0 0) (Yp q) (.int .i64 (i : Int)) (.int .i64 (k : Int)) hh = match scan (eqI q.ps i) m k with | some k' => some (fdt (8, i, k')) | none => gussetref10_First.l1 (.rp 0 0) (Yp q) (.int .i64 ((i + 1 : Nat) : Int)) hh := by
  have n1 := hq.n1
  intro m
  induction m with
  | zero =>
    intro k hkm
    obtain rfl : k = i := by omega
    rw [gussetref10_First.l2_eq]
    simp (disch := first | exact dD | fail) only [Wd, W2d, W3d, Nat.reduceAdd, Nat.reduceMul, Nat.reduceSub]
    rfl
  | succ m ih =>
    intro k hkm
    have hk : k < q.ps.length := by omega
    rw [gussetref10_First.l2_eq, scan]
    have e1 := pcs_at hi
    have e2 := pcs_at hk
    have g := ih (k + 1) (by omega)
    have eq := @eqa_p (px q.ps i) (py q.ps i) (px q.ps k) (py q.ps k)
    unfold eqI at *
    generalize decide (px q.ps i = px q.ps k ∧ py q.ps i = py q.ps k) = o at *
    cases o
    · rw [if_neg (by decide)]
      simp (disch := first | exact dD | fail) only [Wd, W2d, W3d, Nat.reduceAdd, Nat.reduceMul, Nat.reduceSub, e1, e2, eq]
      exact g
    · rw [if_pos rfl]
      simp (disch := first | exact dD | fail) only [Wd, W2d, W3d, Nat.reduceAdd, Nat.reduceMul, Nat.reduceSub, e1, e2, eq, frz_iii]
theorem rf_l1 (hq : q.ok) {hh : Heap} (hl0 : live hh 0 = some (plc q.pl)) : ∀ (m i : Nat), i + m = q.ps.length →
    gussetref10_First.l1 (.rp 0 0) (Yp q) (.int .i64 (i : Int)) hh = match pairF (eqI q.ps) m i with | some (i, k) => some (fdt (8, i, k)) | none => match crossedF q with | some (i, k) => some (fdt (9, i, k)) | none => gussetref10_First.l3 (.rp 0 0) (Yp q) (.int .i64 0) hh := by
  have n1 := hq.n1
  intro m
  induction m with
  | zero =>
    intro i him
    obtain rfl : i = q.ps.length := by omega
    rw [gussetref10_First.l1_eq]
    have kc := fun h => k_crossed (h := h) hq
    cases hcf : crossedF q with
    | some r =>
      rw [hcf] at kc
      obtain ⟨a, b⟩ := r
      simp only at kc
      simp (disch := first | exact dD | fail) only [Wd, W2d, W3d, Nat.reduceAdd, Nat.reduceMul, Nat.reduceSub, hl0, rc39, kc, frz_iii]
      rfl
    | none =>
      rw [hcf] at kc
      simp only at kc
      simp (disch := first | exact dD | fail) only [Wd, W2d, W3d, Nat.reduceAdd, Nat.reduceMul, Nat.reduceSub, hl0, rc39, kc]
      rfl
  | succ m ih =>
    intro i him
    have hi : i < q.ps.length := by omega
    rw [gussetref10_First.l1_eq]
    simp (disch := first | exact dD | fail) only [Wd, W2d, W3d, Nat.reduceAdd, Nat.reduceMul, Nat.reduceSub]
    refine (rf_l2 hq hi i 0 (by omega)).trans ?_
    rw [pairF]
    cases scan (eqI q.ps i) i 0 with
    | some k => rfl
    | none => exact ih (i + 1) (by omega)
theorem rf_l4 (hq : q.ok) {hh : Heap} {i : Nat} (hi : i < q.ss.length) (hl0 : live hh 0 = some (plc q.pl)) : ∀ (m k : Nat), k + m = i →
    gussetref10_First.l4 (.rp 0 0) (Yp q) (.int .i64 (i : Int)) (.int .i64 (k : Int)) hh = match scan (fun k => sharpR q.ps (sat q.ss i) (sat q.ss k)) m k with | some k' => some (fdt (10, i, k')) | none => gussetref10_First.l3 (.rp 0 0) (Yp q) (.int .i64 ((i + 1 : Nat) : Int)) hh := by
  have n1 := hq.n1
  have n2 := hq.n2
  intro m
  induction m with
  | zero =>
    intro k hkm
    obtain rfl : k = i := by omega
    rw [gussetref10_First.l4_eq]
    simp (disch := first | exact dD | fail) only [Wd, W2d, W3d, Nat.reduceAdd, Nat.reduceMul, Nat.reduceSub]
    rfl
  | succ m ih =>
    intro k hkm
    have hk : k < q.ss.length := by omega
    rw [gussetref10_First.l4_eq, scan]
    have e1 := scs_at hi
    have e2 := scs_at hk
    have g := ih (k + 1) (by omega)
    have kc := fun h => k_rsharp (h := h) n1 hq.zp (sat_ok hq hi) (sat_ok hq hk)
    unfold sgc sq_ at kc
    simp only at kc
    generalize sharpR q.ps (sat q.ss i) (sat q.ss k) = o at *
    cases o
    · rw [if_neg (by decide)]
      simp (disch := first | exact dD | fail) only [Wd, W2d, W3d, Nat.reduceAdd, Nat.reduceMul, Nat.reduceSub, hl0, plq_1, e1, e2, kc]
      exact g
    · rw [if_pos rfl]
      simp (disch := first | exact dD | fail) only [Wd, W2d, W3d, Nat.reduceAdd, Nat.reduceMul, Nat.reduceSub, hl0, plq_1, e1, e2, kc, frz_iii]
theorem rf_l3 (hq : q.ok) {hh : Heap} (hl0 : live hh 0 = some (plc q.pl)) : ∀ (m i : Nat), i + m = q.ss.length →
    gussetref10_First.l3 (.rp 0 0) (Yp q) (.int .i64 (i : Int)) hh = match pairF (fun i k => sharpR q.ps (sat q.ss i) (sat q.ss k)) m i with | some (i, k) => some (fdt (10, i, k)) | none => gussetref10_First.l5 (.rp 0 0) (Yp q) (.int .i64 0) hh := by
  have n1 := hq.n1
  have n2 := hq.n2
  intro m
  induction m with
  | zero =>
    intro i him
    obtain rfl : i = q.ss.length := by omega
    rw [gussetref10_First.l3_eq]
    simp (disch := first | exact dD | fail) only [Wd, W2d, W3d, Nat.reduceAdd, Nat.reduceMul, Nat.reduceSub, hl0, plq_1]
    rfl
  | succ m ih =>
    intro i him
    have hi : i < q.ss.length := by omega
    rw [gussetref10_First.l3_eq]
    simp (disch := first | exact dD | fail) only [Wd, W2d, W3d, Nat.reduceAdd, Nat.reduceMul, Nat.reduceSub, hl0, plq_1]
    refine (rf_l4 hq hi hl0 i 0 (by omega)).trans ?_
    rw [pairF]
    cases scan (fun k => sharpR q.ps (sat q.ss i) (sat q.ss k)) i 0 with
    | some k => rfl
    | none => exact ih (i + 1) (by omega)
theorem rf_l7 (hq : q.ok) {hh : Heap} {i : Nat} (hi : i < q.hs.length) (hl0 : live hh 0 = some (plc q.pl)) : ∀ (m k : Nat), k + m = q.ss.length →
    gussetref10_First.l7 (.rp 0 0) (Yp q) (.int .i64 (i : Int)) (.int .i64 (k : Int)) hh = if (scan (fun k => onI q.ps (sat q.ss k) (px q.hs i) (py q.hs i)) m k).isSome = true then some (fdt (11, i, 0)) else gussetref10_First.l5 (.rp 0 0) (Yp q) (.int .i64 ((i + 1 : Nat) : Int)) hh := by
  have n1 := hq.n1
  have n2 := hq.n2
  have n3 := hq.n3
  intro m
  induction m with
  | zero =>
    intro k hkm
    obtain rfl : k = q.ss.length := by omega
    rw [gussetref10_First.l7_eq]
    simp (disch := first | exact dD | fail) only [Wd, W2d, W3d, Nat.reduceAdd, Nat.reduceMul, Nat.reduceSub, hl0, plq_1]
    rfl
  | succ m ih =>
    intro k hkm
    have hk : k < q.ss.length := by omega
    rw [gussetref10_First.l7_eq, scan]
    have e1 := scs_at hk
    have hs := sat_ok hq hk
    have e2 := pcs_at hi
    have ea := pcs_at hs.1
    have eb := pcs_at hs.2.1
    have h1' := hs.1
    have h2' := hs.2.1
    have g := ih (k + 1) (by omega)
    have ko := fun h => ron (h := h) hq hs (hq.zh.x hi).1 (hq.zh.x hi).2
    have e1' : List.drop (k * 3 + 1) (scs q.ss) = .int .i64 ((sat q.ss k).2.1 : Int) :: .bool (sat q.ss k).2.2 :: scs (q.ss.drop (k + 1)) := by rw [← List.drop_drop, e1]; rfl
    generalize onI q.ps (sat q.ss k) (px q.hs i) (py q.hs i) = o at *
    cases o
    · rw [if_neg (by decide : ¬ false = true)]
      simp (disch := first | exact dD | fail) only [Wd, W2d, W3d, Nat.reduceAdd, Nat.reduceMul, Nat.reduceSub, hl0, plq_1, plq_2, e1, e1', e2, ea, eb, ko]
      exact g
    · rw [if_pos (rfl : true = true), if_pos (show (some k).isSome = true from rfl)]
      simp (disch := first | exact dD | fail) only [Wd, W2d, W3d, Nat.reduceAdd, Nat.reduceMul, Nat.reduceSub, hl0, plq_1, plq_2, e1, e1', e2, ea, eb, ko, frz_iii]
theorem rf_l6 (hq : q.ok) {hh : Heap} {i : Nat} (hi : i < q.hs.length) (hl0 : live hh 0 = some (plc q.pl)) : ∀ (m k : Nat), k + m = q.ps.length →
    gussetref10_First.l6 (.rp 0 0) (Yp q) (.int .i64 (i : Int)) (.int .i64 (k : Int)) hh = if (scan (eqN q.ps (px q.hs i) (py q.hs i)) m k).isSome = true then some (fdt (11, i, 0)) else gussetref10_First.l7 (.rp 0 0) (Yp q) (.int .i64 (i : Int)) (.int .i64 0) hh := by
  have n1 := hq.n1
  have n3 := hq.n3
  intro m
  induction m with
  | zero =>
    intro k hkm
    obtain rfl : k = q.ps.length := by omega
    rw [gussetref10_First.l6_eq]
    simp (disch := first | exact dD | fail) only [Wd, W2d, W3d, Nat.reduceAdd, Nat.reduceMul, Nat.reduceSub]
    rfl
  | succ m ih =>
    intro k hkm
    have hk : k < q.ps.length := by omega
    rw [gussetref10_First.l6_eq, scan]
    have e1 := pcs_at hk
    have e2 := pcs_at hi
    have g := ih (k + 1) (by omega)
    have eq := @eqa_p (px q.ps k) (py q.ps k) (px q.hs i) (py q.hs i)
    have es : decide (px q.ps k = px q.hs i ∧ py q.ps k = py q.hs i) = eqN q.ps (px q.hs i) (py q.hs i) k := decide_eq_decide.2 ⟨fun h => ⟨h.1.symm, h.2.symm⟩, fun h => ⟨h.1.symm, h.2.symm⟩⟩
    rw [es] at eq
    generalize eqN q.ps (px q.hs i) (py q.hs i) k = o at *
    cases o
    · rw [if_neg (by decide : ¬ false = true)]
      simp (disch := first | exact dD | fail) only [Wd, W2d, W3d, Nat.reduceAdd, Nat.reduceMul, Nat.reduceSub, hl0, plq_2, e1, e2, eq]
      exact g
    · rw [if_pos (rfl : true = true), if_pos (show (some k).isSome = true from rfl)]
      simp (disch := first | exact dD | fail) only [Wd, W2d, W3d, Nat.reduceAdd, Nat.reduceMul, Nat.reduceSub, hl0, plq_2, e1, e2, eq, frz_iii]
theorem rf_l5 (hq : q.ok) {hh : Heap} (hl0 : live hh 0 = some (plc q.pl)) : ∀ (m i : Nat), i + m = q.hs.length →
    gussetref10_First.l5 (.rp 0 0) (Yp q) (.int .i64 (i : Int)) hh = match scan (holeI q) m i with | some i' => some (fdt (11, i', 0)) | none => some (fdt (0, 0, 0)) := by
  have n1 := hq.n1
  have n3 := hq.n3
  intro m
  induction m with
  | zero =>
    intro i him
    obtain rfl : i = q.hs.length := by omega
    rw [gussetref10_First.l5_eq]
    simp (disch := first | exact dD | fail) only [Wd, W2d, W3d, Nat.reduceAdd, Nat.reduceMul, Nat.reduceSub, hl0, plq_2, frz_iii]
    rfl
  | succ m ih =>
    intro i him
    have hi : i < q.hs.length := by omega
    rw [gussetref10_First.l5_eq, scan]
    simp (disch := first | exact dD | fail) only [Wd, W2d, W3d, Nat.reduceAdd, Nat.reduceMul, Nat.reduceSub, hl0, plq_2]
    refine (rf_l6 hq hi hl0 q.ps.length 0 (by omega)).trans ?_
    unfold holeI at *
    cases b1 : (scan (eqN q.ps (px q.hs i) (py q.hs i)) q.ps.length 0).isSome
    rotate_left
    · rw [if_pos rfl, Bool.true_or, if_pos rfl]
    rw [if_neg (by decide), Bool.false_or]
    refine (rf_l7 hq hi hl0 q.ss.length 0 (by omega)).trans ?_
    cases b2 : (scan (fun k => onI q.ps (sat q.ss k) (px q.hs i) (py q.hs i)) q.ss.length 0).isSome
    · rw [if_neg (by decide), if_neg (by decide)]
      exact ih (i + 1) (by omega)
    · rw [if_pos rfl, if_pos rfl]
/-- The document's first thing that is wrong. -/
def firstR (q : Pq) : Fnd :=
  match twiceF q with
  | some (i, k) => (8, i, k)
  | none => match crossedF q with
    | some (i, k) => (9, i, k)
    | none => match pairF (fun i k => sharpR q.ps (sat q.ss i) (sat q.ss k)) q.ss.length 0 with
      | some (i, k) => (10, i, k)
      | none => holesF q
theorem k_rfirstQ {h : Heap} (hq : q.ok) (hg : givenF q.pl = (0, 0, 0)) : byVal (callW gp) h fid.gussetref10_First [.agg (plc q.pl)] = some (fdt (firstR q)) := byVal_imm (imm_L1 imm_pl) (by
  have hp := Pq.plok hq
  rw [given_rask] at hg
  by_cases hr : raskF q.pl ≠ 0
  · rw [if_pos hr] at hg
    exact absurd (congrArg Prod.fst hg) hr
  rw [if_neg hr] at hg
  have hr0 : raskF q.pl = 0 := by omega
  have ka := fun h => k_rasked (h := h) hp
  rw [hr0] at ka
  have hb : scan (fun i => badS q.pl.pts.length (sgAt q.pl.segs i)) q.pl.segs.length 0 = none := by
    cases hs : scan (fun i => badS q.pl.pts.length (sgAt q.pl.segs i)) q.pl.segs.length 0 with
    | none => rfl
    | some i => rw [hs] at hg; exact absurd (congrArg Prod.fst hg) (show ¬ (1 : Int) = 0 by decide)
  have l0 := rf_l0 (RR := some (fdt (firstR q))) hp q.pl.segs.length 0 [some (plc q.pl)] (by omega) (by simp) rfl (fun _ hh' h1 h2 => by
    have e : AV.is q.pl.pts.length false (q.pl.pts.flatMap ptc) = Yp q := by unfold Pq.pl Yp pcs; simp only [List.length_map]
    rw [e]
    refine (rf_l1 hq h2 q.ps.length 0 (by omega)).trans ?_
    unfold firstR twiceF holesF
    cases pairF (eqI q.ps) q.ps.length 0 with
    | some r => rfl
    | none =>
      cases crossedF q with
      | some r => rfl
      | none =>
        refine (rf_l3 hq h2 q.ss.length 0 (by omega)).trans ?_
        cases pairF (fun i k => sharpR q.ps (sat q.ss i) (sat q.ss k)) q.ss.length 0 with
        | some r => rfl
        | none =>
          refine (rf_l5 hq h2 q.hs.length 0 (by omega)).trans ?_
          cases scan (holeI q) q.hs.length 0 <;> rfl)
  rw [hb] at l0
  rw [gussetref10_First.eq]
  unfold gussetref10_First.f
  simp (disch := first | exact dD | fail) only [Wd, W2d, W3d, Nat.reduceAdd, Nat.reduceMul, Nat.reduceSub, rc39, plc_0, ka]
  exact l0)
end
theorem k_rfirstE {h : Heap} {p : Pl} (hp : p.ok) (he : (givenF p).1 ≠ 0) : byVal (callW gp) h fid.gussetref10_First [.agg (plc p)] = some (fdt (givenF p)) := byVal_imm (imm_L1 imm_pl) (by
  rw [given_rask] at he ⊢
  have ka := fun h => k_rasked (h := h) hp
  rw [gussetref10_First.eq]
  unfold gussetref10_First.f
  by_cases hr : raskF p ≠ 0
  · rw [if_pos hr]
    generalize raskF p = e at *
    simp (disch := first | exact dD | fail) only [Wd, W2d, W3d, Nat.reduceAdd, Nat.reduceMul, Nat.reduceSub, rc39, plc_0, ka, cond_d, decide_eq_true hr, hr, frz_iii]
  rw [if_neg hr] at he ⊢
  have hr0 : raskF p = 0 := by omega
  rw [hr0] at ka
  cases hs : scan (fun i => badS p.pts.length (sgAt p.segs i)) p.segs.length 0 with
  | none => rw [hs] at he; exact absurd rfl he
  | some i =>
    simp (disch := first | exact dD | fail) only [Wd, W2d, W3d, Nat.reduceAdd, Nat.reduceMul, Nat.reduceSub, rc39, plc_0, ka]
    refine (rf_l0 (RR := none) hp p.segs.length 0 [some (plc p)] (by omega) (by simp) rfl (fun hn => by rw [hs] at hn; cases hn)).trans ?_
    rw [hs])
end Go.Proofs.YtechbfodaallkaaGreat.Am
