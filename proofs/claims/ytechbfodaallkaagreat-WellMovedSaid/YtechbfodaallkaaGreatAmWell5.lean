import Derived.Test.YtechbfodaallkaaGreatAmWell4
/- Well: the first thing that is wrong. -/
set_option linter.unusedVariables false
set_option maxRecDepth 10000
set_option linter.unusedSimpArgs false
namespace Go.Proofs.YtechbfodaallkaaGreat.Am
open Go

theorem scan_none {P : Nat → Bool} : ∀ {m k : Nat}, scan P m k = none → ∀ j, k ≤ j → j < k + m → P j = false
  | 0, k, _, j, h1, h2 => by omega
  | m + 1, k, h, j, h1, h2 => by
    rw [scan] at h
    by_cases hp : P k = true
    · rw [if_pos hp] at h; cases h
    · rw [if_neg hp] at h
      by_cases hj : j = k
      · subst hj; cases hq : P j
        · rfl
        · exact absurd hq hp
      · exact scan_none h j (by omega) (by omega)
theorem pairF_none {P : Nat → Nat → Bool} : ∀ {m i : Nat}, pairF P m i = none → ∀ a, i ≤ a → a < i + m → ∀ k, k < a → P a k = false
  | 0, i, _, a, h1, h2 => by omega
  | m + 1, i, h, a, h1, h2 => by
    rw [pairF] at h
    cases hs : scan (P i) i 0 with
    | some k => rw [hs] at h; cases h
    | none =>
      rw [hs] at h
      by_cases ha : a = i
      · subst ha; exact fun k hk => scan_none hs k (by omega) (by omega)
      · exact pairF_none h a (by omega) (by omega)
theorem eqI_symm {ps : List (Rat × Rat)} {i k : Nat} (h : eqI ps i k = false) : eqI ps k i = false := by
  unfold eqI at *
  have h := of_decide_eq_false h
  exact decide_eq_false fun hh => h ⟨hh.1.symm, hh.2.symm⟩
def twiceF (q : Pq) : Option (Nat × Nat) := pairF (eqI q.ps) q.ps.length 0
def thrF (q : Pq) : Option (Nat × Nat) := pairG q.ps.length (fun i k => thrI q.ps (sat q.ss i) k) q.ss.length 0
def crsF (q : Pq) : Option (Nat × Nat) := pairF (fun i k => crossI q.ps (sat q.ss i) (sat q.ss k)) q.ss.length 0
def angF (q : Pq) : Option (Nat × Nat) := pairF (fun i k => sharpI q.ps (sat q.ss i) (sat q.ss k)) q.ss.length 0
/-- The first thing that is wrong with a plan whose parts may be so. -/
def firstQ (q : Pq) : Fnd :=
  match twiceF q with
  | some (i, k) => (8, i, k)
  | none => match thrF q with
    | some (i, k) => (9, i, k)
    | none => match crsF q with
      | some (i, k) => (9, i, k)
      | none => match angF q with
        | some (i, k) => (10, i, k)
        | none => holesF q
theorem distinct {q : Pq} (h : twiceF q = none) : ∀ i k, i < q.ps.length → k < q.ps.length → i ≠ k → eqI q.ps i k = false := fun i k hi hk hne => by
  rcases Nat.lt_or_gt_of_ne hne with hh | hh
  · exact eqI_symm (pairF_none h k (by omega) (by omega) i hh)
  · exact pairF_none h i (by omega) (by omega) k hh
theorem frz_iii {h : Heap} {a b c : Int} : freeze h (.tup [.int .i64 a, .int .i64 b, .int .i64 c]) = some (.tup [.int .i64 a, .int .i64 b, .int .i64 c]) := Eq.trans rfl rfl
section
variable {q : Pq}
theorem kp1 {H : Heap} (hq : q.ok) : byVal (callW gp) H fid.well_pairs_api_Point [.is q.ps.length false (pcs q.ps), .int .i64 8, .fn fid.well_First_1 []] = some (fdv (foundF 8 (twiceF q))) := by
  have := c_pairsP (H := H) (x := .is q.ps.length false (pcs q.ps)) (fx := .fn fid.well_First_1 []) (e := 8) (tells1 q.ps) (by rw [List.length_map]; exact hq.n1) (by
    rw [List.length_map]
    show freezeN 12 H _ = _
    rw [fz_is, imm_mapM (imm_pcs q.ps) (by omega)]; rfl) rfl
  rw [List.length_map, found_eq] at this
  exact this
theorem frzS {H : Heap} : freeze H (.is q.ss.length false (scs q.ss)) = some (.is q.ss.length false (scs q.ss)) := by
  show freezeN 12 H _ = _
  rw [fz_is, imm_mapM (imm_scs q.ss) (by omega)]; rfl
theorem frzC {H : Heap} {f : Nat} {x : Option (List AV)} : freeze (x :: some [.is q.ps.length false (pcs q.ps)] :: H) (.fn f [.rp 1 0]) = some (.fn f [capP q.ps]) := by
  show ([AV.rp 1 0].mapM (freezeN 11 _)).map _ = _
  have r1 := frz_rp (n := 10) (h := x :: some [.is q.ps.length false (pcs q.ps)] :: H) (id := 1) (d := 2) rfl (fun c hc => by
    rcases List.mem_cons.1 hc with rfl | hc
    · exact imm_is (imm_pcs q.ps)
    · cases hc) (by omega)
  simp only [List.mapM_cons, List.mapM_nil, r1]
  rfl
theorem kp2 {H : Heap} {x : Option (List AV)} (hq : q.ok) : byVal (callW gp) (x :: some [.is q.ps.length false (pcs q.ps)] :: H) fid.well_pairs_api_Seg [.is q.ss.length false (scs q.ss), .int .i64 9, .fn fid.well_First_2 [.rp 1 0]] = some (fdv (foundF 9 (crsF q))) := by
  have := c_pairsS (H := x :: some [.is q.ps.length false (pcs q.ps)] :: H) (x := .is q.ss.length false (scs q.ss)) (fx := .fn fid.well_First_2 [.rp 1 0]) (e := 9) (tells2 hq.zp hq.sg) (by rw [List.length_map]; exact hq.n2) (by rw [List.length_map]; exact frzS) frzC
  rw [List.length_map, found_eq] at this
  exact this
theorem kp3 {H : Heap} {x : Option (List AV)} (hq : q.ok) (hd : twiceF q = none) : byVal (callW gp) (x :: some [.is q.ps.length false (pcs q.ps)] :: H) fid.well_pairs_api_Seg [.is q.ss.length false (scs q.ss), .int .i64 10, .fn fid.well_First_3 [.rp 1 0]] = some (fdv (foundF 10 (angF q))) := by
  have := c_pairsS (H := x :: some [.is q.ps.length false (pcs q.ps)] :: H) (x := .is q.ss.length false (scs q.ss)) (fx := .fn fid.well_First_3 [.rp 1 0]) (e := 10) (tells3 hq.zp (distinct hd) hq.sg) (by rw [List.length_map]; exact hq.n2) (by rw [List.length_map]; exact frzS) frzC
  rw [List.length_map, found_eq] at this
  exact this
end
abbrev fdt (f : Fnd) : AV := .tup [.int .i64 f.1, .int .i64 f.2.1, .int .i64 f.2.2]
section
variable {h : Heap}
theorem k_firstE {p : Pl} (hp : p.ok) (he : (givenF p).1 ≠ 0) : byVal (callW gp) h fid.well_First [.agg (plc p)] = some (fdt (givenF p)) := byVal_imm (imm_L1 imm_pl) (by
  have kg := fun h => k_given (h := h) hp
  rw [well_First.eq]
  unfold well_First.f well_First.j0 well_First.j1 well_First.j2 well_First.j3 well_First.j4
  generalize givenF p = g at *
  obtain ⟨e, a, b⟩ := g
  unfold fdv at kg
  simp only at kg he ⊢
  simp (maxSteps := 1000000) (disch := first | exact dD | fail) only [Wd, W2d, W3d, Nat.reduceAdd, Nat.reduceMul, Nat.reduceSub, rc39, plc_0, kg, cond_d, decide_eq_false he, he, frz_iii])
theorem k_firstQ {q : Pq} (hq : q.ok) (hg : givenF q.pl = (0, 0, 0)) : byVal (callW gp) h fid.well_First [.agg (plc q.pl)] = some (fdt (firstQ q)) := byVal_imm (imm_L1 imm_pl) (by
  have kg := fun h => k_given (h := h) (Pq.plok hq)
  rw [hg] at kg
  have k1 := fun H => kp1 (H := H) hq
  have k2 := fun h => k_through (h := h) hq
  have k3 := fun x H => kp2 (x := x) (H := H) hq
  have k5 := fun h => k_holes (h := h) hq
  change ∀ h, _ = some (fdv (foundF 9 (thrF q))) at k2
  rw [well_First.eq]
  unfold well_First.f firstQ
  cases c1 : twiceF q with
  | some r =>
    rw [c1] at k1
    obtain ⟨i, k⟩ := r
    unfold foundF fdv at k1
    unfold fdv at kg
    simp only at k1 kg ⊢
    unfold well_First.j0 well_First.j1 well_First.j2 well_First.j3 well_First.j4
    simp (maxSteps := 1000000) (disch := first | exact dD | fail) only [Wd, W2d, W3d, Nat.reduceAdd, Nat.reduceMul, Nat.reduceSub, rc39, plq_0, kg, k1, frz_iii]
  | none =>
    have k4 := fun x H => kp3 (x := x) (H := H) hq c1
    rw [c1] at k1
    cases c2 : thrF q with
    | some r =>
      rw [c2] at k2
      obtain ⟨i, k⟩ := r
      unfold foundF fdv at k1 k2
      unfold fdv at kg
      simp only at k1 k2 kg ⊢
      unfold well_First.j0 well_First.j1 well_First.j2 well_First.j3 well_First.j4
      simp (maxSteps := 1000000) (disch := first | exact dD | fail) only [Wd, W2d, W3d, Nat.reduceAdd, Nat.reduceMul, Nat.reduceSub, rc39, plq_0, kg, k1, k2, frz_iii]
    | none =>
      rw [c2] at k2
      cases c3 : crsF q with
      | some r =>
        rw [c3] at k3
        obtain ⟨i, k⟩ := r
        unfold foundF fdv at k1 k2 k3
        unfold fdv at kg
        simp only at k1 k2 k3 kg ⊢
        unfold well_First.j0 well_First.j1 well_First.j2 well_First.j3 well_First.j4
        simp (maxSteps := 1000000) (disch := first | exact dD | fail) only [Wd, W2d, W3d, Nat.reduceAdd, Nat.reduceMul, Nat.reduceSub, rc39, plq_0, plq_1, kg, k1, k2, k3, frz_iii]
      | none =>
        rw [c3] at k3
        cases c4 : angF q with
        | some r =>
          rw [c4] at k4
          obtain ⟨i, k⟩ := r
          unfold foundF fdv at k1 k2 k3 k4
          unfold fdv at kg
          simp only at k1 k2 k3 k4 kg ⊢
          unfold well_First.j0 well_First.j1 well_First.j2 well_First.j3 well_First.j4
          simp (maxSteps := 1000000) (disch := first | exact dD | fail) only [Wd, W2d, W3d, Nat.reduceAdd, Nat.reduceMul, Nat.reduceSub, rc39, plq_0, plq_1, kg, k1, k2, k3, k4, frz_iii]
        | none =>
          rw [c4] at k4
          generalize holesF q = r at *
          obtain ⟨e, i, k⟩ := r
          unfold foundF at k1 k2 k3 k4
          unfold fdv at k1 k2 k3 k4 k5 kg
          simp only at k1 k2 k3 k4 k5 kg ⊢
          unfold well_First.j0 well_First.j1 well_First.j2 well_First.j3 well_First.j4
          simp (maxSteps := 1000000) (disch := first | exact dD | fail) only [Wd, W2d, W3d, Nat.reduceAdd, Nat.reduceMul, Nat.reduceSub, rc39, plq_0, plq_1, kg, k1, k2, k3, k4, k5, frz_iii])
theorem k_wcheck {p : Pl} {f : Fnd} (hf : ∀ h, byVal (callW gp) h fid.well_First [.agg (plc p)] = some (fdt f)) : byVal (callW gp) h fid.well_Check [.agg (plc p)] = some (.int .i64 f.1) := byVal_imm (imm_L1 imm_pl) (by
  rw [well_Check.eq]
  unfold well_Check.f
  simp (disch := first | exact dD | fail) only [Wd, W2d, W3d, Nat.reduceAdd, Nat.reduceMul, Nat.reduceSub, rc39, hf])
end
end Go.Proofs.YtechbfodaallkaaGreat.Am
