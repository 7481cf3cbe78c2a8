import Derived.Test.YtechbfodaallkaaGreatAmWell2
import Derived.Test.YtechbfodaallkaaGreatAmPolyC
/- Well: what a plan is made of; points on segments; holes. -/
set_option linter.unusedVariables false
set_option maxRecDepth 10000
set_option linter.unusedSimpArgs false
namespace Go.Proofs.YtechbfodaallkaaGreat.Am
open Go

/-- A plan. -/
structure Pl where
  pts : List PT
  segs : List Sg
  holes : List PT
  F : R6
  G : R6
def plc (p : Pl) : List AV := .is p.pts.length false (p.pts.flatMap ptc) :: .is p.segs.length false (p.segs.flatMap sgc) :: .is p.holes.length false (p.holes.flatMap ptc) :: (r6c p.F ++ r6c p.G)
structure Pl.ok (p : Pl) : Prop where
  pts : ∀ t ∈ p.pts, t.ok
  holes : ∀ t ∈ p.holes, t.ok
  F : p.F.ok
  G : p.G.ok
  n1 : p.pts.length ≤ 100000
  n2 : p.segs.length ≤ 100000
  n3 : p.holes.length ≤ 100000
section
variable {p : Pl}
theorem rc39 : readCells (plc p) (some 39) = some (.agg (plc p)) := Eq.trans rfl rfl
theorem plc_0 : readCells (plc p) none = some (.is p.pts.length false (p.pts.flatMap ptc)) := Eq.trans rfl rfl
theorem plc_1 : readCells (List.drop 1 (plc p)) none = some (.is p.segs.length false (p.segs.flatMap sgc)) := Eq.trans rfl rfl
theorem plc_2 : readCells (List.drop 2 (plc p)) none = some (.is p.holes.length false (p.holes.flatMap ptc)) := Eq.trans rfl rfl
theorem plc_3 : readCells (List.drop 3 (plc p)) (some 18) = some (.agg (r6c p.F)) := Eq.trans rfl rfl
theorem plc_21 : readCells (List.drop 21 (plc p)) (some 18) = some (.agg (r6c p.G)) := Eq.trans rfl rfl
theorem imm_plc : ∀ c ∈ plc p, Imm 2 c := fun c hc => by
  unfold plc at hc
  rcases List.mem_cons.1 hc with rfl | hc
  · exact imm_is (imm_flat imm_ptc _)
  rcases List.mem_cons.1 hc with rfl | hc
  · exact imm_is (imm_flat imm_sgc _)
  rcases List.mem_cons.1 hc with rfl | hc
  · exact imm_is (imm_flat imm_ptc _)
  rcases List.mem_append.1 hc with hc | hc
  · exact (imm_flat imm_rtc _ c hc).mono (by omega)
  · exact (imm_flat imm_rtc _ c hc).mono (by omega)
theorem imm_pl : Imm 12 (.agg (plc p)) := (imm_agg (imm_plc (p := p))).mono (by omega)
end
/-! ### What may be asked -/
theorem wasked_l0 {xs : List PT} {f : Bool} (hb : ∀ t ∈ xs, t.ok) (hn : xs.length ≤ 1000000) : ∀ (k i : Nat) (hh : Heap), i + k = xs.length → well_asked.l0 (.is xs.length f (xs.flatMap ptc)) (.int .i64 xs.length) (.int .i64 (i : Nat)) hh = some (.int .i64 (firstE ((xs.drop i).map askc))) := by
  intro k
  induction k with
  | zero =>
    intro i hh hik
    rw [well_asked.l0_eq]
    simp (disch := first | exact dD | fail) only [Wd, W2d, W3d, Nat.reduceAdd, Nat.reduceMul, Nat.reduceSub]
    rw [List.drop_of_length_le (by omega)]
    rfl
  | succ k ih =>
    intro i hh hik
    rw [well_asked.l0_eq]
    have hi : i < xs.length := by omega
    have ht := hb _ (List.getElem_mem hi)
    have e : (xs.flatMap ptc).drop (i * 6) = .bool xs[i].1.s :: str xs[i].1.m :: str xs[i].1.d :: .bool xs[i].2.s :: str xs[i].2.m :: str xs[i].2.d :: (xs.drop (i + 1)).flatMap ptc := by
      rw [drop_flatMap ptc_len, List.drop_eq_getElem_cons hi, List.flatMap_cons]; rfl
    obtain ⟨z, hc⟩ := k_orient1 ht
    unfold ptc rtc at hc
    simp only [List.cons_append, List.nil_append] at hc
    rw [List.drop_eq_getElem_cons hi, List.map_cons, firstE]
    simp (disch := first | exact dD | fail) only [Wd, W2d, W3d, Nat.reduceAdd, Nat.reduceMul, Nat.reduceSub, e, hc, cond_d, set_app_self, live_app_self]
    by_cases h0 : askc xs[i] = 0
    · rw [if_pos h0, if_neg (by simpa using h0)]
      exact ih (i + 1) _ (by omega)
    · rw [if_neg h0, if_pos h0]
theorem k_wasked {h : Heap} {xs : List PT} {f : Bool} (hb : ∀ t ∈ xs, t.ok) (hn : xs.length ≤ 1000000) : byVal (callW gp) h fid.well_asked [.is xs.length f (xs.flatMap ptc)] = some (.int .i64 (firstE (xs.map askc))) := byVal_lit (fun c hc => (imm_flat imm_ptc xs c hc).mono (by omega)) (by
  rw [well_asked.eq]
  unfold well_asked.f
  simp only [len_is, bind_s]
  exact wasked_l0 hb hn xs.length 0 [] (by omega))
def mnI (x y : Int) : Int := if y < x then y else x
def mxI (x y : Int) : Int := if x < y then y else x
theorem mmn {k : IntKind} {x y : Int} : opMm false [.int k x, .int k y] = some (.int k (mnI x y)) := rfl
theorem mmx {k : IntKind} {x y : Int} : opMm true [.int k x, .int k y] = some (.int k (mxI x y)) := rfl
def sgAt (ss : List Sg) (i : Nat) : Sg := ss.getD i ⟨0, 0, false⟩
/-- Is a segment none? -/
def badS (n : Nat) (s : Sg) : Bool := decide (mnI s.a s.b < 0) || (decide ((n : Int) ≤ mxI s.a s.b) || decide (s.a = s.b))
theorem bslc_r2 {a b : Nat} {xs ys : List AV} {f g : Bool} : opBslc 1 2 [.is 0 true []] [(0, .is a f xs), (1, .is b g ys)] = some (.is 2 true [.is a f xs, .is b g ys]) := Eq.trans rfl rfl
theorem rcFG0 {F G : R6} : readCells (r6c F ++ r6c G) (some 18) = some (.agg (r6c F)) := Eq.trans rfl rfl
theorem rcFG1 {F G : R6} : readCells (List.drop 18 (r6c F ++ r6c G)) (some 18) = some (.agg (r6c G)) := Eq.trans rfl rfl
theorem rcF {F : R6} : readCells (r6c F) (some 18) = some (.agg (r6c F)) := Eq.trans rfl rfl
theorem bslc_FG {F G : R6} : opBslc 18 2 [.bool false, .str ⟨#[]⟩, .str ⟨#[]⟩, .bool false, .str ⟨#[]⟩, .str ⟨#[]⟩, .bool false, .str ⟨#[]⟩, .str ⟨#[]⟩, .bool false, .str ⟨#[]⟩, .str ⟨#[]⟩, .bool false, .str ⟨#[]⟩, .str ⟨#[]⟩, .bool false, .str ⟨#[]⟩, .str ⟨#[]⟩] [(0, .agg (r6c F)), (1, .agg (r6c G))] = some (.is 2 true (r6c F ++ r6c G)) := bslc_a2 rfl rfl rfl
theorem given_l2 {p : Pl} (hp : p.ok) : ∀ (m i : Nat) (hh : Heap), i + m = p.segs.length → 1 < hh.length → live hh 0 = some (plc p) → live hh 1 = some z3i →
    well_given.l2 (.rp 0 0) (.rp 1 0) (.is p.segs.length false (p.segs.flatMap sgc)) (.int .i64 p.segs.length) (.int .i64 (i : Int)) hh = some (match scan (fun i => badS p.pts.length (sgAt p.segs i)) m i with | some i' => fd 1 i' 0 | none => .agg z3i) := by
  have n1 := hp.n1
  have n2 := hp.n2
  intro m
  induction m with
  | zero =>
    intro i hh him h0 hl0 hl1
    obtain rfl : i = p.segs.length := by omega
    have av : ∀ cs, live (hh.set 1 (some cs)) 1 = some cs := fun cs => live_set_self hl1
    rw [well_given.l2_eq]
    simp (disch := first | exact dD | fail) only [Wd, W2d, W3d, Nat.reduceAdd, Nat.reduceMul, Nat.reduceSub, hl1, av, frz_i3]
    rfl
  | succ m ih =>
    intro i hh him h0 hl0 hl1
    have hi : i < p.segs.length := by omega
    rw [well_given.l2_eq]
    have es : sgAt p.segs i = p.segs[i] := by simp [sgAt, List.getD, List.getElem?_eq_getElem hi]
    have e1 : (p.segs.flatMap sgc).drop (i * 3) = .int .i64 (sgAt p.segs i).a :: .int .i64 (sgAt p.segs i).b :: .bool (sgAt p.segs i).f :: (p.segs.drop (i + 1)).flatMap sgc := by
      rw [drop_flatMap sgc_len, List.drop_eq_getElem_cons hi, List.flatMap_cons, es]; rfl
    have a0 : ∀ x, live (hh ++ [x]) 0 = some (plc p) := fun x => lv_app (by omega) hl0
    have a1 : ∀ x, live (hh ++ [x]) 1 = some z3i := fun x => lv_app h0 hl1
    have av : ∀ x cs, live ((hh ++ [x]).set 1 (some cs)) 1 = some cs := fun x cs => live_set_self (a1 x)
    have g := fun x => ih (i + 1) (hh ++ [x]) (by omega) (by rw [List.length_append]; omega) (a0 x) (a1 x)
    rw [scan]
    unfold badS at *
    generalize sgAt p.segs i = s at *
    obtain ⟨a, b, f⟩ := s
    simp only at *
    by_cases q1 : mnI a b < 0
    · rw [decide_eq_true q1, Bool.true_or, if_pos rfl]
      simp (disch := first | exact dD | fail) only [Wd, W2d, W3d, Nat.reduceAdd, Nat.reduceMul, Nat.reduceSub, e1, set_app_self, live_app_self, a0, a1, av, frz_i3, mmn, mmx, plc_0]
    rw [decide_eq_false q1, Bool.false_or]
    by_cases q2 : (p.pts.length : Int) ≤ mxI a b
    · rw [decide_eq_true q2, Bool.true_or, if_pos rfl]
      simp (disch := first | exact dD | fail) only [Wd, W2d, W3d, Nat.reduceAdd, Nat.reduceMul, Nat.reduceSub, e1, set_app_self, live_app_self, a0, a1, av, frz_i3, mmn, mmx, plc_0]
    rw [decide_eq_false q2, Bool.false_or]
    by_cases q3 : a = b
    · rw [decide_eq_true q3, if_pos rfl]
      simp (disch := first | exact dD | fail) only [Wd, W2d, W3d, Nat.reduceAdd, Nat.reduceMul, Nat.reduceSub, e1, set_app_self, live_app_self, a0, a1, av, frz_i3, mmn, mmx, plc_0, cond_d, decide_eq_true q3]
    · rw [decide_eq_false q3, if_neg (by decide)]
      simp (disch := first | exact dD | fail) only [Wd, W2d, W3d, Nat.reduceAdd, Nat.reduceMul, Nat.reduceSub, e1, set_app_self, live_app_self, a0, a1, av, frz_i3, mmn, mmx, plc_0, cond_d, decide_eq_false q3]
      exact g _
/-- What is wrong: of a kind, and two numbers. -/
abbrev Fnd := Int × Int × Int
def fdv (f : Fnd) : AV := fd f.1 f.2.1 f.2.2
def foundF (e : Int) : Option (Nat × Nat) → Fnd
  | some (i, k) => (e, i, k)
  | none => (0, 0, 0)
theorem found_eq (e : Int) (o : Option (Nat × Nat)) : found e o = fdv (foundF e o) := by cases o <;> rfl
/-- What is wrong with what a plan is made of. -/
def givenF (p : Pl) : Fnd :=
  if 40 < p.pts.length ∨ 60 < p.segs.length ∨ 10 < p.holes.length then (5, 0, 0)
  else if firstE (p.pts.map askc) ≠ 0 then (firstE (p.pts.map askc), 0, 0)
  else if firstE (p.holes.map askc) ≠ 0 then (firstE (p.holes.map askc), 0, 0)
  else if ask6 p.F ≠ 0 ∨ ask6 p.G ≠ 0 then (1, 0, 0)
  else match scan (fun i => badS p.pts.length (sgAt p.segs i)) p.segs.length 0 with
    | some i => (1, i, 0)
    | none => (0, 0, 0)
theorem k_given {h : Heap} {p : Pl} (hp : p.ok) : byVal (callW gp) h fid.well_given [.agg (plc p)] = some (fdv (givenF p)) := byVal_imm (imm_L1 imm_pl) (by
  have n1 := hp.n1
  have n2 := hp.n2
  have n3 := hp.n3
  rw [well_given.eq]
  unfold well_given.f givenF
  by_cases q1 : 40 < p.pts.length
  · rw [if_pos (.inl q1)]
    simp (disch := first | exact dD | fail) only [Wd, W2d, W3d, Nat.reduceAdd, Nat.reduceMul, Nat.reduceSub, plc_0, plc_1, plc_2, frz_i3]
    rfl
  by_cases q2 : 60 < p.segs.length
  · rw [if_pos (.inr (.inl q2))]
    simp (disch := first | exact dD | fail) only [Wd, W2d, W3d, Nat.reduceAdd, Nat.reduceMul, Nat.reduceSub, plc_0, plc_1, plc_2, frz_i3]
    rfl
  by_cases q3 : 10 < p.holes.length
  · rw [if_pos (.inr (.inr q3))]
    simp (disch := first | exact dD | fail) only [Wd, W2d, W3d, Nat.reduceAdd, Nat.reduceMul, Nat.reduceSub, plc_0, plc_1, plc_2, frz_i3]
    rfl
  rw [if_neg (by omega)]
  have ka := fun h => k_wasked (h := h) (f := false) hp.pts (by omega)
  have kb := fun h => k_wasked (h := h) (f := false) hp.holes (by omega)
  have kF := fun h => k_pcheck (h := h) hp.F
  have kG := fun h => k_pcheck (h := h) hp.G
  have l2 := given_l2 hp p.segs.length 0
  simp (disch := first | exact dD | fail) only [Wd, W2d, W3d, Nat.reduceAdd, Nat.reduceMul, Nat.reduceSub, plc_0, plc_1, plc_2, bslc_r2]
  rw [well_given.l0_eq]
  by_cases h1 : firstE (p.pts.map askc) = 0
  rotate_left
  · rw [if_pos h1]
    simp (disch := first | exact dD | fail) only [Wd, W2d, W3d, Nat.reduceAdd, Nat.reduceMul, Nat.reduceSub, wl0, wl1, wi0, ka, cond_d, decide_eq_false h1, h1, frz_i3]
    rfl
  rw [if_neg (by simpa using h1)]
  rw [h1] at ka
  simp (disch := first | exact dD | fail) only [Wd, W2d, W3d, Nat.reduceAdd, Nat.reduceMul, Nat.reduceSub, wl0, wl1, wi0, ka, frz_i3]
  rw [well_given.l0_eq]
  by_cases h2 : firstE (p.holes.map askc) = 0
  rotate_left
  · rw [if_pos h2]
    simp (disch := first | exact dD | fail) only [Wd, W2d, W3d, Nat.reduceAdd, Nat.reduceMul, Nat.reduceSub, wl0, wl1, wi0, kb, cond_d, decide_eq_false h2, h2, frz_i3]
    rfl
  rw [if_neg (by simpa using h2)]
  rw [h2] at kb
  simp (disch := first | exact dD | fail) only [Wd, W2d, W3d, Nat.reduceAdd, Nat.reduceMul, Nat.reduceSub, wl0, wl1, wl2, wi0, wi1, kb, frz_i3]
  rw [well_given.l0_eq]
  simp (disch := first | exact dD | fail) only [Wd, W2d, W3d, Nat.reduceAdd, Nat.reduceMul, Nat.reduceSub, wl0, wl1, wl2, wi0, wi1, plc_3, plc_21, bslc_FG]
  rw [well_given.l1_eq]
  by_cases h3 : ask6 p.F = 0
  rotate_left
  · rw [if_pos (.inl h3)]
    simp (disch := first | exact dD | fail) only [Wd, W2d, W3d, Nat.reduceAdd, Nat.reduceMul, Nat.reduceSub, wl0, wl1, wi0, rcFG0, rcF, kF, cond_d, decide_eq_false h3, h3, frz_i3]
    rfl
  rw [h3] at kF
  simp (disch := first | exact dD | fail) only [Wd, W2d, W3d, Nat.reduceAdd, Nat.reduceMul, Nat.reduceSub, wl0, wl1, wi0, rcFG0, rcF, kF, frz_i3]
  rw [well_given.l1_eq]
  by_cases h4 : ask6 p.G = 0
  rotate_left
  · rw [if_pos (.inr h4)]
    simp (disch := first | exact dD | fail) only [Wd, W2d, W3d, Nat.reduceAdd, Nat.reduceMul, Nat.reduceSub, wl0, wl1, wl2, wi0, wi1, rcFG1, rcF, kG, cond_d, decide_eq_false h4, h4, frz_i3]
    rfl
  rw [h4] at kG
  rw [if_neg (fun hh => hh.elim (fun h => h h3) (fun h => h h4))]
  simp (disch := first | exact dD | fail) only [Wd, W2d, W3d, Nat.reduceAdd, Nat.reduceMul, Nat.reduceSub, wl0, wl1, wl2, wi0, wi1, rcFG1, rcF, kG, frz_i3]
  rw [well_given.l1_eq]
  simp (disch := first | exact dD | fail) only [Wd, W2d, W3d, Nat.reduceAdd, Nat.reduceMul, Nat.reduceSub, wl0, wl1, wl2, wi0, wi1, plc_1]
  refine (l2 _ (by omega) (by simp) rfl rfl).trans ?_
  cases scan (fun i => badS p.pts.length (sgAt p.segs i)) p.segs.length 0 <;> rfl)
end Go.Proofs.YtechbfodaallkaaGreat.Am
