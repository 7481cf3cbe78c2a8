import Derived.Test.YtojfiboeghonoaaGreatAmMesh2
/- Meshes, the document's answer: whether one may be. -/
set_option linter.unusedVariables false
set_option maxRecDepth 10000
set_option linter.unusedSimpArgs false
namespace Go.Proofs.YtojfiboeghonoaaGreat.Am
open Go

theorem fA_some {r : Nat × Nat} : fA (some r) = (r.1 : Int) := rfl
theorem fA_none : fA none = -1 := rfl
theorem fB_some {r : Nat × Nat} : fB (some r) = (r.2 : Int) := rfl
theorem segN_some {r : Nat} : segN (some r) = (r : Int) := rfl
theorem segN_none : segN none = -1 := rfl
theorem nd_self {a : Int} : decide (¬ a = a) = false := decide_eq_false (fun h => h rfl)
theorem neqT {a b : Int} (h : a ≠ b) : opBin .neq (.int .i64 a) (.int .i64 b) = some (.bool true) := by rw [bin_neq, decide_eq_true h]
theorem neqF {a : Int} : opBin .neq (.int .i64 a) (.int .i64 a) = some (.bool false) := by rw [bin_neq, decide_eq_false (fun h => h rfl)]
def SegF (ts : List Tr) (ss : List Sg) (i : Nat) : Prop := (findI ts (gat ss i).a (gat ss i).b ts.length 0 ≠ none ∨ findI ts (gat ss i).b (gat ss i).a ts.length 0 ≠ none) ∧ segI ss (gat ss i).a (gat ss i).b ss.length 0 = some i
def EdF (ts : List Tr) (i k : Nat) : Prop := findI ts (edI ts i k).1 (edI ts i k).2 ts.length 0 = some (i, k)
section
variable {m : Ms} {i : Nat}
set_option maxHeartbeats 8000000 in
theorem chk_l3 (n2 : m.tris.length ≤ 1000) (n3 : m.segs.length ≤ 2000) : ∀ (k i : Nat) (H : Heap), i + k = m.segs.length → live H 0 = some (msc m) → ∃ r, zf0w.l3 (.rp 0 0) (.int .i64 (i : Int)) H = some (.int .i64 r) ∧ (r = 0 → ∀ j, i ≤ j → j < m.segs.length → SegF m.tris m.segs j) := by
  have fa : ∀ k id off, opFaddr k (.rp id off) = some (.rp id (off + k)) := fun _ _ _ => rfl
  intro k
  induction k with
  | zero =>
    intro i H hik h0
    obtain rfl : i = m.segs.length := by omega
    refine ⟨0, ?_, fun _ j h1 h2 => by omega⟩
    rw [zf0w.l3_eq]
    simp (disch := first | exact dD | fail) only [Wd, W2d, W3d, Nat.reduceAdd, Nat.reduceMul, Nat.reduceSub, fa, h0, ms_2]
  | succ k ih =>
    intro i H hik h0
    have hi : i < m.segs.length := by omega
    have e := sg_at hi
    have s := fun f cs => sidxN (sz := 3) (f := f) (cs := cs) hi
    have a0 := fun x => live_app_old (x := x) h0
    have kf := fun h a b => k_find (h := h) (m := m) (a := a) (b := b) (by omega)
    have ks := fun h a b => k_segof (h := h) (ss := m.segs) (a := a) (b := b) (by omega)
    obtain ⟨r, g, gr⟩ := ih (i + 1) (H ++ [some (sgc (gat m.segs i))]) (by omega) (a0 _)
    have st := st_app3 (h := H) (z := [.int .i64 0, .int .i64 0, .bool false]) (v := sgc (gat m.segs i)) (n := 3) rfl ⟨rfl, rfl⟩
    have lss : opBin .lss (.int .i64 (i : Int)) (.int .i64 (m.segs.length : Int)) = some (.bool true) := lssT (by omega)
    have nx : ∀ F : SegF m.tris m.segs i, (r = 0 → ∀ j, i ≤ j → j < m.segs.length → SegF m.tris m.segs j) := fun F hr j h1 h2 => by
      by_cases hj : j = i
      · subst hj; exact F
      · exact gr hr j (by omega) h2
    unfold SegF at nx
    rw [zf0w.l3_eq]
    unfold fnd2 at kf
    unfold segV at ks
    unfold sgc at st g
    generalize gat m.segs i = w at *
    obtain ⟨x, y, f⟩ := w
    simp only at e st g nx
    have kf1 := fun h => kf h x y
    have kf2 := fun h => kf h y x
    have ks := fun h => ks h x y
    have tl : ∀ {q : Option Nat}, q ≠ some i → segN q ≠ (i : Int) := fun {q} hq => by
      cases q with
      | none => rw [segN_none]; omega
      | some r => rw [segN_some]; intro h; exact hq (by congr 1; omega)
    generalize segI m.segs x y m.segs.length 0 = sv at *
    cases h1 : findI m.tris x y m.tris.length 0 with
    | none =>
      rw [h1] at kf1 nx
      cases h2 : findI m.tris y x m.tris.length 0 with
      | none =>
        rw [h2] at kf2
        exact ⟨7, by simp (disch := first | exact dD | fail) only [Wd, W2d, W3d, Nat.reduceAdd, Nat.reduceMul, Nat.reduceSub, fa, h0, a0, ms_2, ms_rc, lss, s, e, st, kf1, kf2, fA_none, live_app_self], fun h => absurd h (by decide)⟩
      | some r2 =>
        rw [h2] at kf2 nx
        have q2 : opBin .lss (.int .i64 (r2.1 : Int)) (.int .i64 0) = some (.bool false) := lssF (by omega)
        by_cases hs : sv = some i
        · subst hs
          exact ⟨r, by simp (disch := first | exact dD | fail) only [Wd, W2d, W3d, Nat.reduceAdd, Nat.reduceMul, Nat.reduceSub, fa, h0, a0, ms_2, ms_rc, lss, s, e, st, kf1, kf2, q2, ks, fA_none, fA_some, segN_some, nd_self, neqF, live_app_self]; exact g, nx ⟨.inr (by simp), rfl⟩⟩
        · have nq := neqT (tl hs)
          have nd : decide (¬ segN sv = (i : Int)) = true := decide_eq_true (tl hs)
          exact ⟨7, by simp (disch := first | exact dD | fail) only [Wd, W2d, W3d, Nat.reduceAdd, Nat.reduceMul, Nat.reduceSub, fa, h0, a0, ms_2, ms_rc, lss, s, e, st, kf1, kf2, q2, ks, fA_none, fA_some, nq, nd, live_app_self], fun h => absurd h (by decide)⟩
    | some r1 =>
      rw [h1] at kf1 nx
      have q1 : opBin .lss (.int .i64 (r1.1 : Int)) (.int .i64 0) = some (.bool false) := lssF (by omega)
      by_cases hs : sv = some i
      · subst hs
        exact ⟨r, by simp (disch := first | exact dD | fail) only [Wd, W2d, W3d, Nat.reduceAdd, Nat.reduceMul, Nat.reduceSub, fa, h0, a0, ms_2, ms_rc, lss, s, e, st, kf1, kf2, q1, ks, fA_some, segN_some, nd_self, neqF, live_app_self]; exact g, nx ⟨.inl (by simp), rfl⟩⟩
      · have nq := neqT (tl hs)
        have nd : decide (¬ segN sv = (i : Int)) = true := decide_eq_true (tl hs)
        exact ⟨7, by simp (disch := first | exact dD | fail) only [Wd, W2d, W3d, Nat.reduceAdd, Nat.reduceMul, Nat.reduceSub, fa, h0, a0, ms_2, ms_rc, lss, s, e, st, kf1, kf2, q1, ks, fA_some, nq, nd, live_app_self], fun h => absurd h (by decide)⟩
theorem chk_l2 (n2 : m.tris.length ≤ 1000) (hi : i < m.tris.length) {Q : Prop} (hR : ∃ r, zf0w.l1 (.rp 0 0) (.int .i64 ((i + 1 : Nat) : Int)) [some (msc m)] = some (.int .i64 r) ∧ (r = 0 → Q)) : ∀ (k j : Nat), j + k = 3 → ∃ r, zf0w.l2 (.rp 0 0) (.int .i64 (i : Int)) (.int .i64 (j : Int)) [some (msc m)] = some (.int .i64 r) ∧ (r = 0 → (∀ l, j ≤ l → l < 3 → EdF m.tris i l) ∧ Q) := by
  intro k
  induction k with
  | zero =>
    intro j hjk
    obtain rfl : j = 3 := by omega
    obtain ⟨r, g, gr⟩ := hR
    refine ⟨r, ?_, fun hr => ⟨fun l h1 h2 => by omega, gr hr⟩⟩
    have lk : opBin .lss (.int .i64 ((3 : Nat) : Int)) (.int .i64 3) = some (.bool false) := rfl
    rw [zf0w.l2_eq]
    simp (disch := first | exact dD | fail) only [Wd, W2d, W3d, Nat.reduceAdd, Nat.reduceMul, Nat.reduceSub, lk]
    exact g
  | succ k ih =>
    intro j hjk
    have hj : j < 3 := by omega
    obtain ⟨r, g, gr⟩ := ih (j + 1) (by omega)
    have lk : opBin .lss (.int .i64 (j : Int)) (.int .i64 3) = some (.bool true) := lssT (by omega)
    have ke := fun h => k_ends (h := h) hi hj
    have kf := fun h => k_find (h := h) (m := m) (a := (edI m.tris i j).1) (b := (edI m.tris i j).2) (by omega)
    have nx : EdF m.tris i j → (r = 0 → (∀ l, j ≤ l → l < 3 → EdF m.tris i l) ∧ Q) := fun F hr => ⟨fun l h1 h2 => by
      by_cases hl : l = j
      · subst hl; exact F
      · exact (gr hr).1 l (by omega) h2, (gr hr).2⟩
    rw [zf0w.l2_eq]
    unfold fnd2 at kf
    unfold EdF at nx
    have out : ∀ {q : Option (Nat × Nat)}, q ≠ some (i, j) → fA q ≠ (i : Int) ∨ (fA q = (i : Int) ∧ fB q ≠ (j : Int)) := fun {q} hq => by
      cases q with
      | none => left; rw [fA_none]; omega
      | some r =>
        obtain ⟨r1, r2⟩ := r
        rw [fA_some, fB_some]
        simp only
        by_cases h : (r1 : Int) = i
        · right
          refine ⟨h, fun h2 => hq ?_⟩
          have : r1 = i := by omega
          have : r2 = j := by omega
          subst r1 r2; rfl
        · left; exact h
    generalize findI m.tris (edI m.tris i j).1 (edI m.tris i j).2 m.tris.length 0 = q at *
    by_cases hq : q = some (i, j)
    · subst hq
      refine ⟨r, ?_, nx rfl⟩
      simp (disch := first | exact dD | fail) only [Wd, W2d, W3d, Nat.reduceAdd, Nat.reduceMul, Nat.reduceSub, lk, ms_rc, ke, kf, fA_some, fB_some, nd_self, neqF]
      exact g
    · refine ⟨7, ?_, fun h => absurd h (by decide)⟩
      have o := out hq
      generalize fA q = u at *
      generalize fB q = v at *
      rcases o with o | ⟨rfl, o⟩
      · have nd : decide (¬ u = (i : Int)) = true := decide_eq_true o
        simp (disch := first | exact dD | fail) only [Wd, W2d, W3d, Nat.reduceAdd, Nat.reduceMul, Nat.reduceSub, lk, ms_rc, ke, kf, neqT o, nd]
      · have nd : decide (¬ v = (j : Int)) = true := decide_eq_true o
        simp (disch := first | exact dD | fail) only [Wd, W2d, W3d, Nat.reduceAdd, Nat.reduceMul, Nat.reduceSub, lk, ms_rc, ke, kf, neqF, neqT o, nd]
theorem chk_l1 (n2 : m.tris.length ≤ 1000) (n3 : m.segs.length ≤ 2000) : ∀ (k i : Nat), i + k = m.tris.length → ∃ r, zf0w.l1 (.rp 0 0) (.int .i64 (i : Int)) [some (msc m)] = some (.int .i64 r) ∧ (r = 0 → (∀ j l, i ≤ j → j < m.tris.length → l < 3 → EdF m.tris j l) ∧ ∀ j, j < m.segs.length → SegF m.tris m.segs j) := by
  have fa : ∀ k id off, opFaddr k (.rp id off) = some (.rp id (off + k)) := fun _ _ _ => rfl
  intro k
  induction k with
  | zero =>
    intro i hik
    obtain rfl : i = m.tris.length := by omega
    obtain ⟨r, g, gr⟩ := chk_l3 n2 n3 m.segs.length 0 [some (msc m)] (by omega) rfl
    refine ⟨r, ?_, fun hr => ⟨fun j l h1 h2 _ => by omega, fun j hj => gr hr j (Nat.zero_le _) hj⟩⟩
    rw [zf0w.l1_eq]
    simp (disch := first | exact dD | fail) only [Wd, W2d, W3d, Nat.reduceAdd, Nat.reduceMul, Nat.reduceSub, fa, ms_1]
    exact g
  | succ k ih =>
    intro i hik
    have hi : i < m.tris.length := by omega
    obtain ⟨r, g, gr⟩ := chk_l2 n2 hi (ih (i + 1) (by omega)) 3 0 (by omega)
    refine ⟨r, ?_, fun hr => ⟨fun j l h1 h2 h3 => ?_, (gr hr).2.2⟩⟩
    · rw [zf0w.l1_eq]
      simp (disch := first | exact dD | fail) only [Wd, W2d, W3d, Nat.reduceAdd, Nat.reduceMul, Nat.reduceSub, fa, ms_1]
      exact g
    · by_cases hj : j = i
      · subst hj; exact (gr hr).1 l (Nat.zero_le _) h3
      · exact (gr hr).2.1 j l (by omega) h2 h3
end
section
variable {ps : List (Rat × Rat)} {ts : List Tr} {ss : List Sg}
theorem chk_l0 (hz : PsZ ps 100) (n2 : ts.length ≤ 1000) (n3 : ss.length ≤ 2000) : ∀ (k i : Nat), i + k = ts.length → ∃ r, zf0w.l0 (.rp 0 0) (.int .i64 (i : Int)) [some (msc ⟨ps.map pc, ts, ss⟩)] = some (.int .i64 r) ∧ (r = 0 → (∀ j, i ≤ j → j < ts.length → TrOk ps (tat ts j)) ∧ (∀ j l, j < ts.length → l < 3 → EdF ts j l) ∧ ∀ j, j < ss.length → SegF ts ss j) := by
  have fa : ∀ k id off, opFaddr k (.rp id off) = some (.rp id (off + k)) := fun _ _ _ => rfl
  have m1 := @ms_1 ⟨ps.map pc, ts, ss⟩
  have mr := @ms_rc ⟨ps.map pc, ts, ss⟩
  simp only at m1
  intro k
  induction k with
  | zero =>
    intro i hik
    obtain rfl : i = ts.length := by omega
    obtain ⟨r, g, gr⟩ := chk_l1 (m := ⟨ps.map pc, ts, ss⟩) n2 n3 ts.length 0 (by simp)
    refine ⟨r, ?_, fun hr => ⟨fun j h1 h2 => by omega, fun j l h1 h2 => (gr hr).1 j l (Nat.zero_le _) h1 h2, (gr hr).2⟩⟩
    rw [zf0w.l0_eq]
    simp (disch := first | exact dD | fail) only [Wd, W2d, W3d, Nat.reduceAdd, Nat.reduceMul, Nat.reduceSub, fa, m1]
    exact g
  | succ k ih =>
    intro i hik
    have hi : i < ts.length := by omega
    obtain ⟨r, g, gr⟩ := ih (i + 1) (by omega)
    have kc := fun h => k_corners (h := h) (ss := ss) hz hi
    rw [zf0w.l0_eq]
    by_cases ht : TrOk ps (tat ts i)
    · refine ⟨r, ?_, fun hr => ⟨fun j h1 h2 => ?_, (gr hr).2⟩⟩
      · simp (disch := first | exact dD | fail) only [Wd, W2d, W3d, Nat.reduceAdd, Nat.reduceMul, Nat.reduceSub, fa, m1, mr, kc, decide_eq_true ht]
        exact g
      · by_cases hj : j = i
        · subst hj; exact ht
        · exact (gr hr).1 j (by omega) h2
    · refine ⟨7, ?_, fun h => absurd h (by decide)⟩
      simp (disch := first | exact dD | fail) only [Wd, W2d, W3d, Nat.reduceAdd, Nat.reduceMul, Nat.reduceSub, fa, m1, mr, kc, decide_eq_false ht]
end
end Go.Proofs.YtojfiboeghonoaaGreat.Am
