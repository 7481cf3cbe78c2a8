import Derived.Test.YtechbfodaallkaaGreatAmWell6
/- Well, the document's answer: pairs of segments. -/
set_option linter.unusedVariables false
set_option maxRecDepth 10000
set_option linter.unusedSimpArgs false
namespace Go.Proofs.YtechbfodaallkaaGreat.Am
open Go

/-- What the document says two segments have in common. -/
def comB (a b c d : Int) (M : Bool) : Bool :=
  if a = d ∧ b = c then true else if a = c ∧ b = d then true else if a = c ∨ a = d ∨ b = c ∨ b = d then false else M
theorem com_cross (ps : List (Rat × Rat)) (s t : Sq) : comB s.1 s.2.1 t.1 t.2.1 (decide (¬ meetQ (px ps s.1) (py ps s.1) (px ps s.2.1) (py ps s.2.1) (px ps t.1) (py ps t.1) (px ps t.2.1) (py ps t.2.1) = 0)) = crossI ps s t := by
  obtain ⟨a, b, f⟩ := s
  obtain ⟨c, d, g⟩ := t
  unfold crossI comB sharedF sq_
  simp only
  generalize decide (¬ meetQ (px ps a) (py ps a) (px ps b) (py ps b) (px ps c) (py ps c) (px ps d) (py ps d) = 0) = M
  generalize (a : Int) = A
  generalize (b : Int) = B
  generalize (c : Int) = C
  generalize (d : Int) = D
  by_cases h1 : A = C
  · rw [if_pos (show (if A = C then (A, B, D, true) else if A = D then (A, B, C, true) else if B = C then (B, A, D, true) else if B = D then (B, A, C, true) else (0, 0, 0, false)).2.2.2 = true by rw [if_pos h1]), if_pos h1]
    by_cases h2 : A = D ∧ B = C
    · rw [if_pos h2]; exact (decide_eq_true (show B = D by omega)).symm
    · rw [if_neg h2]
      by_cases h3 : B = D
      · rw [if_pos ⟨h1, h3⟩]; exact (decide_eq_true h3).symm
      · rw [if_neg (fun h => h3 h.2), if_pos (.inl h1)]; exact (decide_eq_false h3).symm
  · by_cases h2 : A = D
    · rw [if_pos (show (if A = C then (A, B, D, true) else if A = D then (A, B, C, true) else if B = C then (B, A, D, true) else if B = D then (B, A, C, true) else (0, 0, 0, false)).2.2.2 = true by rw [if_neg h1, if_pos h2]), if_neg h1, if_pos h2]
      by_cases h3 : B = C
      · rw [if_pos ⟨h2, h3⟩]; exact (decide_eq_true h3).symm
      · rw [if_neg (fun h => h3 h.2), if_neg (fun h => h1 h.1), if_pos (.inr (.inl h2))]; exact (decide_eq_false h3).symm
    · by_cases h3 : B = C
      · rw [if_pos (show (if A = C then (A, B, D, true) else if A = D then (A, B, C, true) else if B = C then (B, A, D, true) else if B = D then (B, A, C, true) else (0, 0, 0, false)).2.2.2 = true by rw [if_neg h1, if_neg h2, if_pos h3]), if_neg h1, if_neg h2, if_pos h3]
        rw [if_neg (fun h => h2 h.1), if_neg (fun h => h1 h.1), if_pos (.inr (.inr (.inl h3)))]; exact (decide_eq_false h2).symm
      · by_cases h4 : B = D
        · rw [if_pos (show (if A = C then (A, B, D, true) else if A = D then (A, B, C, true) else if B = C then (B, A, D, true) else if B = D then (B, A, C, true) else (0, 0, 0, false)).2.2.2 = true by rw [if_neg h1, if_neg h2, if_neg h3, if_pos h4]), if_neg h1, if_neg h2, if_neg h3, if_pos h4]
          rw [if_neg (fun h => h2 h.1), if_neg (fun h => h1 h.1), if_pos (.inr (.inr (.inr h4)))]; exact (decide_eq_false h1).symm
        · rw [if_neg (show ¬ (if A = C then (A, B, D, true) else if A = D then (A, B, C, true) else if B = C then (B, A, D, true) else if B = D then (B, A, C, true) else (0, 0, 0, false)).2.2.2 = true by rw [if_neg h1, if_neg h2, if_neg h3, if_neg h4]; decide)]
          rw [if_neg (fun h => h2 h.1), if_neg (fun h => h1 h.1), if_neg (by simp [h1, h2, h3, h4])]
section
variable {h : Heap}
theorem k_share {s t : Sg} : byVal (callW gp) h fid.gussetref09_Share [.agg (sgc s), .agg (sgc t)] = some (.bool (decide (s.a = t.a ∨ s.a = t.b ∨ s.b = t.a ∨ s.b = t.b))) := byVal_imm (imm_L2 imm_sg imm_sg) (by
  obtain ⟨a, b, f⟩ := s
  obtain ⟨c, d, g⟩ := t
  rw [gussetref09_Share.eq]
  unfold gussetref09_Share.f sgc
  simp only
  by_cases h1 : a = c
  · rw [decide_eq_true (.inl h1)]
    simp (disch := first | exact dD | fail) only [Wd, W2d, W3d, Nat.reduceAdd, Nat.reduceMul, Nat.reduceSub, decide_eq_true h1]
  by_cases h2 : a = d
  · rw [decide_eq_true (.inr (.inl h2))]
    simp (disch := first | exact dD | fail) only [Wd, W2d, W3d, Nat.reduceAdd, Nat.reduceMul, Nat.reduceSub, decide_eq_false h1, decide_eq_true h2]
  by_cases h3 : b = c
  · rw [decide_eq_true (.inr (.inr (.inl h3)))]
    simp (disch := first | exact dD | fail) only [Wd, W2d, W3d, Nat.reduceAdd, Nat.reduceMul, Nat.reduceSub, decide_eq_false h1, decide_eq_false h2, decide_eq_true h3]
  by_cases h4 : b = d
  · rw [decide_eq_true (.inr (.inr (.inr h4)))]
    simp (disch := first | exact dD | fail) only [Wd, W2d, W3d, Nat.reduceAdd, Nat.reduceMul, Nat.reduceSub, decide_eq_false h1, decide_eq_false h2, decide_eq_false h3, decide_eq_true h4]
  · rw [decide_eq_false (by simp [h1, h2, h3, h4])]
    simp (disch := first | exact dD | fail) only [Wd, W2d, W3d, Nat.reduceAdd, Nat.reduceMul, Nat.reduceSub, decide_eq_false h1, decide_eq_false h2, decide_eq_false h3, decide_eq_false h4])
theorem k_common {ps : List (Rat × Rat)} {s t : Sq} (hn : ps.length ≤ 100000) (hz : PsZ ps 100) (hs : SqOk ps.length s) (ht : SqOk ps.length t) : byVal (callW gp) h fid.gussetref10_common [.is ps.length false (pcs ps), .agg (sgc (sq_ s)), .agg (sgc (sq_ t))] = some (.bool (crossI ps s t)) := byVal_imm (imm_L3 ((imm_is (imm_pcs ps)).mono (by omega)) imm_sg imm_sg) (by
  rw [← com_cross]
  have ks := fun h => k_share (h := h) (s := sq_ s) (t := sq_ t)
  rw [gussetref10_common.eq]
  unfold gussetref10_common.f comB
  obtain ⟨a, b, f⟩ := s
  obtain ⟨c, d, g⟩ := t
  obtain ⟨a1, b1, n1⟩ := hs
  obtain ⟨c1, d1, n2⟩ := ht
  simp only at a1 b1 c1 d1
  have ea := pcs_at a1
  have eb := pcs_at b1
  have ec := pcs_at c1
  have ed := pcs_at d1
  have u := fun i (hi : i < ps.length) => ((hz.x hi).1.mono (m := 2000) (by omega) : Rz (px ps i) 2000)
  have v := fun i (hi : i < ps.length) => ((hz.x hi).2.mono (m := 2000) (by omega) : Rz (py ps i) 2000)
  have km := fun h => k_5meet (h := h) (u a a1) (v a a1) (u b b1) (v b b1) (u c c1) (v c c1) (u d d1) (v d d1)
  have eq := @eqa_iib a b c d f g
  unfold sgc sq_ at *
  simp only at *
  generalize meetQ (px ps a) (py ps a) (px ps b) (py ps b) (px ps c) (py ps c) (px ps d) (py ps d) = M at *
  clear u v hz
  unfold gussetref10_common.j0
  by_cases h0 : (a : Int) = c ∧ (b : Int) = d ∧ f = g
  · rw [decide_eq_true h0] at eq
    obtain ⟨e1, e2, e3⟩ := h0
    have : (if (a : Int) = d ∧ (b : Int) = c then true else if (a : Int) = c ∧ (b : Int) = d then true else if (a : Int) = c ∨ (a : Int) = d ∨ (b : Int) = c ∨ (b : Int) = d then false else decide (¬M = 0)) = true := by simp [e1, e2]
    rw [this]
    simp (maxSteps := 1000000) (disch := first | exact dD | fail) only [Wd, W2d, W3d, Nat.reduceAdd, Nat.reduceMul, Nat.reduceSub, eq]
  rw [decide_eq_false h0] at eq
  by_cases h1 : (a : Int) = d
  · by_cases h2 : (b : Int) = c
    · rw [if_pos ⟨h1, h2⟩]
      simp (maxSteps := 1000000) (disch := first | exact dD | fail) only [Wd, W2d, W3d, Nat.reduceAdd, Nat.reduceMul, Nat.reduceSub, eq, decide_eq_true h1, decide_eq_true h2]
    · rw [if_neg (fun hh => h2 hh.2)]
      by_cases h3 : (a : Int) = c
      · have h4 : ¬ (b : Int) = d := by omega
        rw [if_neg (fun hh => h4 hh.2), if_pos (.inl h3)]
        rw [decide_eq_true (.inl h3)] at ks
        simp (maxSteps := 1000000) (disch := first | exact dD | fail) only [Wd, W2d, W3d, Nat.reduceAdd, Nat.reduceMul, Nat.reduceSub, eq, decide_eq_true h1, decide_eq_false h2, decide_eq_true h3, decide_eq_false h4, ks]
      · rw [if_neg (fun hh => h3 hh.1), if_pos (.inr (.inl h1))]
        rw [decide_eq_true (.inr (.inl h1))] at ks
        simp (maxSteps := 1000000) (disch := first | exact dD | fail) only [Wd, W2d, W3d, Nat.reduceAdd, Nat.reduceMul, Nat.reduceSub, eq, decide_eq_true h1, decide_eq_false h2, decide_eq_false h3, ks]
  rw [if_neg (fun hh => h1 hh.1)]
  by_cases h3 : (a : Int) = c
  · by_cases h4 : (b : Int) = d
    · rw [if_pos ⟨h3, h4⟩]
      simp (maxSteps := 1000000) (disch := first | exact dD | fail) only [Wd, W2d, W3d, Nat.reduceAdd, Nat.reduceMul, Nat.reduceSub, eq, decide_eq_false h1, decide_eq_true h3, decide_eq_true h4]
    · rw [if_neg (fun hh => h4 hh.2), if_pos (.inl h3)]
      rw [decide_eq_true (.inl h3)] at ks
      simp (maxSteps := 1000000) (disch := first | exact dD | fail) only [Wd, W2d, W3d, Nat.reduceAdd, Nat.reduceMul, Nat.reduceSub, eq, decide_eq_false h1, decide_eq_true h3, decide_eq_false h4, ks]
  rw [if_neg (fun hh => h3 hh.1)]
  by_cases h5 : (a : Int) = c ∨ (a : Int) = d ∨ (b : Int) = c ∨ (b : Int) = d
  · rw [if_pos h5]
    rw [decide_eq_true h5] at ks
    simp (maxSteps := 1000000) (disch := first | exact dD | fail) only [Wd, W2d, W3d, Nat.reduceAdd, Nat.reduceMul, Nat.reduceSub, eq, decide_eq_false h1, decide_eq_false h3, ks]
  · rw [if_neg h5]
    rw [decide_eq_false h5] at ks
    simp (maxSteps := 1000000) (disch := first | exact dD | fail) only [Wd, W2d, W3d, Nat.reduceAdd, Nat.reduceMul, Nat.reduceSub, eq, decide_eq_false h1, decide_eq_false h3, ks, ea, eb, ec, ed, km])
/-- A sharp angle, of three points. -/
def shP (ps : List (Rat × Rat)) (x c y : Nat) : Bool := sharpQ (px ps x) (py ps x) (px ps c) (py ps c) (px ps y) (py ps y)
def sharpR (ps : List (Rat × Rat)) (s t : Sq) : Bool :=
  (decide ((s.1 : Int) = t.1) && shP ps s.2.1 s.1 t.2.1) || ((decide ((s.1 : Int) = t.2.1) && shP ps s.2.1 s.1 t.1) || ((decide ((s.2.1 : Int) = t.1) && shP ps s.1 s.2.1 t.2.1) || (decide ((s.2.1 : Int) = t.2.1) && shP ps s.1 s.2.1 t.1)))
theorem ax7_0 {sz len id o : Nat} {k : IntKind} (h : 0 < len) : opAidx sz len (.rp id o) (.int k 0) = some (.rp id o) := (aidx_n (i := 0) h).trans (by simp)
theorem ax7_1 {sz len id o : Nat} {k : IntKind} (h : 1 < len) : opAidx sz len (.rp id o) (.int k 1) = some (.rp id (o + sz)) := (aidx_n (i := 1) h).trans (by simp)
theorem sharp_l1 {ps : List (Rat × Rat)} {a b c d u v : Nat} {H : Heap} (hn : ps.length ≤ 100000) (hz : PsZ ps 100) (a1 : a < ps.length) (b1 : b < ps.length) (c1 : c < ps.length) (d1 : d < ps.length) {y7 : AV} {i : Nat} {z1 z2 : Option (List AV)} {e : List AV}
    (hi : i < 2) (hu : e.drop (i * 2) = .int .i64 (a : Int) :: .int .i64 (b : Int) :: e.drop (i * 2 + 2)) :
    gussetref10_sharp.l1 (.is ps.length false (pcs ps)) (.rp 2 0) (.rp 3 0) (.int .i64 (i : Int)) (.int .i64 0) [z1, z2, some e, some [.int .i64 (c : Int), .int .i64 (d : Int), .int .i64 (d : Int), .int .i64 (c : Int)]] =
      if ((decide ((a : Int) = c) && shP ps b a d) || (decide ((a : Int) = d) && shP ps b a c)) = true then some (.bool true)
      else gussetref10_sharp.l0 (.is ps.length false (pcs ps)) (.rp 2 0) (.rp 3 0) (.int .i64 ((i + 1 : Nat) : Int)) [z1, z2, some e, some [.int .i64 (c : Int), .int .i64 (d : Int), .int .i64 (d : Int), .int .i64 (c : Int)]] := by
  have ea := pcs_at a1
  have eb := pcs_at b1
  have ec := pcs_at c1
  have ed := pcs_at d1
  have k1 := fun h => k_6sharp (h := h) (hz.x b1).1 (hz.x b1).2 (hz.x a1).1 (hz.x a1).2 (hz.x d1).1 (hz.x d1).2
  have k2 := fun h => k_6sharp (h := h) (hz.x b1).1 (hz.x b1).2 (hz.x a1).1 (hz.x a1).2 (hz.x c1).1 (hz.x c1).2
  have hu1 : List.drop (i * 2 + 1) e = .int .i64 (b : Int) :: e.drop (i * 2 + 2) := by
    rw [← List.drop_drop, hu]; rfl
  have w1 : sharpQ (px ps b) (py ps b) (px ps a) (py ps a) (px ps d) (py ps d) = shP ps b a d := rfl
  have w2 : sharpQ (px ps b) (py ps b) (px ps a) (py ps a) (px ps c) (py ps c) = shP ps b a c := rfl
  rw [w1] at k1
  rw [w2] at k2
  generalize shP ps b a d = s1 at *
  generalize shP ps b a c = s2 at *
  rw [gussetref10_sharp.l1_eq]
  by_cases h1 : (a : Int) = c
  · rw [decide_eq_true h1, Bool.true_and]
    cases s1
    · rw [Bool.false_or]
      simp (disch := first | exact dD | fail) only [Wd, W2d, W3d, Nat.reduceAdd, Nat.reduceMul, Nat.reduceSub, wl0, wl1, wi0, aidx_n, ax7_0, ax7_1, hu, hu1, decide_eq_true h1, ea, eb, ec, ed, k1]
      rw [gussetref10_sharp.l1_eq]
      by_cases h2 : (a : Int) = d
      · rw [decide_eq_true h2, Bool.true_and]
        cases s2
        · rw [if_neg (by decide)]
          simp (disch := first | exact dD | fail) only [Wd, W2d, W3d, Nat.reduceAdd, Nat.reduceMul, Nat.reduceSub, wl0, wl1, wl2, wi0, wi1, aidx_n, ax7_0, ax7_1, hu, hu1, decide_eq_true h2, ea, eb, ec, ed, k2]
          rw [gussetref10_sharp.l1_eq]
          simp (disch := first | exact dD | fail) only [Wd, W2d, W3d, Nat.reduceAdd, Nat.reduceMul, Nat.reduceSub, wl0, wl1, wl2, wi0, wi1]
        · rw [if_pos rfl]
          simp (disch := first | exact dD | fail) only [Wd, W2d, W3d, Nat.reduceAdd, Nat.reduceMul, Nat.reduceSub, wl0, wl1, wl2, wi0, wi1, aidx_n, ax7_0, ax7_1, hu, hu1, decide_eq_true h2, ea, eb, ec, ed, k2]
      · rw [decide_eq_false h2, Bool.false_and, if_neg (by decide)]
        simp (disch := first | exact dD | fail) only [Wd, W2d, W3d, Nat.reduceAdd, Nat.reduceMul, Nat.reduceSub, wl0, wl1, wl2, wi0, wi1, aidx_n, ax7_0, ax7_1, hu, hu1, decide_eq_false h2]
        rw [gussetref10_sharp.l1_eq]
        simp (disch := first | exact dD | fail) only [Wd, W2d, W3d, Nat.reduceAdd, Nat.reduceMul, Nat.reduceSub, wl0, wl1, wl2, wi0, wi1]
    · rw [Bool.true_or, if_pos rfl]
      simp (disch := first | exact dD | fail) only [Wd, W2d, W3d, Nat.reduceAdd, Nat.reduceMul, Nat.reduceSub, wl0, wl1, wi0, aidx_n, ax7_0, ax7_1, hu, hu1, decide_eq_true h1, ea, eb, ec, ed, k1]
  · rw [decide_eq_false h1, Bool.false_and, Bool.false_or]
    simp (disch := first | exact dD | fail) only [Wd, W2d, W3d, Nat.reduceAdd, Nat.reduceMul, Nat.reduceSub, wl0, wl1, wi0, aidx_n, ax7_0, ax7_1, hu, hu1, decide_eq_false h1]
    rw [gussetref10_sharp.l1_eq]
    by_cases h2 : (a : Int) = d
    · rw [decide_eq_true h2, Bool.true_and]
      cases s2
      · rw [if_neg (by decide)]
        simp (disch := first | exact dD | fail) only [Wd, W2d, W3d, Nat.reduceAdd, Nat.reduceMul, Nat.reduceSub, wl0, wl1, wl2, wi0, wi1, aidx_n, ax7_0, ax7_1, hu, hu1, decide_eq_true h2, ea, eb, ec, ed, k2]
        rw [gussetref10_sharp.l1_eq]
        simp (disch := first | exact dD | fail) only [Wd, W2d, W3d, Nat.reduceAdd, Nat.reduceMul, Nat.reduceSub, wl0, wl1, wl2, wi0, wi1]
      · rw [if_pos rfl]
        simp (disch := first | exact dD | fail) only [Wd, W2d, W3d, Nat.reduceAdd, Nat.reduceMul, Nat.reduceSub, wl0, wl1, wl2, wi0, wi1, aidx_n, ax7_0, ax7_1, hu, hu1, decide_eq_true h2, ea, eb, ec, ed, k2]
    · rw [decide_eq_false h2, Bool.false_and, if_neg (by decide)]
      simp (disch := first | exact dD | fail) only [Wd, W2d, W3d, Nat.reduceAdd, Nat.reduceMul, Nat.reduceSub, wl0, wl1, wl2, wi0, wi1, aidx_n, ax7_0, ax7_1, hu, hu1, decide_eq_false h2]
      rw [gussetref10_sharp.l1_eq]
      simp (disch := first | exact dD | fail) only [Wd, W2d, W3d, Nat.reduceAdd, Nat.reduceMul, Nat.reduceSub, wl0, wl1, wl2, wi0, wi1]
theorem k_rsharp {ps : List (Rat × Rat)} {s t : Sq} (hn : ps.length ≤ 100000) (hz : PsZ ps 100) (hs : SqOk ps.length s) (ht : SqOk ps.length t) : byVal (callW gp) h fid.gussetref10_sharp [.is ps.length false (pcs ps), .agg (sgc (sq_ s)), .agg (sgc (sq_ t))] = some (.bool (sharpR ps s t)) := byVal_imm (imm_L3 ((imm_is (imm_pcs ps)).mono (by omega)) imm_sg imm_sg) (by
  rw [gussetref10_sharp.eq]
  unfold gussetref10_sharp.f sharpR
  obtain ⟨a, b, f⟩ := s
  obtain ⟨c, d, g⟩ := t
  obtain ⟨a1, b1, n1⟩ := hs
  obtain ⟨c1, d1, n2⟩ := ht
  simp only at a1 b1 c1 d1
  unfold sgc sq_
  simp only
  have g0 := sharp_l1 (H := []) (y7 := .nilp) (u := 0) (v := 0) (z1 := some [.int .i64 (a : Int), .int .i64 (b : Int), .bool f]) (z2 := some [.int .i64 (c : Int), .int .i64 (d : Int), .bool g]) (e := [.int .i64 (a : Int), .int .i64 (b : Int), .int .i64 (b : Int), .int .i64 (a : Int)]) hn hz a1 b1 c1 d1 (i := 0) (by omega) rfl
  have g1 := sharp_l1 (H := []) (y7 := .nilp) (u := 0) (v := 0) (z1 := some [.int .i64 (a : Int), .int .i64 (b : Int), .bool f]) (z2 := some [.int .i64 (c : Int), .int .i64 (d : Int), .bool g]) (e := [.int .i64 (a : Int), .int .i64 (b : Int), .int .i64 (b : Int), .int .i64 (a : Int)]) hn hz b1 a1 c1 d1 (i := 1) (by omega) rfl
  simp (disch := first | exact dD | fail) only [Wd, W2d, W3d, Nat.reduceAdd, Nat.reduceMul, Nat.reduceSub, fill_agg]
  rw [gussetref10_sharp.l0_eq]
  simp (disch := first | exact dD | fail) only [Wd, W2d, W3d, Nat.reduceAdd, Nat.reduceMul, Nat.reduceSub]
  refine g0.trans ?_
  generalize shP ps b a d = s1 at *
  generalize shP ps b a c = s2 at *
  generalize shP ps a b d = s3 at *
  generalize shP ps a b c = s4 at *
  generalize decide ((a : Int) = c) = d1 at *
  generalize decide ((a : Int) = d) = d2 at *
  generalize decide ((b : Int) = c) = d3 at *
  generalize decide ((b : Int) = d) = d4 at *
  by_cases q1 : (d1 && s1 || d2 && s2) = true
  · rw [if_pos q1]
    congr 2
    rw [← Bool.or_assoc, q1, Bool.true_or]
  rw [if_neg q1]
  have q1' : (d1 && s1 || d2 && s2) = false := by cases h : (d1 && s1 || d2 && s2) <;> simp_all
  rw [← Bool.or_assoc, q1', Bool.false_or]
  rw [gussetref10_sharp.l0_eq]
  simp (disch := first | exact dD | fail) only [Wd, W2d, W3d, Nat.reduceAdd, Nat.reduceMul, Nat.reduceSub, wl0, wl1]
  refine g1.trans ?_
  by_cases q2 : (d3 && s3 || d4 && s4) = true
  · rw [if_pos q2, q2]
  rw [if_neg q2]
  have q2' : (d3 && s3 || d4 && s4) = false := by cases h : (d3 && s3 || d4 && s4) <;> simp_all
  rw [q2']
  rw [gussetref10_sharp.l0_eq]
  simp (disch := first | exact dD | fail) only [Wd, W2d, W3d, Nat.reduceAdd, Nat.reduceMul, Nat.reduceSub, wl0, wl1, wl2])
end
end Go.Proofs.YtechbfodaallkaaGreat.Am
