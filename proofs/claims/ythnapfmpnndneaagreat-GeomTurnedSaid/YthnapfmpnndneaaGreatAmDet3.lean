import Derived.Test.YthnapfmpnndneaaGreatAmDet2
/- The determinant, asked from outside; the other text's. -/
set_option linter.unusedVariables false
set_option maxRecDepth 10000
set_option linter.unusedSimpArgs false
namespace Go.Proofs.YthnapfmpnndneaaGreat.Am
open Go

/-- A square of 1 to 4 rows. -/
def sqT (m : List (List RT)) : Prop := (1 ≤ m.length ∧ m.length ≤ 4) ∧ ∀ r ∈ m, r.length = m.length
instance (m : List (List RT)) : Decidable (sqT m) := by unfold sqT; infer_instance
theorem flat_len {m : List (List RT)} {n : Nat} (h : ∀ r ∈ m, r.length = n) : m.flatten.length = m.length * n := by
  induction m with
  | nil => simp
  | cons r m ih =>
    rw [List.flatten_cons, List.length_append, ih fun r hr => h r (by simp [hr]), h r (by simp), List.length_cons, Nat.add_mul]; omega
theorem firstE_append : ∀ (a b : List Int), firstE (a ++ b) = if firstE a = 0 then firstE b else firstE a
  | [], b => by simp [firstE]
  | x :: a, b => by
    have e : ∀ l, firstE (x :: l) = if x = 0 then firstE l else x := fun l => rfl
    rw [List.cons_append, e, e]
    by_cases hx : x = 0
    · rw [if_pos hx, if_pos hx]; exact firstE_append a b
    · rw [if_neg hx, if_neg hx, if_neg hx]
theorem firstE_zero : ∀ (a : List Int), firstE a = 0 ↔ ∀ x ∈ a, x = 0
  | [] => by simp [firstE]
  | x :: a => by
    unfold firstE
    by_cases hx : x = 0
    · simp [hx, firstE_zero a]
    · simp [hx]
theorem rats_of {n : Nat} : ∀ (l : List RT), (∀ t ∈ l, t.ok ∧ t.chk = 0 ∧ (t.m.length ≤ n ∧ t.d.length ≤ n)) → ∃ qs : List Rat, l = qs.map rt ∧ ∀ q ∈ qs, Rz q n
  | [], _ => ⟨[], rfl, fun q hq => by simp at hq⟩
  | t :: l, h => by
    obtain ⟨h1, h2, h3⟩ := h t (by simp)
    obtain ⟨q, e, hq⟩ := RT.ratz h1 h2 h3
    obtain ⟨qs, e2, hqs⟩ := rats_of l fun t ht => h t (by simp [ht])
    exact ⟨q :: qs, by rw [e, e2]; rfl, fun x hx => by
      rcases List.mem_cons.1 hx with rfl | hx
      · exact hq
      · exact hqs x hx⟩
theorem mats_of {n : Nat} : ∀ (m : List (List RT)), (∀ r ∈ m, ∀ t ∈ r, t.ok ∧ t.chk = 0 ∧ (t.m.length ≤ n ∧ t.d.length ≤ n)) → ∃ mq : List (List Rat), m = mq.map (fun r => r.map rt) ∧ ∀ r ∈ mq, ∀ q ∈ r, Rz q n
  | [], _ => ⟨[], rfl, fun q hq => by simp at hq⟩
  | r :: m, h => by
    obtain ⟨qs, e, hq⟩ := rats_of r (h r (by simp))
    obtain ⟨mq, e2, hm⟩ := mats_of m fun r hr => h r (by simp [hr])
    exact ⟨qs :: mq, by rw [e, e2]; rfl, fun x hx => by
      rcases List.mem_cons.1 hx with rfl | hx
      · exact hq
      · exact hm x hx⟩
theorem sq_q {mq : List (List Rat)} (h : sqT (mq.map fun r => r.map rt)) : (1 ≤ mq.length ∧ mq.length ≤ 4) ∧ ∀ r ∈ mq, r.length = mq.length := by
  obtain ⟨⟨h1, h2⟩, h3⟩ := h
  rw [List.length_map] at h1 h2 h3
  exact ⟨⟨h1, h2⟩, fun r hr => by have := h3 _ (List.mem_map_of_mem hr); rwa [List.length_map] at this⟩

section
variable {h : Heap}
theorem box_is {h : Heap} {n : Nat} {f : Bool} {cs : List AV} : opBox h (.is n f cs) = some (.rp h.length 0, h ++ [some [.is n f cs]]) := Eq.trans rfl rfl
abbrev z3e (e : Int) : AV := .tup [.agg [.bool false, str [], str []], .int .i64 e]

/-- Not a square. -/
theorem Det0_cv {m : List (List RT)} (hm : m.length ≤ 1000) (hs : ¬ sqT m) : cv gp fid.vec_Det [matV m] = some (z3e 1) := by
  rw [vec_Det.eq]
  unfold vec_Det.f
  by_cases h1 : m.length < 1
  · simp (disch := first | exact dD | fail) only [Wd, W2d, W3d, Nat.reduceAdd, Nat.reduceMul, Nat.reduceSub, box_is]
    rfl
  · by_cases h2 : m.length > 4
    · simp (disch := first | exact dD | fail) only [Wd, W2d, W3d, Nat.reduceAdd, Nat.reduceMul, Nat.reduceSub, box_is]
      rfl
    · have h3 : ∃ r ∈ m, r.length ≠ m.length := by
        apply Classical.byContradiction
        intro hn
        exact hs ⟨by omega, fun r hr => Classical.byContradiction fun hne => hn ⟨r, hr, hne⟩⟩
      have e := fun l => k_contains (m := m) (l := l) (by omega)
      rw [decide_eq_true h3] at e
      simp (disch := first | exact dD | fail) only [Wd, W2d, W3d, Nat.reduceAdd, Nat.reduceMul, Nat.reduceSub, box_is, e]
      rfl
theorem k_Det0 {m : List (List RT)} (hm : m.length ≤ 1000) (hs : ¬ sqT m) : byVal (callW gp) h fid.vec_Det [matV m] = some (z3e 1) := byVal_imm (imm_L1 (imm_mat.mono (by omega))) (Det0_cv hm hs)
/-- Numbers that may not be. -/
theorem k_DetE {m : List (List RT)} {e : Int} (hs : sqT m) (hb : ∀ r ∈ m, ∀ t ∈ r, t.ok) (he : firstE (m.flatten.map RT.chk) = e) (h0 : e ≠ 0) : byVal (callW gp) h fid.vec_Det [matV m] = some (z3e e) := byVal_imm (imm_L1 (imm_mat.mono (by omega))) (by
  have hl := flat_len hs.2
  have hsq : m.length * m.length ≤ 16 := Nat.le_trans (Nat.mul_le_mul hs.1.2 hs.1.2) (by omega)
  have hpos : 1 * 1 ≤ m.length * m.length := Nat.mul_le_mul hs.1.1 hs.1.1
  have h3 : ¬ ∃ r ∈ m, r.length ≠ m.length := fun ⟨r, hr, hne⟩ => hne (hs.2 r hr)
  have e1 := fun l => k_contains (m := m) (l := l) (by have := hs.1.2; omega)
  rw [decide_eq_false h3] at e1
  have e2 := fun h => k_concat (h := h) (m := m) (by have := hs.1.2; omega) (by omega) (by omega)
  have e3 := fun h => k_numbers (h := h) (xs := m.flatten) (f := false) (fun t ht => by
    obtain ⟨r, hr, ht⟩ := List.mem_flatten.1 ht
    exact hb r hr t ht) (by omega)
  rw [he] at e3
  have hs1 := hs.1.1
  have hs2 := hs.1.2
  rw [vec_Det.eq]
  unfold vec_Det.f
  simp (disch := first | exact dD | fail) only [Wd, W2d, W3d, Nat.reduceAdd, Nat.reduceMul, Nat.reduceSub, box_is, e1, e2, e3]
  rfl)
theorem chk_map {l : List Rat} {b : Nat} (hb : b ≤ 8000) (h : ∀ q ∈ l, Rz q b) : firstE ((l.map rt).map RT.chk) = 0 := by
  rw [firstE_zero]
  intro x hx
  obtain ⟨t, ht, rfl⟩ := List.mem_map.1 hx
  obtain ⟨q, hq, rfl⟩ := List.mem_map.1 ht
  exact rt_chk ((h q hq).mono hb)
theorem flat_map {mq : List (List Rat)} : (mq.map fun r => r.map rt).flatten = mq.flatten.map rt := by
  induction mq with
  | nil => rfl
  | cons r m ih => rw [List.map_cons, List.flatten_cons, ih, List.flatten_cons, List.map_append]
theorem flat_Rz {mq : List (List Rat)} {b : Nat} (hz : ∀ r ∈ mq, ∀ q ∈ r, Rz q b) : ∀ q ∈ mq.flatten, Rz q b := fun q hq => by
  obtain ⟨r, hr, h⟩ := List.mem_flatten.1 hq
  exact hz r hr q h
theorem bd_mono {b n k : Nat} (h : n ≤ k) : bd b n ≤ bd b k := by
  induction k with
  | zero => have : n = 0 := by omega
            subst this; exact Nat.le_refl _
  | succ k ih =>
    by_cases hn : n = k + 1
    · subst hn; exact Nat.le_refl _
    · have h1 := ih (by omega)
      have h2 : 1 * (b + bd b k + 1) ≤ (k + 2) * (b + bd b k + 1) := Nat.mul_le_mul_right _ (by omega)
      have h3 : bd b (k + 1) = 1 + (k + 2) * (b + bd b k + 1) := rfl
      omega
theorem Det_cv {mq : List (List Rat)} {b : Nat} (hb : 1 ≤ b) (hs : (1 ≤ mq.length ∧ mq.length ≤ 4) ∧ ∀ r ∈ mq, r.length = mq.length) (hz : ∀ r ∈ mq, ∀ q ∈ r, Rz q b) (hbd : bd b (mq.length - 1) ≤ 8000) : cv gp fid.vec_Det [matQ mq] = some (.tup [ra (detR mq.length mq), .int .i64 0]) := by
  obtain ⟨n, hn⟩ : ∃ n, mq.length = n + 1 := ⟨mq.length - 1, by omega⟩
  have hs2 : sqT (mq.map fun r => r.map rt) := by
    refine ⟨by rw [List.length_map]; exact hs.1, fun r hr => ?_⟩
    obtain ⟨r', hr', rfl⟩ := List.mem_map.1 hr
    rw [List.length_map, List.length_map]; exact hs.2 r' hr'
  have hl := flat_len hs2.2
  rw [List.length_map] at hl
  have hsq : mq.length * mq.length ≤ 16 := Nat.le_trans (Nat.mul_le_mul hs.1.2 hs.1.2) (by omega)
  have hpos : 1 * 1 ≤ mq.length * mq.length := Nat.mul_le_mul hs.1.1 hs.1.1
  have h3 : ¬ ∃ r ∈ (mq.map fun r => r.map rt), r.length ≠ (mq.map fun r => r.map rt).length := fun ⟨r, hr, hne⟩ => hne (hs2.2 r hr)
  have h4 : (mq.map fun r => r.map rt).length ≤ 4 := hs2.1.2
  have h5 : 1 ≤ (mq.map fun r => r.map rt).length := hs2.1.1
  have hbb : b ≤ 8000 := by
    have := bd_mono (b := b) (Nat.zero_le (mq.length - 1))
    have e : bd b 0 = b := rfl
    omega
  have e1 := fun l => k_contains (m := (mq.map fun r => r.map rt)) (l := l) (by omega)
  rw [decide_eq_false h3] at e1
  have e2 := fun h => k_concat (h := h) (m := (mq.map fun r => r.map rt)) (by omega) (by omega) (by omega)
  have e3 := fun h => k_numbers (h := h) (xs := (mq.map fun r => r.map rt).flatten) (f := false) (fun t ht => by
    rw [flat_map] at ht
    obtain ⟨q, _, rfl⟩ := List.mem_map.1 ht
    exact rt_ok q) (by omega)
  have e4 : firstE ((mq.map fun r => r.map rt).flatten.map RT.chk) = 0 := by rw [flat_map]; exact chk_map hbb (flat_Rz hz)
  rw [e4] at e3
  have e5 := fun h => k_det (h := h) (b := b) (n := n) (m := mq) hb (by omega) hn (fun r hr => by rw [hs.2 r hr]; exact hn) hz (by rw [hn] at hbd; exact hbd)
  rw [hn, vec_Det.eq]
  unfold vec_Det.f
  simp (disch := first | exact dD | fail) only [Wd, W2d, W3d, Nat.reduceAdd, Nat.reduceMul, Nat.reduceSub, box_is, e1, e2, e3, e5]
theorem k_Det {mq : List (List Rat)} {b : Nat} (hb : 1 ≤ b) (hs : (1 ≤ mq.length ∧ mq.length ≤ 4) ∧ ∀ r ∈ mq, r.length = mq.length) (hz : ∀ r ∈ mq, ∀ q ∈ r, Rz q b) (hbd : bd b (mq.length - 1) ≤ 8000) : byVal (callW gp) h fid.vec_Det [matQ mq] = some (.tup [ra (detR mq.length mq), .int .i64 0]) := byVal_imm (imm_L1 (imm_mat.mono (by omega))) (Det_cv hb hs hz hbd)

/-! ### The other text -/

theorem num_row {r : List RT} {k : Nat} (hk : k < r.length) : (r.flatMap rtc).drop (k * 3) = .bool r[k].s :: str r[k].m :: str r[k].d :: (r.drop (k + 1)).flatMap rtc := by
  rw [drop_flatMap rtc_len, List.drop_eq_getElem_cons hk, List.flatMap_cons]; rfl
end
end Go.Proofs.YthnapfmpnndneaaGreat.Am