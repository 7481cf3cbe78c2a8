import Derived.Test.YtechbfodaallkaaGreatAmDet2
/- The determinant, asked from outside; the other text's. -/
set_option linter.unusedVariables false
set_option maxRecDepth 10000
set_option linter.unusedSimpArgs false
namespace Go.Proofs.YtechbfodaallkaaGreat.Am
open Go

/-- A square of 1 to 4 rows. -/
def sqT (m : List (List RT)) : Prop := (1 ≤ m.length ∧ m.length ≤ 4) ∧ ∀ r ∈ m, r.length = m.length
instance (m : List (List RT)) : Decidable (sqT m) := by unfold sqT; infer_instance
theorem flat_len {m : List (List RT)} {n : Nat} (h : ∀ r ∈ m, r.length = n) : m.flatten.length = m.length * n := by
  induction m with
  | nil => simp
  | cons r m ih =>
    rw [List.flatten_cons, List.length_append, ih fun r hr => h r (by simp [hr]), h r (by simp), List.length_cons, Nat.add_mul]; omega
theorem firstE_zero : ∀ (a : List Int), firstE a = 0 ↔ ∀ x ∈ a, x = 0
  | [] => by simp [firstE]
  | x :: a => by
    unfold firstE
    by_cases hx : x = 0
    · simp [hx, firstE_zero a]
    · simp [hx]
section
variable {h : Heap}
theorem box_is {h : Heap} {n : Nat} {f : Bool} {cs : List AV} : opBox h (.is n f cs) = some (.rp h.length 0, h ++ [some [.is n f cs]]) := Eq.trans rfl rfl
theorem chk_map {l : List Rat} {b : Nat} (hb : b ≤ 8000) (h : ∀ q ∈ l, Rz q b) : firstE ((l.map rt).map RT.chk) = 0 := by
  rw [firstE_zero]
  intro x hx
  obtain ⟨t, ht, rfl⟩ := List.mem_map.1 hx
  obtain ⟨q, hq, rfl⟩ := List.mem_map.1 ht
  exact rt_chk ((h q hq).mono hb)
theorem flat_map {mq : List (List Rat)} : (mq.map fun r => r.map rt).flatten = mq.flatten.map rt := by
  induction mq with
  | nil => rfl
  | cons r m ih => rw [List.map_cons, List.flatten_cons, ih, List.flatten_cons, List.map_append]
theorem flat_Rz {mq : List (List Rat)} {b : Nat} (hz : ∀ r ∈ mq, ∀ q ∈ r, Rz q b) : ∀ q ∈ mq.flatten, Rz q b := fun q hq => by
  obtain ⟨r, hr, h⟩ := List.mem_flatten.1 hq
  exact hz r hr q h
theorem bd_mono {b n k : Nat} (h : n ≤ k) : bd b n ≤ bd b k := by
  induction k with
  | zero => have : n = 0 := by omega
            subst this; exact Nat.le_refl _
  | succ k ih =>
    by_cases hn : n = k + 1
    · subst hn; exact Nat.le_refl _
    · have h1 := ih (by omega)
      have h2 : 1 * (b + bd b k + 1) ≤ (k + 2) * (b + bd b k + 1) := Nat.mul_le_mul_right _ (by omega)
      have h3 : bd b (k + 1) = 1 + (k + 2) * (b + bd b k + 1) := rfl
      omega
theorem Det_cv {mq : List (List Rat)} {b : Nat} (hb : 1 ≤ b) (hs : (1 ≤ mq.length ∧ mq.length ≤ 4) ∧ ∀ r ∈ mq, r.length = mq.length) (hz : ∀ r ∈ mq, ∀ q ∈ r, Rz q b) (hbd : bd b (mq.length - 1) ≤ 8000) : cv gp fid.vec_Det [matQ mq] = some (.tup [ra (detR mq.length mq), .int .i64 0]) := by
  obtain ⟨n, hn⟩ : ∃ n, mq.length = n + 1 := ⟨mq.length - 1, by omega⟩
  have hs2 : sqT (mq.map fun r => r.map rt) := by
    refine ⟨by rw [List.length_map]; exact hs.1, fun r hr => ?_⟩
    obtain ⟨r', hr', rfl⟩ := List.mem_map.1 hr
    rw [List.length_map, List.length_map]; exact hs.2 r' hr'
  have hl := flat_len hs2.2
  rw [List.length_map] at hl
  have hsq : mq.length * mq.length ≤ 16 := Nat.le_trans (Nat.mul_le_mul hs.1.2 hs.1.2) (by omega)
  have hpos : 1 * 1 ≤ mq.length * mq.length := Nat.mul_le_mul hs.1.1 hs.1.1
  have h3 : ¬ ∃ r ∈ (mq.map fun r => r.map rt), r.length ≠ (mq.map fun r => r.map rt).length := fun ⟨r, hr, hne⟩ => hne (hs2.2 r hr)
  have h4 : (mq.map fun r => r.map rt).length ≤ 4 := hs2.1.2
  have h5 : 1 ≤ (mq.map fun r => r.map rt).length := hs2.1.1
  have hbb : b ≤ 8000 := by
    have := bd_mono (b := b) (Nat.zero_le (mq.length - 1))
    have e : bd b 0 = b := rfl
    omega
  have e1 := fun l => k_contains (m := (mq.map fun r => r.map rt)) (l := l) (by omega)
  rw [decide_eq_false h3] at e1
  have e2 := fun h => k_concat (h := h) (m := (mq.map fun r => r.map rt)) (by omega) (by omega) (by omega)
  have e3 := fun h => k_numbers (h := h) (xs := (mq.map fun r => r.map rt).flatten) (f := false) (fun t ht => by
    rw [flat_map] at ht
    obtain ⟨q, _, rfl⟩ := List.mem_map.1 ht
    exact rt_ok q) (by omega)
  have e4 : firstE ((mq.map fun r => r.map rt).flatten.map RT.chk) = 0 := by rw [flat_map]; exact chk_map hbb (flat_Rz hz)
  rw [e4] at e3
  have e5 := fun h => k_det (h := h) (b := b) (n := n) (m := mq) hb (by omega) hn (fun r hr => by rw [hs.2 r hr]; exact hn) hz (by rw [hn] at hbd; exact hbd)
  rw [hn, vec_Det.eq]
  unfold vec_Det.f
  simp (disch := first | exact dD | fail) only [Wd, W2d, W3d, Nat.reduceAdd, Nat.reduceMul, Nat.reduceSub, box_is, e1, e2, e3, e5]
/-! ### The other text -/

end
end Go.Proofs.YtechbfodaallkaaGreat.Am
