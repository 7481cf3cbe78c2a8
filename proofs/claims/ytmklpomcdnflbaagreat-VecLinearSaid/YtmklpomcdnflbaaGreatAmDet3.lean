import Derived.Test.YtmklpomcdnflbaaGreatAmDet2
/- The determinant, asked from outside; the other text's. -/
set_option linter.unusedVariables false
set_option maxRecDepth 10000
set_option linter.unusedSimpArgs false
namespace Go.Proofs.YtmklpomcdnflbaaGreat.Am
open Go

/-- A square of 1 to 4 rows. -/
def sqT (m : List (List RT)) : Prop := (1 ≤ m.length ∧ m.length ≤ 4) ∧ ∀ r ∈ m, r.length = m.length
instance (m : List (List RT)) : Decidable (sqT m) := by unfold sqT; infer_instance
theorem flat_len {m : List (List RT)} {n : Nat} (h : ∀ r ∈ m, r.length = n) : m.flatten.length = m.length * n := by
  induction m with
  | nil => simp
  | cons r m ih =>
    rw [List.flatten_cons, List.length_append, ih fun r hr => h r (by simp [hr]), h r (by simp), List.length_cons, Nat.add_mul]; omega
theorem firstE_append : ∀ (a b : List Int), firstE (a ++ b) = if firstE a = 0 then firstE b else firstE a
  | [], b => by simp [firstE]
  | x :: a, b => by
    have e : ∀ l, firstE (x :: l) = if x = 0 then firstE l else x := fun l => rfl
    rw [List.cons_append, e, e]
    by_cases hx : x = 0
    · rw [if_pos hx, if_pos hx]; exact firstE_append a b
    · rw [if_neg hx, if_neg hx, if_neg hx]
theorem firstE_zero : ∀ (a : List Int), firstE a = 0 ↔ ∀ x ∈ a, x = 0
  | [] => by simp [firstE]
  | x :: a => by
    unfold firstE
    by_cases hx : x = 0
    · simp [hx, firstE_zero a]
    · simp [hx]
theorem rats_of {n : Nat} : ∀ (l : List RT), (∀ t ∈ l, t.ok ∧ t.chk = 0 ∧ (t.m.length ≤ n ∧ t.d.length ≤ n)) → ∃ qs : List Rat, l = qs.map rt ∧ ∀ q ∈ qs, Rz q n
  | [], _ => ⟨[], rfl, fun q hq => by simp at hq⟩
  | t :: l, h => by
    obtain ⟨h1, h2, h3⟩ := h t (by simp)
    obtain ⟨q, e, hq⟩ := RT.ratz h1 h2 h3
    obtain ⟨qs, e2, hqs⟩ := rats_of l fun t ht => h t (by simp [ht])
    exact ⟨q :: qs, by rw [e, e2]; rfl, fun x hx => by
      rcases List.mem_cons.1 hx with rfl | hx
      · exact hq
      · exact hqs x hx⟩
theorem mats_of {n : Nat} : ∀ (m : List (List RT)), (∀ r ∈ m, ∀ t ∈ r, t.ok ∧ t.chk = 0 ∧ (t.m.length ≤ n ∧ t.d.length ≤ n)) → ∃ mq : List (List Rat), m = mq.map (fun r => r.map rt) ∧ ∀ r ∈ mq, ∀ q ∈ r, Rz q n
  | [], _ => ⟨[], rfl, fun q hq => by simp at hq⟩
  | r :: m, h => by
    obtain ⟨qs, e, hq⟩ := rats_of r (h r (by simp))
    obtain ⟨mq, e2, hm⟩ := mats_of m fun r hr => h r (by simp [hr])
    exact ⟨qs :: mq, by rw [e, e2]; rfl, fun x hx => by
      rcases List.mem_cons.1 hx with rfl | hx
      · exact hq
      · exact hm x hx⟩
theorem sq_q {mq : List (List Rat)} (h : sqT (mq.map fun r => r.map rt)) : (1 ≤ mq.length ∧ mq.length ≤ 4) ∧ ∀ r ∈ mq, r.length = mq.length := by
  obtain ⟨⟨h1, h2⟩, h3⟩ := h
  rw [List.length_map] at h1 h2 h3
  exact ⟨⟨h1, h2⟩, fun r hr => by have := h3 _ (List.mem_map_of_mem hr); rwa [List.length_map] at this⟩

section
variable {h : Heap}
theorem box_is {h : Heap} {n : Nat} {f : Bool} {cs : List AV} : opBox h (.is n f cs) = some (.rp h.length 0, h ++ [some [.is n f cs]]) := Eq.trans rfl rfl
abbrev z3e (e : Int) : AV := .tup [.agg [.bool false, str [], str []], .int .i64 e]

/-- Not a square. -/
theorem Det0_cv {m : List (List RT)} (hm : m.length ≤ 1000) (hs : ¬ sqT m) : cv gp fid.vec_Det [matV m] = some (z3e 1) := by
  rw [vec_Det.eq]
  unfold vec_Det.f
  by_cases h1 : m.length < 1
  · simp (disch := first | exact dD | fail) only [Wd, W2d, W3d, Nat.reduceAdd, Nat.reduceMul, Nat.reduceSub, box_is]
    rfl
  · by_cases h2 : m.length > 4
    · simp (disch := first | exact dD | fail) only [Wd, W2d, W3d, Nat.reduceAdd, Nat.reduceMul, Nat.reduceSub, box_is]
      rfl
    · have h3 : ∃ r ∈ m, r.length ≠ m.length := by
        apply Classical.byContradiction
        intro hn
        exact hs ⟨by omega, fun r hr => Classical.byContradiction fun hne => hn ⟨r, hr, hne⟩⟩
      have e := fun l => k_contains (m := m) (l := l) (by omega)
      rw [decide_eq_true h3] at e
      simp (disch := first | exact dD | fail) only [Wd, W2d, W3d, Nat.reduceAdd, Nat.reduceMul, Nat.reduceSub, box_is, e]
      rfl
theorem k_Det0 {m : List (List RT)} (hm : m.length ≤ 1000) (hs : ¬ sqT m) : byVal (callW gp) h fid.vec_Det [matV m] = some (z3e 1) := byVal_imm (imm_L1 (imm_mat.mono (by omega))) (Det0_cv hm hs)
/-- Numbers that may not be. -/
theorem k_DetE {m : List (List RT)} {e : Int} (hs : sqT m) (hb : ∀ r ∈ m, ∀ t ∈ r, t.ok) (he : firstE (m.flatten.map RT.chk) = e) (h0 : e ≠ 0) : byVal (callW gp) h fid.vec_Det [matV m] = some (z3e e) := byVal_imm (imm_L1 (imm_mat.mono (by omega))) (by
  have hl := flat_len hs.2
  have hsq : m.length * m.length ≤ 16 := Nat.le_trans (Nat.mul_le_mul hs.1.2 hs.1.2) (by omega)
  have hpos : 1 * 1 ≤ m.length * m.length := Nat.mul_le_mul hs.1.1 hs.1.1
  have h3 : ¬ ∃ r ∈ m, r.length ≠ m.length := fun ⟨r, hr, hne⟩ => hne (hs.2 r hr)
  have e1 := fun l => k_contains (m := m) (l := l) (by have := hs.1.2; omega)
  rw [decide_eq_false h3] at e1
  have e2 := fun h => k_concat (h := h) (m := m) (by have := hs.1.2; omega) (by omega) (by omega)
  have e3 := fun h => k_numbers (h := h) (xs := m.flatten) (f := false) (fun t ht => by
    obtain ⟨r, hr, ht⟩ := List.mem_flatten.1 ht
    exact hb r hr t ht) (by omega)
  rw [he] at e3
  have hs1 := hs.1.1
  have hs2 := hs.1.2
  rw [vec_Det.eq]
  unfold vec_Det.f
  simp (disch := first | exact dD | fail) only [Wd, W2d, W3d, Nat.reduceAdd, Nat.reduceMul, Nat.reduceSub, box_is, e1, e2, e3]
  rfl)
theorem chk_map {l : List Rat} {b : Nat} (hb : b ≤ 8000) (h : ∀ q ∈ l, Rz q b) : firstE ((l.map rt).map RT.chk) = 0 := by
  rw [firstE_zero]
  intro x hx
  obtain ⟨t, ht, rfl⟩ := List.mem_map.1 hx
  obtain ⟨q, hq, rfl⟩ := List.mem_map.1 ht
  exact rt_chk ((h q hq).mono hb)
theorem flat_map {mq : List (List Rat)} : (mq.map fun r => r.map rt).flatten = mq.flatten.map rt := by
  induction mq with
  | nil => rfl
  | cons r m ih => rw [List.map_cons, List.flatten_cons, ih, List.flatten_cons, List.map_append]
theorem flat_Rz {mq : List (List Rat)} {b : Nat} (hz : ∀ r ∈ mq, ∀ q ∈ r, Rz q b) : ∀ q ∈ mq.flatten, Rz q b := fun q hq => by
  obtain ⟨r, hr, h⟩ := List.mem_flatten.1 hq
  exact hz r hr q h
theorem bd_mono {b n k : Nat} (h : n ≤ k) : bd b n ≤ bd b k := by
  induction k with
  | zero => have : n = 0 := by omega
            subst this; exact Nat.le_refl _
  | succ k ih =>
    by_cases hn : n = k + 1
    · subst hn; exact Nat.le_refl _
    · have h1 := ih (by omega)
      have h2 : 1 * (b + bd b k + 1) ≤ (k + 2) * (b + bd b k + 1) := Nat.mul_le_mul_right _ (by omega)
      have h3 : bd b (k + 1) = 1 + (k + 2) * (b + bd b k + 1) := rfl
      omega
theorem Det_cv {mq : List (List Rat)} {b : Nat} (hb : 1 ≤ b) (hs : (1 ≤ mq.length ∧ mq.length ≤ 4) ∧ ∀ r ∈ mq, r.length = mq.length) (hz : ∀ r ∈ mq, ∀ q ∈ r, Rz q b) (hbd : bd b (mq.length - 1) ≤ 8000) : cv gp fid.vec_Det [matQ mq] = some (.tup [ra (detR mq.length mq), .int .i64 0]) := by
  obtain ⟨n, hn⟩ : ∃ n, mq.length = n + 1 := ⟨mq.length - 1, by omega⟩
  have hs2 : sqT (mq.map fun r => r.map rt) := by
    refine ⟨by rw [List.length_map]; exact hs.1, fun r hr => ?_⟩
    obtain ⟨r', hr', rfl⟩ := List.mem_map.1 hr
    rw [List.length_map, List.length_map]; exact hs.2 r' hr'
  have hl := flat_len hs2.2
  rw [List.length_map] at hl
  have hsq : mq.length * mq.length ≤ 16 := Nat.le_trans (Nat.mul_le_mul hs.1.2 hs.1.2) (by omega)
  have hpos : 1 * 1 ≤ mq.length * mq.length := Nat.mul_le_mul hs.1.1 hs.1.1
  have h3 : ¬ ∃ r ∈ (mq.map fun r => r.map rt), r.length ≠ (mq.map fun r => r.map rt).length := fun ⟨r, hr, hne⟩ => hne (hs2.2 r hr)
  have h4 : (mq.map fun r => r.map rt).length ≤ 4 := hs2.1.2
  have h5 : 1 ≤ (mq.map fun r => r.map rt).length := hs2.1.1
  have hbb : b ≤ 8000 := by
    have := bd_mono (b := b) (Nat.zero_le (mq.length - 1))
    have e : bd b 0 = b := rfl
    omega
  have e1 := fun l => k_contains (m := (mq.map fun r => r.map rt)) (l := l) (by omega)
  rw [decide_eq_false h3] at e1
  have e2 := fun h => k_concat (h := h) (m := (mq.map fun r => r.map rt)) (by omega) (by omega) (by omega)
  have e3 := fun h => k_numbers (h := h) (xs := (mq.map fun r => r.map rt).flatten) (f := false) (fun t ht => by
    rw [flat_map] at ht
    obtain ⟨q, _, rfl⟩ := List.mem_map.1 ht
    exact rt_ok q) (by omega)
  have e4 : firstE ((mq.map fun r => r.map rt).flatten.map RT.chk) = 0 := by rw [flat_map]; exact chk_map hbb (flat_Rz hz)
  rw [e4] at e3
  have e5 := fun h => k_det (h := h) (b := b) (n := n) (m := mq) hb (by omega) hn (fun r hr => by rw [hs.2 r hr]; exact hn) hz (by rw [hn] at hbd; exact hbd)
  rw [hn, vec_Det.eq]
  unfold vec_Det.f
  simp (disch := first | exact dD | fail) only [Wd, W2d, W3d, Nat.reduceAdd, Nat.reduceMul, Nat.reduceSub, box_is, e1, e2, e3, e5]
theorem k_Det {mq : List (List Rat)} {b : Nat} (hb : 1 ≤ b) (hs : (1 ≤ mq.length ∧ mq.length ≤ 4) ∧ ∀ r ∈ mq, r.length = mq.length) (hz : ∀ r ∈ mq, ∀ q ∈ r, Rz q b) (hbd : bd b (mq.length - 1) ≤ 8000) : byVal (callW gp) h fid.vec_Det [matQ mq] = some (.tup [ra (detR mq.length mq), .int .i64 0]) := byVal_imm (imm_L1 (imm_mat.mono (by omega))) (Det_cv hb hs hz hbd)

/-! ### The other text -/

theorem sq4_l0 {m : List (List RT)} (hm : m.length ≤ 1000) : ∀ (d i : Nat), i + d = m.length → gussetref04_Square.l0 (matV m) (.int .i64 (i : Int)) = some (.bool (decide (∀ r ∈ m.drop i, r.length = m.length))) := by
  intro d
  induction d with
  | zero =>
    intro i hi
    rw [gussetref04_Square.l0_eq, len_is, bind_s, bin_lss, bind_s, cond_d, if_neg (by omega), List.drop_of_length_le (by omega)]
    simp [frz_bool]
  | succ d ih =>
    intro i hi
    have hil : i < m.length := by omega
    rw [gussetref04_Square.l0_eq, len_is, bind_s, bin_lss, bind_s, cond_d, if_pos (by omega), idx_rows rfl hil, bind_s, load_ip, rc_one, bind_s, len_is, bind_s, bind_s, bin_neq, bind_s, cond_d, List.drop_eq_getElem_cons hil]
    by_cases hr : m[i].length = m.length
    · rw [if_neg (by simp [hr]), i_add1 (by omega), bind_s, ih (i + 1) (by omega)]
      congr 2
      refine decide_eq_decide.2 ⟨fun h r hr' => ?_, fun h r h2 => h r (List.mem_cons_of_mem _ h2)⟩
      rcases List.mem_cons.1 hr' with rfl | h2
      · exact hr
      · exact h r h2
    · rw [if_pos (by intro e; exact hr (by exact_mod_cast e)), frz_bool]
      congr 2
      exact (decide_eq_false fun hc => hr (hc _ (List.mem_cons_self ..))).symm
theorem c_4sq {m : List (List RT)} (hm : m.length ≤ 1000) : byVal (callW gp) h fid.gussetref04_Square [matV m] = some (.bool (decide (sqT m))) := byVal_imm (imm_L1 (imm_mat.mono (by omega))) (by
  rw [gussetref04_Square.eq]
  unfold gussetref04_Square.f
  by_cases h1 : m.length < 1
  · rw [decide_eq_false (fun hc => by have := hc.1.1; omega)]
    simp (disch := first | exact dD | fail) only [Wd, W2d, W3d, Nat.reduceAdd, Nat.reduceMul, Nat.reduceSub]
  · by_cases h2 : m.length > 4
    · rw [decide_eq_false (fun hc => by have := hc.1.2; omega)]
      simp (disch := first | exact dD | fail) only [Wd, W2d, W3d, Nat.reduceAdd, Nat.reduceMul, Nat.reduceSub]
    · have e := sq4_l0 hm m.length 0 (by omega)
      simp (disch := first | exact dD | fail) only [Wd, W2d, W3d, Nat.reduceAdd, Nat.reduceMul, Nat.reduceSub]
      refine e.trans ?_
      congr 2
      apply decide_eq_decide.2
      unfold sqT
      simp only [List.drop_zero]
      exact ⟨fun h => ⟨by omega, h⟩, fun h => h.2⟩)
theorem num_row {r : List RT} {k : Nat} (hk : k < r.length) : (r.flatMap rtc).drop (k * 3) = .bool r[k].s :: str r[k].m :: str r[k].d :: (r.drop (k + 1)).flatMap rtc := by
  rw [drop_flatMap rtc_len, List.drop_eq_getElem_cons hk, List.flatMap_cons]; rfl
theorem num4_l1 {m : List (List RT)} (hm : m.length ≤ 1000) (hr : ∀ r ∈ m, r.length ≤ 1000) (hb : ∀ r ∈ m, ∀ t ∈ r, t.ok) {i : Nat} (hi : i < m.length) {e : Int} (hn : gussetref04_Numbers.l0 (matV m) (.int .i64 ((i + 1 : Nat) : Int)) = some (.int .i64 e)) :
    ∀ (d k : Nat), k + d = m[i].length → gussetref04_Numbers.l1 (matV m) (.int .i64 (i : Int)) (.int .i64 (k : Int)) = some (.int .i64 (if firstE ((m[i].drop k).map RT.chk) = 0 then e else firstE ((m[i].drop k).map RT.chk))) := by
  have hri := hr _ (List.getElem_mem hi)
  intro d
  induction d with
  | zero =>
    intro k hk
    rw [gussetref04_Numbers.l1_eq, idx_rows rfl hi, bind_s, load_ip, rc_one, bind_s, len_is, bind_s, bin_lss, bind_s, cond_d, if_neg (by omega), i_add1 (by omega), bind_s, List.drop_of_length_le (by omega)]
    exact hn
  | succ d ih =>
    intro k hk
    have hkl : k < m[i].length := by omega
    have ht := hb _ (List.getElem_mem hi) _ (List.getElem_mem hkl)
    have hc := fun h => c_3check (h := h) (s := m[i][k].s) ht.1 ht.2
    rw [gussetref04_Numbers.l1_eq]
    simp (disch := first | exact dD | fail) only [Wd, W2d, W3d, Nat.reduceAdd, Nat.reduceMul, Nat.reduceSub, idx_rows rfl hi, num_row hkl, hc]
    rw [List.drop_eq_getElem_cons hkl, List.map_cons]
    unfold firstE
    by_cases h0 : m[i][k].chk = 0
    · have h1 : rchk m[i][k].s m[i][k].m m[i][k].d = 0 := h0
      rw [if_pos h0]
      simp (disch := first | exact dD | fail) only [Wd, W2d, W3d, Nat.reduceAdd, Nat.reduceMul, Nat.reduceSub, h1]
      exact ih (k + 1) (by omega)
    · have h1 : ¬ rchk m[i][k].s m[i][k].m m[i][k].d = 0 := h0
      rw [if_neg h0, if_neg h0]
      simp (disch := first | exact dD | fail) only [Wd, W2d, W3d, Nat.reduceAdd, Nat.reduceMul, Nat.reduceSub]
      rfl
theorem num4_l0 {m : List (List RT)} (hm : m.length ≤ 1000) (hr : ∀ r ∈ m, r.length ≤ 1000) (hb : ∀ r ∈ m, ∀ t ∈ r, t.ok) : ∀ (d i : Nat), i + d = m.length → gussetref04_Numbers.l0 (matV m) (.int .i64 (i : Int)) = some (.int .i64 (firstE ((m.drop i).flatten.map RT.chk))) := by
  intro d
  induction d with
  | zero =>
    intro i hi
    rw [gussetref04_Numbers.l0_eq, len_is, bind_s, bin_lss, bind_s, cond_d, if_neg (by omega), List.drop_of_length_le (by omega)]
    rfl
  | succ d ih =>
    intro i hi
    have hil : i < m.length := by omega
    rw [gussetref04_Numbers.l0_eq, len_is, bind_s, bin_lss, bind_s, cond_d, if_pos (by omega)]
    have := num4_l1 hm hr hb hil (ih (i + 1) (by omega)) m[i].length 0 (by omega)
    rw [List.drop_eq_getElem_cons hil, List.flatten_cons, List.map_append, firstE_append]
    exact this
theorem c_4numbers {m : List (List RT)} (hm : m.length ≤ 1000) (hr : ∀ r ∈ m, r.length ≤ 1000) (hb : ∀ r ∈ m, ∀ t ∈ r, t.ok) : byVal (callW gp) h fid.gussetref04_Numbers [matV m] = some (.int .i64 (firstE (m.flatten.map RT.chk))) := byVal_imm (imm_L1 (imm_mat.mono (by omega))) (by
  rw [gussetref04_Numbers.eq]
  exact num4_l0 hm hr hb m.length 0 (by omega))

theorem slc_lo {n k : Nat} {cs : List AV} (hk : k ≤ n) : opSlcc 3 (.is n false cs) none (some (.int .i64 (k : Int))) = some (.is k false (cs.take (k * 3))) := by
  simp only [opSlcc]
  rw [slc_is0 (by omega) (by omega), Int.toNat_natCast, Bool.false_and]
theorem slc_hi {n k : Nat} {cs : List AV} (hk : k ≤ n) (hc : cs.length = n * 3) : opSlcc 3 (.is n false cs) (some (.int .i64 (k : Int))) none = some (.is (n - k) false (cs.drop (k * 3))) := by
  simp only [opSlcc]
  rw [slc_isl (by omega) (by omega), Int.toNat_natCast, ← hc, List.take_length]
/-- A row without one number, made of two cuts. -/
theorem cut_row {r : List RT} {k : Nat} (hk : k < r.length) (h2 : 2 ≤ r.length) (hn : r.length ≤ 1000) (hh : Heap) :
    ∃ y h', ((opApp hh 3 (.is 0 true []) (.is k false ((r.flatMap rtc).take (k * 3)))).bind fun r18 => (opApp r18.2 3 r18.1 (.is (r.length - (k + 1)) false ((r.flatMap rtc).drop ((k + 1) * 3)))).bind fun r23 => some r23) = some (y, h') ∧
      ∃ id, RowAt h' y (r.eraseIdx k) id ∧ hh.length ≤ id ∧ id < h'.length ∧ ∀ j, j < hh.length → live h' j = live hh j := by
  have er : r.eraseIdx k = r.take k ++ r.drop (k + 1) := List.eraseIdx_eq_take_drop_succ ..
  have hel : (r.eraseIdx k).length = r.length - 1 := List.length_eraseIdx_of_lt hk
  have l1 : ((r.flatMap rtc).take (k * 3)).length = k * 3 := by rw [take_flatMap rtc_len, len_flatMap rtc_len, List.length_take]; congr 1; omega
  have l2 : ((r.flatMap rtc).drop ((k + 1) * 3)).length = (r.length - (k + 1)) * 3 := by rw [drop_flatMap rtc_len, len_flatMap rtc_len, List.length_drop]
  have c1 : ((r.flatMap rtc).take (k * 3)).all AV.cell = true := by rw [take_flatMap rtc_len]; exact cells_rtc _
  have c2 : ((r.flatMap rtc).drop ((k + 1) * 3)).all AV.cell = true := by rw [drop_flatMap rtc_len]; exact cells_rtc _
  have e2 : elemsOf hh 3 (.is (r.length - (k + 1)) false ((r.flatMap rtc).drop ((k + 1) * 3))) = some (r.length - (k + 1), (r.flatMap rtc).drop ((k + 1) * 3)) := elems_is l2
  by_cases k0 : k = 0
  · subst k0
    have e1 : opApp hh 3 (.is 0 true []) (.is 0 false ((r.flatMap rtc).take (0 * 3))) = some (.is 0 true [], hh) := by simp [opApp, elemsOf, AV.notStr]
    rw [e1, bind_s, app_s0 l2 (by omega) (by omega) c2, bind_s]
    refine ⟨_, _, rfl, hh.length, ⟨.inl (by rw [hel]), [], ?_⟩, Nat.le_refl _, by simp, fun j hj => live_app_ne hj⟩
    rw [live_app_self, er, List.append_nil, drop_flatMap rtc_len]; rfl
  · rw [app_s0 l1 (by omega) (by omega) c1, bind_s]
    by_cases kn : r.length - (k + 1) = 0
    · have hd : (r.flatMap rtc).drop ((k + 1) * 3) = [] := List.drop_of_length_le (by rw [len_flatMap rtc_len]; omega)
      have e1 : opApp (hh ++ [some ((r.flatMap rtc).take (k * 3))]) 3 (.rs 3 hh.length 0 k) (.is (r.length - (k + 1)) false ((r.flatMap rtc).drop ((k + 1) * 3))) = some (.rs 3 hh.length 0 k, hh ++ [some ((r.flatMap rtc).take (k * 3))]) := by
        rw [kn, hd]
        unfold opApp
        have a1 : elemsOf (hh ++ [some ((r.flatMap rtc).take (k * 3))]) 3 (.is 0 false []) = some (0, []) := rfl
        have a2 : elemsOf (hh ++ [some ((r.flatMap rtc).take (k * 3))]) 3 (.rs 3 hh.length 0 k) = some (k, (r.flatMap rtc).take (k * 3)) := by
          show ((live _ hh.length).bind fun cs => if 3 = 3 ∧ 0 + k * 3 ≤ cs.length then some (k, (cs.drop 0).take (k * 3)) else none) = _
          rw [live_app_self, bind_s, if_pos ⟨rfl, by rw [l1]; omega⟩, List.drop_zero, List.take_of_length_le (by omega)]
        rw [a1, a2]
        simp only [bind_s]
        rw [if_pos ⟨by omega, rfl, rfl⟩, if_pos trivial]
      rw [e1, bind_s]
      refine ⟨_, _, rfl, hh.length, ⟨.inl (by rw [hel, show r.length - 1 = k by omega]), [], ?_⟩, Nat.le_refl _, by simp, fun j hj => live_app_ne hj⟩
      rw [live_app_self, er, List.append_nil, take_flatMap rtc_len, List.drop_of_length_le (by omega), List.append_nil]
    · rw [app_sr (old := (r.flatMap rtc).take (k * 3)) live_app_self l1 l2 (by omega) (by omega) c2, bind_s]
      refine ⟨_, _, rfl, hh.length + 1, ⟨.inl (by simp [hel]; omega), [], ?_⟩, by omega, by simp, fun j hj => by rw [live_app_ne (by simp; omega), live_set_ne (by omega), live_app_ne hj]⟩
      rw [live_app_self' (by simp), er, List.append_nil, List.flatMap_append, take_flatMap rtc_len, drop_flatMap rtc_len]

theorem det4_l1 {m : List (List RT)} {y2 y3 : AV} {n k base : Nat} (hn : n ≤ 900) (hm : m.length = n + 1) (hr : ∀ r ∈ m, r.length = n + 1) (hk : k < n + 1) (h1 : 1 ≤ n) :
    ∀ (d i : Nat) (mn : AV) (hh : Heap) (done : List (List RT)), i + d = n + 1 → 1 ≤ i → done.length + 1 = i → Minor base hh mn done →
      ∃ mn' hh', Minor base hh' mn' (done ++ (m.drop i).map fun r => r.eraseIdx k) ∧ (∀ j, j < base → live hh' j = live hh j) ∧
        gussetref04_Det.l1 (matV m) y2 y3 (.int .i64 (k : Int)) mn (.int .i64 (i : Int)) hh = gussetref04_Det.l1 (matV m) y2 y3 (.int .i64 (k : Int)) mn' (.int .i64 ((n + 1 : Nat) : Int)) hh' := by
  intro d
  induction d with
  | zero =>
    intro i mn hh done hi h1i hd hm'
    have : i = n + 1 := by omega
    subst this
    exact ⟨mn, hh, by rw [List.drop_of_length_le (by omega)]; simpa using hm', fun _ _ => rfl, rfl⟩
  | succ d ih =>
    intro i mn hh done hi h1i hd hm'
    have hil : i < m.length := by omega
    have hLi := hr _ (List.getElem_mem hil)
    have hcl : (m[i].flatMap rtc).length = m[i].length * 3 := len_flatMap rtc_len _
    obtain ⟨y, h2, hcut, id, hrow, hid, hid2, hold⟩ := cut_row (r := m[i]) (k := k) (by omega) (by omega) (by omega) hh
    obtain ⟨x', h', happ, hm2, hbase⟩ := hm'.add (by omega) hrow hid hid2 hold
    obtain ⟨mn', hh', g1, g2, g3⟩ := ih (i + 1) x' h' (done ++ [m[i].eraseIdx k]) (by omega) (by omega) (by simp; omega) hm2
    refine ⟨mn', hh', ?_, fun j hj => ?_, ?_⟩
    · rw [List.append_assoc] at g1
      rw [List.drop_eq_getElem_cons hil]
      exact g1
    · have hb := hm'.1
      rw [g2 j hj, hbase j hj, hold j (by omega)]
    · rw [← g3]
      rw [gussetref04_Det.l1_eq, len_is, bind_s, bin_lss, bind_s, cond_d, if_pos (by omega), idx_rows rfl hil, bind_s, load_ip, rc_one, bind_s, slc_lo (by omega), bind_s]
      have es := slc_hi (n := m[i].length) (k := k + 1) (by omega) hcl
      simp only [load_ip, rc_one, bind_s, i_add1 (show k + 1 ≤ 9223372036854775807 by omega), es]
      cases ha : opApp hh 3 (.is 0 true []) (.is k false ((m[i].flatMap rtc).take (k * 3))) with
      | none => rw [ha] at hcut; cases hcut
      | some v =>
        rw [ha, bind_s] at hcut
        rw [bind_s]
        cases hb : opApp v.2 3 v.1 (.is (m[i].length - (k + 1)) false ((m[i].flatMap rtc).drop ((k + 1) * 3))) with
        | none => rw [hb] at hcut; cases hcut
        | some u =>
          rw [hb, bind_s] at hcut
          cases hcut
          rw [bind_s]
          cases hc : opBslc 1 1 [.is 0 true []] [(0, y)] with
          | none => rw [hc] at happ; cases happ
          | some v =>
            rw [hc, bind_s] at happ
            rw [bind_s, happ, bind_s, i_add1 (by omega), bind_s]

theorem det4_l0 {m : List (List Rat)} {r0 : List Rat} {L : List (List Rat)} {n b : Nat} (hm : m = r0 :: L) (hn : n ≤ 2) (hL : L.length = n + 1) (hr : ∀ r ∈ m, r.length = n + 2) (hb : 1 ≤ b) (hz : ∀ r ∈ m, ∀ q ∈ r, Rz q b) (hbd : bd b (n + 1) ≤ 8000)
    (ih0 : ∀ k, k < n + 2 → cv gp fid.gussetref04_Det [matQ (minorR m k)] = some (ra (detR (n + 1) (minorR m k)))) :
    ∀ (d k : Nat) (hh : Heap) (z0 : List AV), k + d = n + 2 → live hh 0 = some z0 → z0.length = 3 → live hh 1 = some (rtc (rt (sumR (fun k => (m.getD 0 []).getD k 0 * detR (n + 1) (minorR m k)) k))) →
      gussetref04_Det.l0 (matQ m) (.rp 0 0) (.rp 1 0) (.int .i64 (k : Int)) hh = some (ra (detR (n + 2) m)) := by
  have hr0 : r0.length = n + 2 := hr r0 (by rw [hm]; simp)
  have hml : (m.map fun r => r.map rt).length = n + 2 := by rw [List.length_map, hm, List.length_cons, hL]
  have hF : ∀ k, (m.getD 0 []).getD k 0 = r0.getD k 0 := fun k => by rw [hm]; rfl
  intro d
  induction d with
  | zero =>
    intro k hh z0 hk h0 hz0 h1
    have hkn : k = n + 2 := by omega
    subst hkn
    rw [gussetref04_Det.l0_eq, len_is, bind_s, bin_lss, bind_s, cond_d, if_neg (by omega)]
    obtain ⟨z1, z2, z3, rfl⟩ := len3 hz0
    unfold rtc rt at h1
    simp (disch := first | exact dD | fail) only [Wd, W2d, Nat.reduceAdd, Nat.reduceMul, Nat.reduceSub, h0, h1, live_set_self h0, List.drop_zero]
    rfl
  | succ d ih =>
    intro k hh z0 hk h0 hz0 h1
    have hlen : 1 < hh.length := live_lt h1
    have hkl : k < (r0.map rt).length := by rw [List.length_map]; omega
    have hkl' : k < r0.length := by omega
    have ea : ((r0.map rt).flatMap rtc).drop (k * 3) = .bool (decide (r0[k].num < 0)) :: str (nb r0[k].num.natAbs) :: str (nb r0[k].den) :: ((r0.map rt).drop (k + 1)).flatMap rtc := by
      rw [drop_flatMap rtc_len, List.drop_eq_getElem_cons hkl, List.flatMap_cons, List.getElem_map]; rfl
    have hq : Rz r0[k] b := hz r0 (by rw [hm]; simp) _ (List.getElem_mem hkl')
    have hdz : Rz (detR (n + 1) (minorR m k)) (bd b n) := det_Rz hb n _ (minor_Rz hz k)
    have hbn : b + bd b n + 1 ≤ 8000 ∧ 1 + (n + 2) * (b + bd b n + 1) ≤ 8000 := by
      have : bd b (n + 1) = 1 + (n + 2) * (b + bd b n + 1) := rfl
      have h2 : 2 * (b + bd b n + 1) ≤ (n + 2) * (b + bd b n + 1) := Nat.mul_le_mul_right _ (by omega)
      omega
    have hx : Rz (r0[k] * detR (n + 1) (minorR m k)) 20000 := (hq.mul hdz).mono (by omega)
    have hs : Rz (sumR (fun k => (m.getD 0 []).getD k 0 * detR (n + 1) (minorR m k)) k) 20000 := by
      refine (sum_Rz (c := b + bd b n) k fun j _ => ?_).mono ?_
      · exact (mem_getD hb (row_getD hz 0)).mul (det_Rz hb n _ (minor_Rz hz j))
      · have : k * (b + bd b n + 1) ≤ (n + 2) * (b + bd b n + 1) := Nat.mul_le_mul_right _ (by omega)
        omega
    have hq2 := hq.mono (m := 20000) (by omega)
    have hd2 := hdz.mono (m := 20000) (by omega)
    have hx2 : Rz (-(r0[k] * detR (n + 1) (minorR m k))) 20000 := hx.neg
    have hrt : ∀ r ∈ (m.map fun r => r.map rt), r.length = n + 1 + 1 := fun r hr' => by
      obtain ⟨r', h1, rfl⟩ := List.mem_map.1 hr'
      rw [List.length_map]; exact hr r' h1
    obtain ⟨mn, h', hmn, hold, hl1⟩ := det4_l1 (m := m.map fun r => r.map rt) (y2 := .rp 0 0) (y3 := .rp 1 0) (n := n + 1) (k := k) (base := hh.length) (by omega) hml hrt (by omega) (by omega) (n + 1) 1 (.is 0 true []) hh [] (by omega) (by omega) rfl ⟨Nat.le_refl _, .inl ⟨rfl, rfl⟩⟩
    have hmin : ([] ++ ((m.map fun r => r.map rt).drop 1).map fun r => r.eraseIdx k) = (minorR m k).map fun r => r.map rt := by
      rw [hm]
      simp [minorR, erase_map, Function.comp_def]
    rw [hmin] at hmn
    have hne : (minorR m k).map (fun r => r.map rt) ≠ [] := by
      intro h
      have := congrArg List.length h
      rw [hm] at this
      simp [minorR] at this
      rw [this] at hL; simp at hL
    have hdet : byVal (callW gp) h' fid.gussetref04_Det [mn] = some (ra (detR (n + 1) (minorR m k))) := byVal_flat (mapM1 (hmn.frz hne)) (ih0 k (by omega)) rfl
    have g0 : live h' 0 = some z0 := by rw [hold 0 (by omega)]; exact h0
    have g1 : live h' 1 = some (rtc (rt (sumR (fun k => (m.getD 0 []).getD k 0 * detR (n + 1) (minorR m k)) k))) := by rw [hold 1 (by omega)]; exact h1
    have hb' := hmn.1
    have e0 : ∀ h : Heap, (opSidx 1 (matQ m) (.int .i64 0)).bind (fun v => opLoad h none v) = some (rowV (r0.map rt)) := fun h => by
      rw [hm]
      have : opSidx 1 (matQ (r0 :: L)) (.int .i64 0) = some (.ip (rowV (r0.map rt) :: (L.map fun r => r.map rt).map rowV)) := sidx_is0 (by simp)
      rw [this, bind_s, load_ip, rc_one]
    have e0' : opSidx 1 (matQ m) (.int .i64 0) = some (.ip (rowV (r0.map rt) :: (L.map fun r => r.map rt).map rowV)) := by rw [hm]; exact sidx_is0 (by simp)
    rw [gussetref04_Det.l0_eq, len_is, bind_s, bin_lss, bind_s, cond_d, if_pos (by omega)]
    have hl1' := hl1
    simp only [Int.natCast_one] at hl1'
    refine Eq.trans hl1' ?_
    rw [gussetref04_Det.l1_eq, len_is, bind_s, bin_lss, bind_s, cond_d, if_neg (by omega)]
    have hFk : (m.getD 0 []).getD k 0 = r0[k] := by rw [hF, List.getD_eq_getElem?_getD, List.getElem?_eq_getElem hkl']; rfl
    unfold rtc rt at g1
    by_cases hodd : k % 2 = 1
    · simp (disch := first | exact dD | fail) only [Wd, W2d, Nat.reduceAdd, Nat.reduceMul, Nat.reduceSub, e0', ea, g1, hdet, k_3mul, k_3neg, live_app_self, set_app_self, live_old, set_old]
      unfold gussetref04_Det.j0
      simp (disch := first | exact dD | fail) only [Wd, W2d, Nat.reduceAdd, Nat.reduceMul, Nat.reduceSub, g1, k_3sum, live_app_self, set_app_self, live_old, set_old]
      refine ih (k + 1) _ z0 (by omega) (by rw [live_app_ne (by simp; omega), live_set_ne (by omega)]; exact g0) hz0 ?_
      rw [live_app_ne (by simp; omega), live_set_self g1]
      rw [show sumR (fun k => (m.getD 0 []).getD k 0 * detR (n + 1) (minorR m k)) (k + 1) = sumR (fun k => (m.getD 0 []).getD k 0 * detR (n + 1) (minorR m k)) k + -(r0[k] * detR (n + 1) (minorR m k)) by rw [sumR, if_pos hodd, hFk, Rat.sub_eq_add_neg]]
      rfl
    · simp (disch := first | exact dD | fail) only [Wd, W2d, Nat.reduceAdd, Nat.reduceMul, Nat.reduceSub, e0', ea, g1, hdet, k_3mul, live_app_self, set_app_self, live_old, set_old]
      unfold gussetref04_Det.j0
      simp (disch := first | exact dD | fail) only [Wd, W2d, Nat.reduceAdd, Nat.reduceMul, Nat.reduceSub, g1, k_3sum, live_app_self, set_app_self, live_old, set_old]
      refine ih (k + 1) _ z0 (by omega) (by rw [live_app_ne (by simp; omega), live_set_ne (by omega)]; exact g0) hz0 ?_
      rw [live_app_ne (by simp; omega), live_set_self g1]
      rw [show sumR (fun k => (m.getD 0 []).getD k 0 * detR (n + 1) (minorR m k)) (k + 1) = sumR (fun k => (m.getD 0 []).getD k 0 * detR (n + 1) (minorR m k)) k + r0[k] * detR (n + 1) (minorR m k) by rw [sumR, if_neg hodd, hFk]]
      rfl
theorem det4_cv {b : Nat} (hb : 1 ≤ b) : ∀ (n : Nat) (m : List (List Rat)), n ≤ 3 → m.length = n + 1 → (∀ r ∈ m, r.length = n + 1) → (∀ r ∈ m, ∀ q ∈ r, Rz q b) → bd b n ≤ 8000 → cv gp fid.gussetref04_Det [matQ m] = some (ra (detR (n + 1) m))
  | 0, m, hn, hm, hr, hz, hbd => by
    obtain ⟨a, rfl⟩ := sq1 hm hr
    rw [gussetref04_Det.eq]
    unfold gussetref04_Det.f
    show _ = some (ra a)
    have e1 : opSidx 1 (matQ [[a]]) (.int .i64 0) = some (.ip [rowV [rt a]]) := sidx_is0 (by simp)
    have e2 : opSidx 3 (rowV [rt a]) (.int .i64 0) = some (.ip (rtc (rt a))) := sidx_is0 (by simp)
    have e3 : opLen false (matQ [[a]]) = some (.int .i64 1) := rfl
    have e4 : opBin .eql (.int .i64 1) (.int .i64 1) = some (.bool true) := rfl
    unfold rtc rt at *
    simp (disch := first | exact dD | fail) only [Wd, W2d, Nat.reduceAdd, Nat.reduceMul, Nat.reduceSub, e1, e2, e3, e4]
  | n + 1, m, hn, hm, hr, hz, hbd => by
    match m, hm with
    | r0 :: L, hm =>
      have hL : L.length = n + 1 := by simpa using hm
      have hbn : bd b n ≤ 8000 := Nat.le_trans (bd_mono (by omega)) hbd
      have ih : ∀ k, k < n + 2 → cv gp fid.gussetref04_Det [matQ (minorR (r0 :: L) k)] = some (ra (detR (n + 1) (minorR (r0 :: L) k))) := fun k hk => by
        obtain ⟨g1, g2⟩ := minor_len hm hr hk
        exact det4_cv hb n _ (by omega) g1 g2 (minor_Rz hz k) hbn
      rw [gussetref04_Det.eq]
      unfold gussetref04_Det.f
      have e3 : opLen false (matQ (r0 :: L)) = some (.int .i64 ((n + 2 : Nat) : Int)) := by
        show some (AV.int .i64 ((((r0 :: L).map fun r => r.map rt).length : Nat) : Int)) = _
        rw [List.length_map, hm]
      rw [e3, bind_s, bin_eql, bind_s, cond_d, if_neg (by omega)]
      simp (disch := first | exact dD | fail) only [Wd, W2d, Nat.reduceAdd, Nat.reduceMul, Nat.reduceSub, k_3of]
      exact det4_l0 rfl (by omega) hL hr hb hz hbd ih (n + 2) 0 _ zr (by omega) rfl rfl rfl
theorem k_4det {b : Nat} {mq : List (List Rat)} (hb : 1 ≤ b) (hs : (1 ≤ mq.length ∧ mq.length ≤ 4) ∧ ∀ r ∈ mq, r.length = mq.length) (hz : ∀ r ∈ mq, ∀ q ∈ r, Rz q b) (hbd : bd b (mq.length - 1) ≤ 8000) : byVal (callW gp) h fid.gussetref04_Det [matQ mq] = some (ra (detR mq.length mq)) := by
  obtain ⟨n, hn⟩ : ∃ n, mq.length = n + 1 := ⟨mq.length - 1, by omega⟩
  refine byVal_imm (imm_L1 (imm_mat.mono (by omega))) ?_
  rw [hn] at hbd ⊢
  exact det4_cv hb n mq (by omega) hn (fun r hr => by rw [hs.2 r hr]; exact hn) hz hbd
end
end Go.Proofs.YtmklpomcdnflbaaGreat.Am