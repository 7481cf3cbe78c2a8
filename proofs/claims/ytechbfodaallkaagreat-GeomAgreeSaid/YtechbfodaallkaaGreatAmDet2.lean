import Derived.Test.YtechbfodaallkaaGreatAmDet
/- Determinants, whole: rows joined, shapes asked; the other text. -/
set_option linter.unusedVariables false
set_option maxRecDepth 10000
set_option linter.unusedSimpArgs false
namespace Go.Proofs.YtechbfodaallkaaGreat.Am
open Go

section
variable {h : Heap}

theorem imm_ip {d : Nat} {cs : List AV} (hc : ∀ c ∈ cs, Imm d c) : Imm (d + 1) (.ip cs) := fun m hm => by
  cases m with
  | zero => omega
  | succ m => exact ⟨imm_all hc (n := m) (by omega), fun hp => by show (cs.mapM (freezeN m hp)).map AV.ip = _; rw [imm_mapM hc (by omega)]; rfl⟩
theorem imm_fn {d f : Nat} {cs : List AV} (hc : ∀ c ∈ cs, Imm d c) : Imm (d + 1) (.fn f cs) := fun m hm => by
  cases m with
  | zero => omega
  | succ m => exact ⟨imm_all hc (n := m) (by omega), fun hp => by show (cs.mapM (freezeN m hp)).map (AV.fn f) = _; rw [imm_mapM hc (by omega)]; rfl⟩
theorem imm_sing {d : Nat} {a : AV} (ha : Imm d a) : ∀ c ∈ [a], Imm d c := fun c hc => by
  simp only [List.mem_cons, List.not_mem_nil, or_false] at hc
  rw [hc]; exact ha
theorem idx_rows {m : List (List RT)} {n i : Nat} {f : Bool} {k : IntKind} (hn : n = m.length) (hi : i < m.length) : opSidx 1 (.is n f (m.map rowV)) (.int k (i : Int)) = some (.ip (rowV m[i] :: (m.map rowV).drop (i + 1))) := by
  rw [nsidx_is (by omega), Nat.mul_one, List.drop_eq_getElem_cons (by simpa using hi)]
  simp

/-! ### Is every row as long? -/

theorem c_clo {m : List (List RT)} {r : List RT} : byVal (callW gp) h fid.vec_Det_1 [rowV r, .ip [matV m]] = some (.bool (decide (r.length ≠ m.length))) := byVal_imm (imm_L2 (imm_row.mono (by omega)) ((imm_ip (imm_sing imm_mat)).mono (by omega))) (by
  rw [vec_Det_1.eq]
  unfold vec_Det_1.f
  have e : decide ((r.length : Int) ≠ ((m.length : Nat) : Int)) = decide (r.length ≠ m.length) := by congr 1; simp [Int.natCast_inj]
  simp only [len_is, bind_s, load_ip, rc_one, bin_neq, e, frz_bool])
theorem refm_clo : gp.refm fid.vec_Det_1 = false := by kernel_rfl
theorem idx_l0 {m m' : List (List RT)} (hm : m.length ≤ 100000) : ∀ (d i : Nat) (hh : Heap), i + d = m.length →
    ∃ z : Int, slices_IndexFunc_LLapi_Rat_Lapi_Rat.l0 (matV m) (.fn fid.vec_Det_1 [.ip [matV m']]) (.int .i64 (m.length : Int)) (.int .i64 (i : Int)) hh = some (.int .i64 z) ∧ (0 ≤ z ↔ ∃ r ∈ m.drop i, r.length ≠ m'.length) := by
  intro d
  induction d with
  | zero =>
    intro i hh hi
    refine ⟨-1, ?_, ?_⟩
    · rw [slices_IndexFunc_LLapi_Rat_Lapi_Rat.l0_eq, bin_lss, bind_s, cond_d, if_neg (by omega), frz_int]
    · rw [List.drop_of_length_le (by omega)]; simp
  | succ d ih =>
    intro i hh hi
    have hil : i < m.length := by omega
    rw [slices_IndexFunc_LLapi_Rat_Lapi_Rat.l0_eq, bin_lss, bind_s, cond_d, if_pos (by omega), idx_rows rfl hil, bind_s, load_ip, rc_one, bind_s]
    unfold callK'
    simp only [refm_clo, cond_false, List.cons_append, List.nil_append]
    rw [c_clo, bind_s, cond_d]
    by_cases hr : m[i].length ≠ m'.length
    · rw [if_pos hr, frz_int]
      exact ⟨i, rfl, by simp only [Int.natCast_nonneg, true_iff]; exact ⟨m[i], by rw [List.drop_eq_getElem_cons hil]; exact List.mem_cons_self .., hr⟩⟩
    · rw [if_neg hr, i_add1 (by omega), bind_s]
      obtain ⟨z, h1, h2⟩ := ih (i + 1) hh (by omega)
      refine ⟨z, h1, h2.trans ?_⟩
      rw [List.drop_eq_getElem_cons hil]
      simp only [List.mem_cons]
      exact ⟨fun ⟨r, h3, h4⟩ => ⟨r, .inr h3, h4⟩, fun ⟨r, h3, h4⟩ => by
        rcases h3 with rfl | h3
        · exact absurd h4 hr
        · exact ⟨r, h3, h4⟩⟩
theorem contains_cv {m m' : List (List RT)} (hm : m.length ≤ 100000) : cv gp fid.slices_ContainsFunc_LLapi_Rat_Lapi_Rat [matV m, .fn fid.vec_Det_1 [.ip [matV m']]] = some (.bool (decide (∃ r ∈ m, r.length ≠ m'.length))) := by
  have hi : ∃ z : Int, byVal (callW gp) [] fid.slices_IndexFunc_LLapi_Rat_Lapi_Rat [matV m, .fn fid.vec_Det_1 [.ip [matV m']]] = some (.int .i64 z) ∧ (0 ≤ z ↔ ∃ r ∈ m, r.length ≠ m'.length) := by
    obtain ⟨z, h1, h2⟩ := idx_l0 (m' := m') hm m.length 0 [] (by omega)
    refine ⟨z, byVal_imm (imm_L2 (imm_mat.mono (by omega)) ((imm_fn (imm_sing (imm_ip (imm_sing imm_mat)))).mono (by omega))) ?_, by simpa using h2⟩
    rw [slices_IndexFunc_LLapi_Rat_Lapi_Rat.eq]
    unfold slices_IndexFunc_LLapi_Rat_Lapi_Rat.f
    rw [len_is, bind_s]
    exact h1
  obtain ⟨z, h1, h2⟩ := hi
  rw [slices_ContainsFunc_LLapi_Rat_Lapi_Rat.eq]
  unfold slices_ContainsFunc_LLapi_Rat_Lapi_Rat.f
  rw [h1, bind_s, bin_geq, bind_s, frz_bool]
  congr 2
  exact decide_eq_decide.2 h2
theorem k_contains {m : List (List RT)} {l : Heap} (hm : m.length ≤ 100000) : byVal (callW gp) (some [matV m] :: l) fid.slices_ContainsFunc_LLapi_Rat_Lapi_Rat [matV m, .fn fid.vec_Det_1 [.rp 0 0]] = some (.bool (decide (∃ r ∈ m, r.length ≠ m.length))) := by
  refine byVal_flat (xs := [matV m, .fn fid.vec_Det_1 [.ip [matV m]]]) (mapM2 (imm_mat.frz (by omega) _) ?_) (contains_cv hm) rfl
  show ([AV.rp 0 0].mapM (freezeN 11 _)).map (AV.fn fid.vec_Det_1) = _
  have : freezeN 11 (some [matV m] :: l) (.rp 0 0) = some (.ip [matV m]) := by
    show ((live (some [matV m] :: l) 0).bind fun cs => ((cs.drop 0).mapM (freezeN 10 (some [matV m] :: l))).map AV.ip) = _
    rw [live_0, bind_s, List.drop_zero, imm_mapM (imm_sing imm_mat) (by omega)]; rfl
  rw [mapM1 this]; rfl

/-! ### Rows joined -/

theorem grow_row {n : Nat} (h0 : 0 < n) (h1 : n ≤ 4294967296) : callW gp fid.slices_Grow_Lapi_Rat_api_Rat [.is 0 true [], .int .i64 (n : Int)] h = some (.rc 3 h.length 0 0 n, h ++ [some (zeros zr n)]) := by
  rw [slices_Grow_Lapi_Rat_api_Rat.eq]
  unfold slices_Grow_Lapi_Rat_api_Rat.f
  rw [bin_lss, bind_s, cond_d, if_neg (by omega), cap_is, bind_s, len_is, bind_s, int_sub (by omega) (by omega), bind_s, int_sub (by omega) (by omega), bind_s, bin_gtr, bind_s, cond_d, if_pos (by omega), bind_s]
  have e1 : opSlcc 3 (.is 0 true []) none (some (.int .i64 ((0 : Nat) : Int))) = some (.is 0 true []) := slcc_e
  have e2 : ((n : Nat) : Int) - (((0 : Nat) : Int) - ((0 : Nat) : Int)) = (n : Int) := by omega
  rw [e1, bind_s, e2, appm_e h0 h1, bind_s, bind_s, slcc_lo (by omega) (by omega), bind_s]
  rfl
theorem cat_l0 {m : List (List RT)} (hm : m.length ≤ 1000) : ∀ (d i s : Nat), i + d = m.length → s + (m.drop i).flatten.length ≤ 1000000 →
    slices_Concat_Lapi_Rat_api_Rat.l0 (matV m) (.int .i64 (s : Int)) (matV m) (.int .i64 (m.length : Int)) (.int .i64 (i : Int)) =
      (callW gp fid.slices_Grow_Lapi_Rat_api_Rat [(.is 0 true []), .int .i64 ((s + (m.drop i).flatten.length : Nat) : Int)] []).bind fun r9 => (opLen false (matV m)).bind fun v10 => slices_Concat_Lapi_Rat_api_Rat.l1 r9.1 (matV m) v10 (.int .i64 0) r9.2 := by
  intro d
  induction d with
  | zero =>
    intro i s hi hs
    rw [slices_Concat_Lapi_Rat_api_Rat.l0_eq, bin_lss, bind_s, cond_d, if_neg (by omega), List.drop_of_length_le (by omega)]
    rfl
  | succ d ih =>
    intro i s hi hs
    have hil : i < m.length := by omega
    rw [List.drop_eq_getElem_cons hil, List.flatten_cons, List.length_append] at hs ⊢
    rw [slices_Concat_Lapi_Rat_api_Rat.l0_eq, bin_lss, bind_s, cond_d, if_pos (by omega), idx_rows rfl hil, bind_s, load_ip, rc_one, bind_s, len_is, bind_s, i_add (by omega), bind_s, bin_lss, bind_s, cond_d, if_neg (by omega), i_add1 (by omega), bind_s]
    rw [ih (i + 1) (s + m[i].length) (by omega) (by omega), Nat.add_assoc]
theorem cat_l1 {m : List (List RT)} {id N : Nat} (hm : m.length ≤ 1000) (hN : m.flatten.length = N) (hN2 : N ≤ 1000000) : ∀ (d i : Nat) (hh : Heap) (rest : List AV), i + d = m.length → live hh id = some ((m.take i).flatten.flatMap rtc ++ rest) → ((m.take i).flatten.flatMap rtc ++ rest).length = N * 3 →
    slices_Concat_Lapi_Rat_api_Rat.l1 (.rc 3 id 0 (m.take i).flatten.length N) (matV m) (.int .i64 (m.length : Int)) (.int .i64 (i : Int)) hh = some (rowV m.flatten) := by
  intro d
  induction d with
  | zero =>
    intro i hh rest hi hl hlen
    rw [slices_Concat_Lapi_Rat_api_Rat.l1_eq, bin_lss, bind_s, cond_d, if_neg (by omega)]
    rw [List.take_of_length_le (by omega)] at hl ⊢
    exact RowAt.frz (h := hh) (id := id) ⟨.inr ⟨N, rfl⟩, rest, hl⟩ 11 (by omega)
  | succ d ih =>
    intro i hh rest hi hl hlen
    have hil : i < m.length := by omega
    have et : (m.take (i + 1)).flatten = (m.take i).flatten ++ m[i] := by
      rw [List.take_succ_eq_append_getElem hil, List.flatten_append]; simp
    have htot : (m.take i).flatten.length + m[i].length ≤ N := by
      have := congrArg List.length (congrArg List.flatten (List.take_append_drop (i + 1) m))
      rw [List.flatten_append, List.length_append, et, List.length_append, hN] at this
      omega
    have hfl : ((m.take i).flatten.flatMap rtc).length = (m.take i).flatten.length * 3 := len_flatMap rtc_len _
    have hri : (m[i].flatMap rtc).length = m[i].length * 3 := len_flatMap rtc_len _
    rw [slices_Concat_Lapi_Rat_api_Rat.l1_eq, bin_lss, bind_s, cond_d, if_pos (by omega), idx_rows rfl hil, bind_s, load_ip, rc_one, bind_s]
    by_cases h0 : m[i].length = 0
    · have hnil : m[i] = [] := List.length_eq_zero_iff.1 h0
      have hy : elemsOf hh 3 (rowV m[i]) = some (0, []) := by rw [hnil]; rfl
      rw [app_rc0 hl (by rw [hlen]; omega) (by omega) (by omega) hy rfl, bind_s, i_add1 (by omega), bind_s]
      rw [hnil, List.append_nil] at et
      have := ih (i + 1) hh rest (by omega) (by rw [et]; exact hl) (by rw [et]; exact hlen)
      rw [et] at this
      exact this
    · have hy : elemsOf hh 3 (rowV m[i]) = some (m[i].length, m[i].flatMap rtc) := elems_is hri
      rw [app_rc hl (by rw [hlen]; omega) htot (by omega) hy (cells_rtc _) h0, bind_s, i_add1 (by omega), bind_s]
      have hs : splice ((m.take i).flatten.flatMap rtc ++ rest) (0 + (m.take i).flatten.length * 3) (m[i].flatMap rtc) = (m.take (i + 1)).flatten.flatMap rtc ++ (rest.drop (m[i].length * 3)) := by
        unfold splice
        rw [Nat.zero_add, ← hfl, List.take_left, List.drop_append, List.drop_of_length_le (by omega), List.nil_append, et, List.flatMap_append, hri]
        rw [show ((m.take i).flatten.flatMap rtc).length + m[i].length * 3 - ((m.take i).flatten.flatMap rtc).length = m[i].length * 3 by omega]
      have := ih (i + 1) (hh.set id (some ((m.take (i + 1)).flatten.flatMap rtc ++ (rest.drop (m[i].length * 3))))) _ (by omega) (live_set_self hl) (by
        rw [← hs, splice_mid (by rw [hri, hlen]; omega), hlen])
      rw [et, List.length_append] at this
      rw [hs, et]
      exact this
theorem k_concat {m : List (List RT)} (hm : m.length ≤ 1000) (h0 : 0 < m.flatten.length) (h1 : m.flatten.length ≤ 1000000) : byVal (callW gp) h fid.slices_Concat_Lapi_Rat_api_Rat [matV m] = some (rowV m.flatten) := byVal_imm (imm_L1 (imm_mat.mono (by omega))) (by
  rw [slices_Concat_Lapi_Rat_api_Rat.eq]
  unfold slices_Concat_Lapi_Rat_api_Rat.f
  have := cat_l0 hm m.length 0 0 (by omega) (by simpa using h1)
  rw [len_is, bind_s]
  simp only [Nat.zero_add, List.drop_zero] at this
  refine this.trans ?_
  rw [grow_row h0 (by omega), bind_s, len_is, bind_s]
  exact cat_l1 (id := 0) hm rfl h1 m.length 0 _ (zeros zr m.flatten.length) (by omega) rfl (by rw [List.take_zero]; simp [zeros_len]))
end
end Go.Proofs.YtechbfodaallkaaGreat.Am
