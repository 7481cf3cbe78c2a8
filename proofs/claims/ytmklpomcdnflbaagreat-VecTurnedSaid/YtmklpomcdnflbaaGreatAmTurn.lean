import Derived.Test.YtmklpomcdnflbaaGreatAmLaws4
/- Rows that change places, and columns: a row of rows that grows. -/
set_option linter.unusedVariables false
set_option maxRecDepth 10000
set_option linter.unusedSimpArgs false
namespace Go.Proofs.YtmklpomcdnflbaaGreat.Am
open Go

/-- A row that this call has made by appending, or none yet. -/
def Own {α : Type} (sz : Nat) (f : α → List AV) (h : Heap) (x : AV) (l : List α) (id : Nat) : Prop :=
  (l = [] ∧ x = .is 0 true []) ∨ (l ≠ [] ∧ x = .rs sz id 0 l.length ∧ live h id = some (l.flatMap f))
theorem Own.add {α : Type} {sz : Nat} {f : α → List AV} (hf : ∀ r, (f r).length = sz) (hc : ∀ r, (f r).all AV.cell = true) {h : Heap} {x : AV} {l : List α} {id : Nat} (ho : Own sz f h x l id) (hn : l.length ≤ 100000) (r : α) :
    ∃ x' h', opApp h sz x (.is 1 true (f r)) = some (x', h') ∧ Own sz f h' x' (l ++ [r]) h.length ∧ h'.length = h.length + 1 ∧ ∀ j, j < h.length → (l ≠ [] → j ≠ id) → live h' j = live h j := by
  rcases ho with ⟨rfl, rfl⟩ | ⟨hne, rfl, hl⟩
  · refine ⟨_, _, app_s0 (by rw [hf]; omega) (by omega) (by omega) (hc r), .inr ⟨by simp, by simp, by simp [live_app_self]⟩, by simp, fun j hj _ => live_app_ne hj⟩
  · refine ⟨_, _, app_sr hl (len_flatMap hf l) (by rw [hf]; omega) (by omega) (by omega) (hc r), .inr ⟨by simp, by simp, ?_⟩, by simp, fun j hj hi => ?_⟩
    · rw [live_app_self' (by simp)]; simp
    · rw [live_app_ne (by simpa using hj), live_set_ne (fun e => hi hne e.symm)]
theorem Own.mono {α : Type} {sz : Nat} {f : α → List AV} {h h' : Heap} {x : AV} {l : List α} {id : Nat} (ho : Own sz f h x l id) (hl : l ≠ [] → live h' id = live h id) : Own sz f h' x l id := by
  rcases ho with ho | ⟨hne, hx, hv⟩
  · exact .inl ho
  · exact .inr ⟨hne, hx, by rw [hl hne]; exact hv⟩
theorem Own.lt {α : Type} {sz : Nat} {f : α → List AV} {h : Heap} {x : AV} {l : List α} {id : Nat} (ho : Own sz f h x l id) (hl : l ≠ []) : id < h.length := by
  rcases ho with ho | ⟨hne, hx, hv⟩
  · exact absurd ho.1 hl
  · exact live_lt hv
abbrev rf (r : List RT) : List AV := [rowV r]
theorem rf_flat : ∀ m : List (List RT), m.flatMap rf = m.map rowV
  | [] => rfl
  | r :: m => by rw [List.flatMap_cons, rf_flat m]; rfl
theorem rows_frz {h : Heap} {x : AV} {m : List (List RT)} {id : Nat} (ho : Own 1 rf h x m id) (hne : m ≠ []) : freeze h x = some (matV m) := by
  rcases ho with ho | ⟨_, rfl, hv⟩
  · exact absurd ho.1 hne
  · show freezeN 12 h _ = _
    rw [rf_flat] at hv
    rw [fz_rs, hv, bind_s, if_pos (by simp), List.drop_zero, Nat.mul_one, List.take_of_length_le (by simp), imm_mapM imm_rows (by omega)]
    rfl

/-- Rows of rows, all made by this call; no block of av among them. -/
def Cols (h : Heap) (av : List Nat) (x : AV) (m : List (List RT)) (id : Nat) : Prop :=
  (m = [] ∧ x = .is 0 true []) ∨ ∃ cs, x = .rs 1 id 0 m.length ∧ m ≠ [] ∧ live h id = some cs ∧ cs.length = m.length ∧ id ∉ av ∧
    ∀ (j : Nat) (r : List RT), m[j]? = some r → ∃ y idj, cs[j]? = some y ∧ RowAt h y r idj ∧ idj ≠ id ∧ idj ∉ av
theorem Cols.mono {h h' : Heap} {av av' : List Nat} {x : AV} {m : List (List RT)} {id : Nat} (hc : Cols h av x m id) (hl : ∀ j, j < h.length → j ∉ av → live h' j = live h j) (ha : ∀ j ∈ av', h.length ≤ j) : Cols h' av' x m id := by
  rcases hc with hc | ⟨cs, hx, hne, hv, hcs, hi, hall⟩
  · exact .inl hc
  · refine .inr ⟨cs, hx, hne, by rw [hl _ (live_lt hv) hi]; exact hv, hcs, fun hm => ?_, fun j r hj => ?_⟩
    · have := ha _ hm; have := live_lt hv; omega
    · obtain ⟨y, idj, h1, h2, h3, h4⟩ := hall j r hj
      obtain ⟨tl, ht⟩ := h2.2
      have hlt := live_lt ht
      exact ⟨y, idj, h1, h2.mono (hl _ hlt h4), h3, fun hm => by have := ha _ hm; omega⟩
theorem Cols.minor {h : Heap} {av : List Nat} {x : AV} {m : List (List RT)} {id : Nat} (hc : Cols h av x m id) : Minor 0 h x m := by
  refine ⟨by omega, ?_⟩
  rcases hc with hc | ⟨cs, hx, hne, hv, hcs, hi, hall⟩
  · exact .inl hc
  · exact .inr ⟨id, cs, hx, hne, by omega, hv, hcs, fun j r hj => let ⟨y, idj, h1, h2, h3, _⟩ := hall j r hj; ⟨y, idj, h1, h2, h3⟩⟩
theorem Cols.add {h : Heap} {av : List Nat} {x : AV} {m : List (List RT)} {id : Nat} (hm : Cols h av x m id) (hn : m.length ≤ 100000) {y : AV} {r : List RT} {iy : Nat} (hy : RowAt h y r iy) (h1 : m ≠ [] → iy ≠ id) (h2 : iy ∉ av) (hav : ∀ j ∈ av, j < h.length) :
    ∃ x' h', opApp h 1 x (.is 1 true [y]) = some (x', h') ∧ Cols h' av x' (m ++ [r]) h.length ∧ h'.length = h.length + 1 ∧ ∀ j, j < h.length → (m ≠ [] → j ≠ id) → live h' j = live h j := by
  obtain ⟨tl, hty⟩ := hy.2
  have hlt := live_lt hty
  rcases hm with ⟨rfl, rfl⟩ | ⟨cs, rfl, hne, hl, hcs, hi, hall⟩
  · refine ⟨_, _, app_s0 (by simp) (by omega) (by omega) (by simp [hy.cell]), .inr ⟨[y], by simp, by simp, live_app_self, rfl, fun hm => by have := hav _ hm; omega, fun j r' hj => ?_⟩, by simp, fun j hj _ => live_app_ne hj⟩
    cases j with
    | zero =>
      simp at hj; subst hj
      exact ⟨y, iy, rfl, hy.mono (live_app_ne hlt), by omega, h2⟩
    | succ j => simp at hj
  · have hget : ∀ j, j ≠ id → j < h.length → live (h.set id none ++ [some (cs ++ [y])]) j = live h j := fun j h1 h3 => by
      rw [live_app_ne (by simpa using h3), live_set_ne (fun e => h1 e.symm)]
    refine ⟨_, _, app_sr (old := cs) hl (by rw [hcs]; simp) (by simp) (by omega) (by omega) (by simp [hy.cell]), .inr ⟨cs ++ [y], by simp, by simp, live_app_self' (by simp), by simp [hcs], fun hm => by have := hav _ hm; omega, fun j r' hj => ?_⟩, by simp, fun j hj hi' => hget j (hi' hne) hj⟩
    rcases Nat.lt_or_ge j m.length with hjl | hjl
    · rw [List.getElem?_append_left hjl] at hj
      obtain ⟨z, idj, hz, hr, hne', hna⟩ := hall j r' hj
      obtain ⟨tl2, hlj⟩ := hr.2
      have hlt2 := live_lt hlj
      exact ⟨z, idj, by rw [List.getElem?_append_left (by omega)]; exact hz, hr.mono (hget idj hne' hlt2), by omega, hna⟩
    · rw [List.getElem?_append_right hjl] at hj
      have : j = m.length := by
        have := (List.getElem?_eq_some_iff.1 hj).1
        simp at this; omega
      subst this
      simp at hj; subst hj
      exact ⟨y, iy, by rw [List.getElem?_append_right (by omega), hcs]; simp, hy.mono (hget iy (h1 hne) hlt), by omega, h2⟩

/-! ### The program's loops -/

theorem bslc_one {y : AV} (hy : y.cell = true) : opBslc 1 1 [.is 0 true []] [(0, y)] = some (.is 1 true [y]) := by
  unfold opBslc
  rw [show [(0, y)].map (fun p : Nat × AV => (p.1 * 1, 1, p.2)) = [(0, 1, y)] from rfl, show zeros [AV.is 0 true []] 1 = [.is 0 true []] from rfl, fill_one hy (by simp), fill_nil]; rfl
theorem getD_eq {m : List (List RT)} {k : Nat} (hk : k < m.length) : m[k] = m.getD k [] := by
  rw [List.getD_eq_getElem?_getD, List.getElem?_eq_getElem hk]; rfl
def colR (m : List (List RT)) (i : Nat) : List RT := m.map fun r => r.getD i ⟨false, [], []⟩
theorem col_l1 {m : List (List RT)} {y1 y2 y7 y8 y9 : AV} {i base : Nat} (hn : m.length ≤ 1000) (hr : ∀ r ∈ m, i < r.length) :
    ∀ (d j : Nat) (hh : Heap) (x : AV) (id : Nat) (done : List RT), j + d = m.length → done.length = j → Own 3 rtc hh x done id → (done ≠ [] → base ≤ id) → base ≤ hh.length →
      ∃ x' hh' id', Own 3 rtc hh' x' (done ++ (m.drop j).map fun r => r.getD i ⟨false, [], []⟩) id' ∧ (done ++ (m.drop j).map (fun r => r.getD i ⟨false, [], []⟩) ≠ [] → base ≤ id') ∧ base ≤ hh'.length ∧ (∀ j, j < base → live hh' j = live hh j) ∧
        gussetlaw04_VecTurned.l1 (matV m) y1 y2 y7 y8 y9 (.int .i64 (i : Int)) x (.int .i64 (j : Int)) hh = gussetlaw04_VecTurned.l1 (matV m) y1 y2 y7 y8 y9 (.int .i64 (i : Int)) x' (.int .i64 (m.length : Int)) hh' := by
  intro d
  induction d with
  | zero =>
    intro j hh x id done hj hd ho hb hb2
    have : j = m.length := by omega
    subst this
    exact ⟨x, hh, id, by simpa using ho, by simpa using hb, hb2, fun _ _ => rfl, rfl⟩
  | succ d ih =>
    intro j hh x id done hj hd ho hb hb2
    have hjl : j < m.length := by omega
    have hil := hr _ (List.getElem_mem hjl)
    obtain ⟨x', h', happ, ho', hl', hold⟩ := ho.add rtc_len (fun _ => rfl) (by omega) m[j][i]
    obtain ⟨x2, h2, id2, g1, g2, g3, g4, g5⟩ := ih (j + 1) h' x' hh.length (done ++ [m[j][i]]) (by omega) (by simp [hd]) ho' (fun _ => hb2) (by omega)
    have ed : done ++ (m.drop j).map (fun r => r.getD i ⟨false, [], []⟩) = done ++ [m[j][i]] ++ (m.drop (j + 1)).map fun r => r.getD i ⟨false, [], []⟩ := by
      rw [List.drop_eq_getElem_cons hjl, List.map_cons, List.append_assoc]
      simp [List.getD_eq_getElem?_getD, hil]
    rw [ed]
    refine ⟨x2, h2, id2, g1, g2, g3, fun k hk => ?_, ?_⟩
    · rw [g4 k hk, hold k (by omega) (fun hne => by have := hb hne; omega)]
    · rw [← g5, gussetlaw04_VecTurned.l1_eq]
      unfold rtc at happ
      simp (disch := first | exact dD | fail) only [Wd, W2d, W3d, Nat.reduceAdd, Nat.reduceMul, Nat.reduceSub, idx_rows rfl hjl, num_row hil, happ]

theorem t_j2 {m : List (List RT)} {y1 y2 y7 y8 y9 y10 : AV} {k : Nat} {hh h' : Heap} {x' : AV} (hk : k < m.length) (hn : m.length ≤ 1000) (ha : opApp hh 1 y8 (.is 1 true (rf (m.getD k []))) = some (x', h')) :
    gussetlaw04_VecTurned.j2 (matV m) y1 y2 y7 y8 y9 y10 (.int .i64 (k : Int)) hh = gussetlaw04_VecTurned.l1 (matV m) y1 y2 y7 x' y9 y10 (.is 0 true []) (.int .i64 0) h' := by
  unfold gussetlaw04_VecTurned.j2
  rw [idx_rows rfl hk, bind_s, load_ip, rc_one, bind_s, bslc_one rfl, bind_s, getD_eq hk, ha, bind_s]
theorem t_j1 {m : List (List RT)} {y7 y8 y9 : AV} {a b i k : Nat} {hh h' : Heap} {x' : AV} (hk : k < m.length) (ha : opApp hh 1 y7 (.is 1 true (rf (m.getD k []))) = some (x', h')) :
    gussetlaw04_VecTurned.j1 (matV m) (.int .i64 (a : Int)) (.int .i64 (b : Int)) y7 y8 y9 (.int .i64 (i : Int)) (.int .i64 (k : Int)) hh =
      gussetlaw04_VecTurned.j2 (matV m) (.int .i64 (a : Int)) (.int .i64 (b : Int)) x' y8 y9 (.int .i64 (i : Int)) (.int .i64 ((twI a b i : Nat) : Int)) h' := by
  unfold gussetlaw04_VecTurned.j1 twI
  rw [idx_rows rfl hk, bind_s, load_ip, rc_one, bind_s, bslc_one rfl, bind_s, getD_eq hk, ha, bind_s, bin_eql, bind_s, cond_d]
  by_cases h : i = a
  · rw [if_pos (by omega), if_pos h]
  · rw [if_neg (by omega), if_neg h]
theorem t_head {m : List (List RT)} {y7 y8 y9 : AV} {a b i : Nat} {hh : Heap} (hi : i < m.length) :
    gussetlaw04_VecTurned.l0 (matV m) (.int .i64 (a : Int)) (.int .i64 (b : Int)) y7 y8 y9 (.int .i64 (i : Int)) hh =
      gussetlaw04_VecTurned.j1 (matV m) (.int .i64 (a : Int)) (.int .i64 (b : Int)) y7 y8 y9 (.int .i64 (i : Int)) (.int .i64 ((swI a b i : Nat) : Int)) hh := by
  rw [gussetlaw04_VecTurned.l0_eq, len_is, bind_s, bin_lss, bind_s, cond_d, if_pos (by omega), bin_eql, bind_s, cond_d]
  unfold gussetlaw04_VecTurned.j0 swI
  simp only [bin_eql, bind_s, cond_d]
  by_cases h : i = a
  · rw [if_pos (show (i : Int) = (a : Int) by omega)]
    by_cases h2 : i = b
    · rw [if_pos (show (i : Int) = (b : Int) by omega), if_pos h2]
    · rw [if_neg (show ¬ (i : Int) = (b : Int) by omega), if_neg h2, if_pos h]
  · rw [if_neg (show ¬ (i : Int) = (a : Int) by omega)]
    by_cases h2 : i = b
    · rw [if_pos (show (i : Int) = (b : Int) by omega), if_pos h2]
    · rw [if_neg (show ¬ (i : Int) = (b : Int) by omega), if_neg h2, if_neg h]
theorem Cols.lt {h : Heap} {av : List Nat} {x : AV} {m : List (List RT)} {id : Nat} (hc : Cols h av x m id) (hne : m ≠ []) : id < h.length := by
  rcases hc with hc | ⟨cs, hx, _, hv, _⟩
  · exact absurd hc.1 hne
  · exact live_lt hv
theorem t_step {m R T C : List (List RT)} {x y z : AV} {a b i p q c : Nat} {hh : Heap} (hn : m.length ≤ 900) (hr : ∀ r ∈ m, i < r.length) (hi : i < m.length) (ha : a < m.length) (hb : b < m.length)
    (hR : Own 1 rf hh x R p) (hT : Own 1 rf hh y T q) (hC : Cols hh [p, q] z C c) (hlR : R.length = i) (hlT : T.length = i) (hlC : C.length = i) (hd : i ≠ 0 → p ≠ q ∧ p ≠ c ∧ q ≠ c) :
    ∃ x' y' z' p' q' c' h', Own 1 rf h' x' (R ++ [m.getD (swI a b i) []]) p' ∧ Own 1 rf h' y' (T ++ [m.getD (twI a b i) []]) q' ∧ Cols h' [p', q'] z' (C ++ [colR m i]) c' ∧ (p' ≠ q' ∧ p' ≠ c' ∧ q' ≠ c') ∧
      gussetlaw04_VecTurned.l0 (matV m) (.int .i64 (a : Int)) (.int .i64 (b : Int)) x y z (.int .i64 (i : Int)) hh = gussetlaw04_VecTurned.l0 (matV m) (.int .i64 (a : Int)) (.int .i64 (b : Int)) x' y' z' (.int .i64 ((i + 1 : Nat) : Int)) h' := by
  have ne0 : ∀ {l : List (List RT)}, l.length = i → l ≠ [] → i ≠ 0 := fun hl hne h0 => hne (List.length_eq_zero_iff.1 (by omega))
  have hsw : swI a b i < m.length := by unfold swI; split <;> (try split) <;> omega
  have htw : twI a b i < m.length := by unfold twI; split <;> omega
  obtain ⟨x', h1, e1, o1, l1, k1⟩ := Own.add (sz := 1) (f := rf) (fun _ => rfl) (fun _ => rfl) hR (by omega) (m.getD (swI a b i) [])
  have hT1 := hT.mono (h' := h1) (fun hne => k1 q (hT.lt hne) fun _ => ((hd (ne0 hlT hne)).1).symm)
  obtain ⟨y', h2, e2, o2, l2, k2⟩ := Own.add (sz := 1) (f := rf) (fun _ => rfl) (fun _ => rfl) hT1 (by omega) (m.getD (twI a b i) [])
  obtain ⟨x2, h3, id3, g1, g2, g3, g4, g5⟩ := col_l1 (y1 := .int .i64 (a : Int)) (y2 := .int .i64 (b : Int)) (y7 := x') (y8 := y') (y9 := z) (base := h2.length) (by omega) hr m.length 0 h2 (.is 0 true []) 0 [] (by omega) rfl (.inl ⟨rfl, rfl⟩) (by simp) (Nat.le_refl _)
  rw [List.nil_append, List.drop_zero] at g1 g2
  have hcn : colR m i ≠ [] := fun h => by
    have := congrArg List.length h
    simp [colR] at this
    rw [this] at hi; simp at hi
  have g2 := g2 hcn
  have hrow : RowAt h3 x2 (colR m i) id3 := by
    rcases g1 with g1 | ⟨_, hx, hv⟩
    · exact absurd g1.1 hcn
    · exact ⟨.inl hx, [], by rw [List.append_nil]; exact hv⟩
  obtain ⟨tl, htl⟩ := hrow.2
  have hid3 := live_lt htl
  have c3 := hC.mono (h' := h3) (av' := [hh.length, h1.length]) (fun j hj hm => by
    simp only [List.mem_cons, List.not_mem_nil, or_false, not_or] at hm
    rw [g4 j (by omega), k2 j (by omega) (fun _ => hm.2), k1 j hj (fun _ => hm.1)]) (fun j hj => by
    simp only [List.mem_cons, List.not_mem_nil, or_false] at hj
    rcases hj with rfl | rfl <;> omega)
  have hclt : C ≠ [] → c < hh.length := fun hne => hC.lt hne
  obtain ⟨z', h4, e4, c4, l4, k4⟩ := c3.add (by omega) hrow (fun hne => by have := hclt hne; omega) (fun hm => by
    simp only [List.mem_cons, List.not_mem_nil, or_false] at hm
    omega) (fun j hj => by
    simp only [List.mem_cons, List.not_mem_nil, or_false] at hj
    rcases hj with rfl | rfl <;> omega)
  refine ⟨x', y', z', hh.length, h1.length, h3.length, h4, ?_, ?_, c4, ⟨by omega, by omega, by omega⟩, ?_⟩
  · refine o1.mono fun _ => ?_
    rw [k4 hh.length (by omega) (fun hne => by have := hclt hne; omega), g4 hh.length (by omega), k2 hh.length (by omega) (fun hne => by have := hT.lt hne; omega)]
  · refine o2.mono fun _ => ?_
    rw [k4 h1.length (by omega) (fun hne => by have := hclt hne; omega), g4 h1.length (by omega)]
  · rw [t_head hi, t_j1 hsw e1, t_j2 htw (by omega) e2]
    have g5' := g5
    simp only [Int.natCast_zero] at g5'
    rw [g5', gussetlaw04_VecTurned.l1_eq, len_is, bind_s, bin_lss, bind_s, cond_d, if_neg (by omega), bslc_one hrow.cell, bind_s, e4, bind_s, i_add1 (by omega), bind_s]
theorem t_loop {m : List (List RT)} {a b : Nat} (hn : m.length ≤ 900) (hr : ∀ r ∈ m, r.length = m.length) (ha : a < m.length) (hb : b < m.length) : ∀ (d i : Nat) (hh : Heap) (x y z : AV) (p q c : Nat), i + d = m.length →
    Own 1 rf hh x ((List.range i).map fun k => m.getD (swI a b k) []) p → Own 1 rf hh y ((List.range i).map fun k => m.getD (twI a b k) []) q → Cols hh [p, q] z ((List.range i).map fun k => colR m k) c → (i ≠ 0 → p ≠ q ∧ p ≠ c ∧ q ≠ c) →
    ∃ x' y' z' p' q' c' h', Own 1 rf h' x' ((List.range m.length).map fun k => m.getD (swI a b k) []) p' ∧ Own 1 rf h' y' ((List.range m.length).map fun k => m.getD (twI a b k) []) q' ∧ Cols h' [p', q'] z' ((List.range m.length).map fun k => colR m k) c' ∧
      gussetlaw04_VecTurned.l0 (matV m) (.int .i64 (a : Int)) (.int .i64 (b : Int)) x y z (.int .i64 (i : Int)) hh = gussetlaw04_VecTurned.l0 (matV m) (.int .i64 (a : Int)) (.int .i64 (b : Int)) x' y' z' (.int .i64 (m.length : Int)) h' := by
  intro d
  induction d with
  | zero =>
    intro i hh x y z p q c hi h1 h2 h3 _
    have : i = m.length := by omega
    subst this
    exact ⟨x, y, z, p, q, c, hh, h1, h2, h3, rfl⟩
  | succ d ih =>
    intro i hh x y z p q c hi h1 h2 h3 hd
    obtain ⟨x', y', z', p', q', c', h', o1, o2, o3, hd', e⟩ := t_step hn (fun r h => by rw [hr r h]; omega) (by omega) ha hb h1 h2 h3 (by simp) (by simp) (by simp) hd
    rw [e]
    exact ih (i + 1) h' x' y' z' p' q' c' (by omega) (by rw [List.range_succ, List.map_append]; exact o1) (by rw [List.range_succ, List.map_append]; exact o2) (by rw [List.range_succ, List.map_append]; exact o3) (fun _ => hd')

/-! ### The statement -/

theorem st_new {h : Heap} {q : Rat} : opStore (h ++ [some [.bool false, .str ⟨#[]⟩, .str ⟨#[]⟩]]) 3 (.rp h.length 0) (ra q) = some (h ++ [some (rtc (rt q))]) := by
  unfold ra rtc rt
  simp (disch := first | exact dD | fail) only [Wd, W2d, W3d, Nat.reduceAdd, Nat.reduceMul, Nat.reduceSub, live_app_self, set_app_self]
theorem ld_ra {h : Heap} {id : Nat} {q : Rat} (hl : live h id = some (rtc (rt q))) : opLoad h (some 3) (.rp id 0) = some (ra q) := by
  rw [load_rp hl]; rfl
theorem pick_q {mq : List (List Rat)} {f : Nat → Nat} : ((List.range (mq.map fun r => r.map rt).length).map fun k => (mq.map fun r => r.map rt).getD (f k) []) = (pickR mq f).map fun r => r.map rt := by
  unfold pickR
  rw [List.length_map, List.map_map]
  refine List.map_congr_left fun k _ => ?_
  simp only [Function.comp, List.getD_eq_getElem?_getD, List.getElem?_map]
  cases mq[f k]? <;> rfl
theorem trans_q {mq : List (List Rat)} (hr : ∀ r ∈ mq, r.length = mq.length) : ((List.range (mq.map fun r => r.map rt).length).map fun k => colR (mq.map fun r => r.map rt) k) = (transR mq).map fun r => r.map rt := by
  unfold transR colR
  rw [List.length_map, List.map_map]
  refine List.map_congr_left fun k hk => ?_
  simp only [Function.comp, List.map_map]
  refine List.map_congr_left fun r hm => ?_
  have hk' : k < r.length := by rw [hr r hm]; simpa using hk
  simp [List.getD_eq_getElem?_getD, hk']
theorem pick_len {mq : List (List Rat)} {f : Nat → Nat} : (pickR mq f).length = mq.length := by unfold pickR; simp
theorem pick_rows {mq : List (List Rat)} {f : Nat → Nat} (hf : ∀ k, k < mq.length → f k < mq.length) : ∀ r ∈ pickR mq f, r ∈ mq := fun r hr => by
  obtain ⟨k, hk, rfl⟩ := List.mem_map.1 hr
  have hk := hf k (List.mem_range.1 hk)
  rw [List.getD_eq_getElem?_getD, List.getElem?_eq_getElem hk]
  exact List.getElem_mem hk
theorem trans_len {mq : List (List Rat)} : (transR mq).length = mq.length := by unfold transR; simp
theorem trans_rows {mq : List (List Rat)} (hr : ∀ r ∈ mq, r.length = mq.length) : ∀ r ∈ transR mq, r.length = mq.length ∧ ∀ q ∈ r, ∃ s ∈ mq, q ∈ s := fun r hr' => by
  obtain ⟨k, hk, rfl⟩ := List.mem_map.1 hr'
  refine ⟨by simp, fun q hq => ?_⟩
  obtain ⟨s, hs, rfl⟩ := List.mem_map.1 hq
  have hk' : k < s.length := by rw [hr s hs]; exact List.mem_range.1 hk
  refine ⟨s, hs, ?_⟩
  rw [List.getD_eq_getElem?_getD, List.getElem?_eq_getElem hk']
  exact List.getElem_mem hk'
theorem turned_main {mq : List (List Rat)} {a b : Nat} (hs : (1 ≤ mq.length ∧ mq.length ≤ 4) ∧ ∀ r ∈ mq, r.length = mq.length) (hz : ∀ r ∈ mq, ∀ q ∈ r, Rz q 80) (ha : a < mq.length) (hb : b < mq.length) (hne : a ≠ b) :
    gussetlaw04_VecTurned.l0 (matQ mq) (.int .i64 (a : Int)) (.int .i64 (b : Int)) (.is 0 true []) (.is 0 true []) (.is 0 true []) (.int .i64 0) [] = some (.bool true) := by
  have hl : (mq.map fun r => r.map rt).length = mq.length := by simp
  obtain ⟨x', y', z', p, q, c, h', o1, o2, o3, e⟩ := t_loop (m := mq.map fun r => r.map rt) (a := a) (b := b) (by rw [hl]; omega) (fun r hr => by
    obtain ⟨r', h1, rfl⟩ := List.mem_map.1 hr
    rw [hl, List.length_map]; exact hs.2 r' h1) (by rw [hl]; exact ha) (by rw [hl]; exact hb) mq.length 0 [] (.is 0 true []) (.is 0 true []) (.is 0 true []) 0 1 2 (by rw [hl]; omega) (.inl ⟨rfl, rfl⟩) (.inl ⟨rfl, rfl⟩) (.inl ⟨rfl, rfl⟩) (fun h => absurd rfl h)
  rw [pick_q] at o1 o2
  rw [trans_q hs.2] at o3
  simp only [Int.natCast_zero] at e
  rw [e]
  have hn0 : mq.length ≠ 0 := by omega
  have hswf : ∀ k, k < mq.length → swI a b k < mq.length := fun k hk => by unfold swI; split <;> (try split) <;> omega
  have htwf : ∀ k, k < mq.length → twI a b k < mq.length := fun k hk => by unfold twI; split <;> omega
  have ne1 : ∀ f, (pickR mq f).map (fun r => r.map rt) ≠ [] := fun f h => by
    have := congrArg List.length h
    rw [List.length_map, pick_len] at this
    exact hn0 this
  have ne3 : (transR mq).map (fun r => r.map rt) ≠ [] := fun h => by
    have := congrArg List.length h
    rw [List.length_map, trans_len] at this
    exact hn0 this
  obtain ⟨t1, t2, t3⟩ := turned hs.1.2 hs.2 ha hb hne
  have sqp : ∀ f, (∀ k, k < mq.length → f k < mq.length) → (1 ≤ (pickR mq f).length ∧ (pickR mq f).length ≤ 4) ∧ ∀ r ∈ pickR mq f, r.length = (pickR mq f).length := fun f hf => by
    rw [pick_len]
    exact ⟨hs.1, fun r hr => hs.2 r (pick_rows hf r hr)⟩
  have dd := fun h => k_Det (h := h) (b := 80) (by omega) hs hz (bd80 hs.1.2)
  have dx := Det_cv (b := 80) (mq := pickR mq (swI a b)) (by omega) (sqp _ hswf) (fun r hr => hz r (pick_rows hswf r hr)) (bd80 (by rw [pick_len]; exact hs.1.2))
  have dy := Det_cv (b := 80) (mq := pickR mq (twI a b)) (by omega) (sqp _ htwf) (fun r hr => hz r (pick_rows htwf r hr)) (bd80 (by rw [pick_len]; exact hs.1.2))
  have dt := Det_cv (b := 80) (mq := transR mq) (by omega) (by rw [trans_len]; exact ⟨hs.1, fun r hr => (trans_rows hs.2 r hr).1⟩) (fun r hr q hq => let ⟨s, h1, h2⟩ := (trans_rows hs.2 r hr).2 q hq; hz s h1 q h2) (bd80 (by rw [trans_len]; exact hs.1.2))
  rw [pick_len, t1] at dx
  rw [pick_len, t2] at dy
  rw [trans_len, t3] at dt
  have kx : ∀ H : Heap, (∀ j, j < h'.length → live H j = live h' j) → byVal (callW gp) H fid.vec_Det [x'] = some (.tup [ra (-detR mq.length mq), .int .i64 0]) := fun H hH => byVal_flat (mapM1 (rows_frz (o1.mono fun _ => hH _ (o1.lt (ne1 _))) (ne1 _))) dx rfl
  have ky : ∀ H : Heap, (∀ j, j < h'.length → live H j = live h' j) → byVal (callW gp) H fid.vec_Det [y'] = some (.tup [ra 0, .int .i64 0]) := fun H hH => byVal_flat (mapM1 (rows_frz (o2.mono fun _ => hH _ (o2.lt (ne1 _))) (ne1 _))) dy rfl
  have kz : ∀ H : Heap, (∀ j, j < h'.length → live H j = live h' j) → byVal (callW gp) H fid.vec_Det [z'] = some (.tup [ra (detR mq.length mq), .int .i64 0]) := fun H hH => byVal_flat (mapM1 ((o3.mono (av' := []) (fun j hj _ => hH j hj) (by simp)).minor.frz ne3)) dt rfl
  generalize detR mq.length mq = D at *
  rw [gussetlaw04_VecTurned.l0_eq, len_is, bind_s, bin_lss, bind_s, cond_d, if_neg (by omega), dd, bind_s, ext0, bind_s, ext1, bind_s, st_new, bind_s]
  rw [kx _ (fun j hj => live_app_ne hj), bind_s, ext0, bind_s, ext1, bind_s, st_new, bind_s]
  rw [ky _ (fun j hj => by rw [live_app_ne (by simp; omega), live_app_ne hj]), bind_s, ext0, bind_s, ext1, bind_s, st_new, bind_s]
  rw [kz _ (fun j hj => by rw [live_app_ne (by simp; omega), live_app_ne (by simp; omega), live_app_ne hj]), bind_s, ext0, bind_s, ext1, bind_s, st_new, bind_s]
  have L0 := ld_ra (live_app_old (x := some (rtc (rt D))) (live_app_old (x := some (rtc (rt 0))) (live_app_old (x := some (rtc (rt (-D)))) (live_app_self (h := h') (cs := rtc (rt D))))))
  have L1 := ld_ra (live_app_old (x := some (rtc (rt D))) (live_app_old (x := some (rtc (rt 0))) (live_app_self (h := h' ++ [some (rtc (rt D))]) (cs := rtc (rt (-D))))))
  have L2 := ld_ra (live_app_old (x := some (rtc (rt D))) (live_app_self (h := h' ++ [some (rtc (rt D))] ++ [some (rtc (rt (-D)))]) (cs := rtc (rt 0))))
  have L3 := ld_ra (live_app_self (h := h' ++ [some (rtc (rt D))] ++ [some (rtc (rt (-D)))] ++ [some (rtc (rt 0))]) (cs := rtc (rt D)))
  generalize h' ++ [some (rtc (rt D))] ++ [some (rtc (rt (-D)))] ++ [some (rtc (rt 0))] ++ [some (rtc (rt D))] = H at *
  generalize List.length (h' ++ [some (rtc (rt D))] ++ [some (rtc (rt (-D)))] ++ [some (rtc (rt 0))]) = n3 at *
  generalize List.length (h' ++ [some (rtc (rt D))] ++ [some (rtc (rt (-D)))]) = n2 at *
  generalize List.length (h' ++ [some (rtc (rt D))]) = n1 at *
  have s0 : (if (0 : Rat).num < 0 then (-1 : Int) else if (0 : Rat).num = 0 then 0 else 1) = 0 := by decide
  simp (disch := first | exact dD | fail) only [Wd, W2d, W3d, Nat.reduceAdd, Nat.reduceMul, Nat.reduceSub, L0, L1, L2, L3, k_3neg, k_3sign, s0, eqa_r, live4_by]

theorem vecTurned_cv (m : List (List RT)) (a b : Int) (hm : ∀ r ∈ m, ∀ t ∈ r, t.ok) (ha : -9223372036854775808 ≤ a ∧ a ≤ 9223372036854775807) (hb : -9223372036854775808 ≤ b ∧ b ≤ 9223372036854775807) : cv gp fid.gussetlaw04_VecTurned [matV m, .int .i64 a, .int .i64 b] = some (.bool true) := by
  rw [gussetlaw04_VecTurned.eq]
  unfold gussetlaw04_VecTurned.f
  have s1 := fun h => c_few (h := h) (m := m)
  by_cases h1 : fewT m
  rotate_left
  · rw [decide_eq_false h1] at s1
    simp (disch := first | exact dD | fail) only [Wd, W2d, W3d, Nat.reduceAdd, Nat.reduceMul, Nat.reduceSub, s1, live4_by]
  rw [decide_eq_true h1] at s1
  have hl := h1.1
  have sq := fun h => c_4sq (h := h) (m := m) (by omega)
  by_cases h2 : sqT m
  rotate_left
  · rw [decide_eq_false h2] at sq
    simp (disch := first | exact dD | fail) only [Wd, W2d, W3d, Nat.reduceAdd, Nat.reduceMul, Nat.reduceSub, s1, sq, live4_by]
  rw [decide_eq_true h2] at sq
  have nu := fun h => c_4numbers (h := h) (m := m) (by omega) (fun r hr => by have := (h1.2 r hr).1; omega) hm
  by_cases h3 : firstE (m.flatten.map RT.chk) = 0
  rotate_left
  · generalize firstE (m.flatten.map RT.chk) = e at *
    simp (disch := first | exact dD | fail) only [Wd, W2d, W3d, Nat.reduceAdd, Nat.reduceMul, Nat.reduceSub, s1, sq, nu, live4_by]
  rw [h3] at nu
  obtain ⟨mq, rfl, hz⟩ := few_mats hm h1 h3
  have hs := sq_q h2
  have hlq : (mq.map fun r => r.map rt).length = mq.length := by simp
  by_cases q1 : a < 0
  · simp (disch := first | exact dD | fail) only [Wd, W2d, W3d, Nat.reduceAdd, Nat.reduceMul, Nat.reduceSub, s1, sq, nu, live4_by, q1]
  by_cases q2 : b < 0
  · simp (disch := first | exact dD | fail) only [Wd, W2d, W3d, Nat.reduceAdd, Nat.reduceMul, Nat.reduceSub, s1, sq, nu, live4_by, q1, q2]
  obtain ⟨a, rfl⟩ := Int.eq_ofNat_of_zero_le (by omega : 0 ≤ a)
  obtain ⟨b, rfl⟩ := Int.eq_ofNat_of_zero_le (by omega : 0 ≤ b)
  by_cases q3 : mq.length ≤ a
  · have e3 : ((mq.length : Nat) : Int) ≤ (a : Int) := by omega
    simp (disch := first | exact dD | fail) only [Wd, W2d, W3d, Nat.reduceAdd, Nat.reduceMul, Nat.reduceSub, s1, sq, nu, live4_by, hlq, e3]
  by_cases q4 : mq.length ≤ b
  · have e3 : ¬ ((mq.length : Nat) : Int) ≤ (a : Int) := by omega
    have e4 : ((mq.length : Nat) : Int) ≤ (b : Int) := by omega
    simp (disch := first | exact dD | fail) only [Wd, W2d, W3d, Nat.reduceAdd, Nat.reduceMul, Nat.reduceSub, s1, sq, nu, live4_by, hlq, e3, e4]
  have e3 : ¬ ((mq.length : Nat) : Int) ≤ (a : Int) := by omega
  have e4 : ¬ ((mq.length : Nat) : Int) ≤ (b : Int) := by omega
  by_cases q5 : a = b
  · subst q5
    simp (disch := first | exact dD | fail) only [Wd, W2d, W3d, Nat.reduceAdd, Nat.reduceMul, Nat.reduceSub, s1, sq, nu, live4_by, hlq, e3]
  have main := turned_main hs hz (by omega) (by omega) q5
  have e5 : ¬ (a : Int) = (b : Int) := by omega
  simp (disch := first | exact dD | fail) only [Wd, W2d, W3d, Nat.reduceAdd, Nat.reduceMul, Nat.reduceSub, s1, sq, nu, live4_by, hlq, e3, e4, e5, main]
end Go.Proofs.YtmklpomcdnflbaaGreat.Am