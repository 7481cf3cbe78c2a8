import Derived.Test.YtmklpomcdnflbaaGreatAmDet3
import Derived.Test.YtmklpomcdnflbaaGreatAmArgs3
import Derived.Test.YtmklpomcdnflbaaGreatAmV
import Derived.Test.YtmklpomcdnflbaaGreatTLaw04
import Derived.Test.YtmklpomcdnflbaaGreatAmL
/- The laws of layer 4. -/
set_option linter.unusedVariables false
set_option maxRecDepth 10000
set_option linter.unusedSimpArgs false
namespace Go.Proofs.YtmklpomcdnflbaaGreat.Am
open Go

/-- Few bytes. -/
def shT (t : RT) : Prop := t.m.length ≤ 80 ∧ t.d.length ≤ 80
instance (t : RT) : Decidable (shT t) := by unfold shT; infer_instance
def shP (p : PT) : Prop := shT p.1 ∧ shT p.2
instance (p : PT) : Decidable (shP p) := by unfold shP; infer_instance
theorem byVal_frz {G : Prog} {h : Heap} {g : Nat} {a a' : AV} {r : Option AV} (hf : freeze h a = some a') (hn : noRef a = true) (hc : cv G g [a'] = r) : byVal (callW G) h g [a] = r := by
  rw [byVal_cv, mapM1 hf]
  have h2 : [a].all noRef = true := by simp [hn]
  simp only [Option.bind_some, hc, h2, Bool.true_or, if_true]
  cases r <;> rfl

section
variable {h : Heap}
theorem c_at4 {x y : Int} (h1 : -9223372036854775808 ≤ x) (h2 : x ≤ 9223372036854775807) (h3 : -9223372036854775808 ≤ y) (h4 : y ≤ 9223372036854775807) : byVal (callW gp) h fid.gussetlaw04_at [.int .i64 x, .int .i64 y] = some (pa (x : Rat) (y : Rat)) := byVal_imm (imm_L2 (imm_int.mono (by omega)) (imm_int.mono (by omega))) (by
  rw [gussetlaw04_at.eq]
  unfold gussetlaw04_at.f
  simp (disch := first | exact dD | fail) only [Wd, W2d, W3d, Nat.reduceAdd, Nat.reduceMul, Nat.reduceSub, k_3of])
theorem bslc_r2 {n m : Nat} {f g : Bool} {cs ds : List AV} : opBslc 1 2 [.is 0 true []] [(0, .is n f cs), (1, .is m g ds)] = some (.is 2 true [.is n f cs, .is m g ds]) := bslc_rows2
theorem live4_by : byVal (callW gp) h fid.gussetlaw04_live [] = some (.bool true) := byVal_imm (fun _ h => by cases h) (by
  rw [gussetlaw04_live.eq]
  unfold gussetlaw04_live.f
  have z : ∀ z : Int, -9223372036854775808 ≤ z → z ≤ 9223372036854775807 → Rz (z : Rat) 20 := fun z h1 h2 => (Rz_int h1 h2).mono (by omega)
  have z0 := (z 0 (by omega) (by omega)).mono (m := 3900) (by omega)
  have z1 := (z 1 (by omega) (by omega)).mono (m := 3900) (by omega)
  have d1 : ((1 : Int) : Rat) * ((1 : Int) : Rat) - ((0 : Int) : Rat) * ((0 : Int) : Rat) = ((1 : Int) : Rat) := by decide +kernel
  have d2 : detR 2 [[((1 : Int) : Rat), ((2 : Int) : Rat)], [((3 : Int) : Rat), ((4 : Int) : Rat)]] = ((-2 : Int) : Rat) := by rw [det2]; decide +kernel
  have k2 := fun h => byVal_frz (G := gp) (h := h) (g := fid.vec_Det) (a := .is 2 true [.is 2 true (rtc (rt ((1 : Int) : Rat)) ++ rtc (rt ((2 : Int) : Rat))), .is 2 true (rtc (rt ((3 : Int) : Rat)) ++ rtc (rt ((4 : Int) : Rat)))]) rfl rfl (Det_cv (mq := [[((1 : Int) : Rat), ((2 : Int) : Rat)], [((3 : Int) : Rat), ((4 : Int) : Rat)]]) (b := 20) (by omega) (by simp) (fun r hr q hq => by
    simp only [List.mem_cons, List.not_mem_nil, or_false] at hr
    rcases hr with rfl | rfl <;> (simp only [List.mem_cons, List.not_mem_nil, or_false] at hq; rcases hq with rfl | rfl) <;> exact z _ (by omega) (by omega)) (by decide))
  have k3 := fun h => byVal_frz (G := gp) (h := h) (g := fid.vec_Det) (a := .is 0 true []) rfl rfl (Det0_cv (m := []) (by simp) (by decide))
  have k4 := fun h => c_vcheck (h := h) (p := (⟨false, [], []⟩, ⟨false, [], []⟩)) ⟨⟨by simp, by simp⟩, ⟨by simp, by simp⟩⟩
  have e4 : pchk (⟨false, [], []⟩, ⟨false, [], []⟩) = 1 := by decide +kernel
  rw [e4] at k4
  rw [show [[((1 : Int) : Rat), ((2 : Int) : Rat)], [((3 : Int) : Rat), ((4 : Int) : Rat)]].length = 2 from rfl, d2] at k2
  unfold ptc rtc rt at *
  simp only [List.cons_append, List.nil_append] at *
  simp (disch := first | exact dD | fail) only [Wd, W2d, W3d, Nat.reduceAdd, Nat.reduceMul, Nat.reduceSub, c_at4, k_cross, k_3of, eqa_r, bslc_r2, k2, k3, d1, str_nil, k4])
theorem c_short4 {t : RT} : byVal (callW gp) h fid.gussetlaw04_short [.agg (rtc t)] = some (.bool (decide (shT t))) := byVal_imm (imm_L1 imm_r3) (by
  rw [gussetlaw04_short.eq]
  unfold gussetlaw04_short.f rtc
  by_cases h1 : t.m.length ≤ 80
  · by_cases h2 : t.d.length ≤ 80
    · rw [decide_eq_true (show shT t from ⟨h1, h2⟩)]
      have e : decide ((t.d.length : Int) ≤ 80) = true := decide_eq_true (by omega)
      simp (disch := first | exact dD | fail) only [Wd, W2d, W3d, Nat.reduceAdd, Nat.reduceMul, Nat.reduceSub, e]
    · rw [decide_eq_false (show ¬ shT t from fun h => h2 h.2)]
      have e : decide ((t.d.length : Int) ≤ 80) = false := decide_eq_false (by omega)
      simp (disch := first | exact dD | fail) only [Wd, W2d, W3d, Nat.reduceAdd, Nat.reduceMul, Nat.reduceSub, e]
  · rw [decide_eq_false (show ¬ shT t from fun h => h1 h.1)]
    simp (disch := first | exact dD | fail) only [Wd, W2d, W3d, Nat.reduceAdd, Nat.reduceMul, Nat.reduceSub])
theorem c_small4 {p : PT} : byVal (callW gp) h fid.gussetlaw04_small [.agg (ptc p)] = some (.bool (decide (shP p))) := byVal_imm (imm_L1 imm_pt) (by
  rw [gussetlaw04_small.eq]
  have e1 := fun h => c_short4 (h := h) (t := p.1)
  have e2 := fun h => c_short4 (h := h) (t := p.2)
  unfold gussetlaw04_small.f ptc
  unfold rtc at *
  by_cases h1 : shT p.1
  · rw [decide_eq_true h1] at e1
    have : decide (shP p) = decide (shT p.2) := by unfold shP; simp [h1]
    rw [this]
    simp (disch := first | exact dD | fail) only [Wd, W2d, W3d, Nat.reduceAdd, Nat.reduceMul, Nat.reduceSub, e1, e2]
  · rw [decide_eq_false h1] at e1
    rw [decide_eq_false (fun h : shP p => h1 h.1)]
    simp (disch := first | exact dD | fail) only [Wd, W2d, W3d, Nat.reduceAdd, Nat.reduceMul, Nat.reduceSub, e1, e2])
theorem pts2 {p q : PT} {f : Bool} (hp : p.ok) (hq : q.ok) : byVal (callW gp) h fid.gussetref04_Points [.is 2 f (ptc p ++ ptc q)] = some (.int .i64 (pchk2 p q)) := by
  have pts := k_4points (h := h) (xs := [p, q]) (f := f) (fun t ht => by
    simp only [List.mem_cons, List.not_mem_nil, or_false] at ht
    rcases ht with rfl | rfl <;> assumption) (by simp)
  have e : firstE ([p, q].map pchk) = pchk2 p q := by
    show (if pchk p = 0 then (if pchk q = 0 then 0 else pchk q) else pchk p) = _
    unfold pchk2
    by_cases h : pchk q = 0 <;> simp [h]
  rw [e] at pts
  simpa using pts
theorem PT.ratz8 {p : PT} (hp : p.ok) (hs : shP p) (h : pchk p = 0) : ∃ x y, p = (rt x, rt y) ∧ Rz x 80 ∧ Rz y 80 := PT.ratz hp h hs.1 hs.2
theorem z3n : opEqa false [.b, .s, .s] (.agg [.bool false, str [], str []]) (.agg [.bool false, str [], str []]) = some (.bool true) := by kernel_rfl
theorem z6n : opEqa false [.b, .s, .s, .b, .s, .s] (.agg [.bool false, str [], str [], .bool false, str [], str []]) (.agg [.bool false, str [], str [], .bool false, str [], str []]) = some (.bool true) := by kernel_rfl
end

theorem vecSquares_cv (p q : PT) (hp : p.ok) (hq : q.ok) : cv gp fid.gussetlaw04_VecSquares [.agg (ptc p), .agg (ptc q)] = some (.bool true) := by
  rw [gussetlaw04_VecSquares.eq]
  unfold gussetlaw04_VecSquares.f
  have s1 := fun h => c_small4 (h := h) (p := p)
  have s2 := fun h => c_small4 (h := h) (p := q)
  have pts := fun h f => pts2 (h := h) (f := f) hp hq
  by_cases h1 : shP p
  rotate_left
  · rw [decide_eq_false h1] at s1
    unfold ptc rtc at *
    simp only [List.cons_append, List.nil_append] at *
    simp (disch := first | exact dD | fail) only [Wd, W2d, W3d, Nat.reduceAdd, Nat.reduceMul, Nat.reduceSub, s1, live4_by]
  by_cases h2 : shP q
  rotate_left
  · rw [decide_eq_false h2] at s2
    rw [decide_eq_true h1] at s1
    unfold ptc rtc at *
    simp only [List.cons_append, List.nil_append] at *
    simp (disch := first | exact dD | fail) only [Wd, W2d, W3d, Nat.reduceAdd, Nat.reduceMul, Nat.reduceSub, s1, s2, live4_by]
  rw [decide_eq_true h1] at s1
  rw [decide_eq_true h2] at s2
  by_cases hc : pchk2 p q = 0
  rotate_left
  · generalize pchk2 p q = e at *
    unfold ptc rtc at *
    simp only [List.cons_append, List.nil_append] at *
    simp (disch := first | exact dD | fail) only [Wd, W2d, W3d, Nat.reduceAdd, Nat.reduceMul, Nat.reduceSub, s1, s2, pts, live4_by]
  obtain ⟨c1, c2⟩ := pchk2_zero.1 hc
  rw [hc] at pts
  obtain ⟨x, y, rfl, hx, hy⟩ := PT.ratz8 hp h1 c1
  obtain ⟨u, v, rfl, hu, hv⟩ := PT.ratz8 hq h2 c2
  have id : (x * u + y * v) * (x * u + y * v) + (x * v - y * u) * (x * v - y * u) = (x * x + y * y) * (u * u + v * v) := by grind
  unfold ptc rtc rt at *
  simp only [List.cons_append, List.nil_append] at *
  simp (disch := first | exact dE | fail) only [Wd, W2d, W3d, Nat.reduceAdd, Nat.reduceMul, Nat.reduceSub, s1, s2, pts, live4_by, k_dot, k_cross, k_norm, k_3sq, k_3sum, k_3mul, eqa_r]

theorem vecReckons_cv (p q : PT) (hp : p.ok) (hq : q.ok) : cv gp fid.gussetlaw04_VecReckons [.agg (ptc p), .agg (ptc q)] = some (.bool true) := by
  rw [gussetlaw04_VecReckons.eq]
  unfold gussetlaw04_VecReckons.f
  have s1 := fun h => c_small4 (h := h) (p := p)
  have s2 := fun h => c_small4 (h := h) (p := q)
  have pts := fun h f => pts2 (h := h) (f := f) hp hq
  by_cases h1 : shP p
  rotate_left
  · rw [decide_eq_false h1] at s1
    unfold ptc rtc at *
    simp only [List.cons_append, List.nil_append] at *
    simp (disch := first | exact dD | fail) only [Wd, W2d, W3d, Nat.reduceAdd, Nat.reduceMul, Nat.reduceSub, s1, live4_by]
  by_cases h2 : shP q
  rotate_left
  · rw [decide_eq_false h2] at s2
    rw [decide_eq_true h1] at s1
    unfold ptc rtc at *
    simp only [List.cons_append, List.nil_append] at *
    simp (disch := first | exact dD | fail) only [Wd, W2d, W3d, Nat.reduceAdd, Nat.reduceMul, Nat.reduceSub, s1, s2, live4_by]
  rw [decide_eq_true h1] at s1
  rw [decide_eq_true h2] at s2
  have k1 := fun h => c_4check (h := h) hp
  have k2 := fun h => c_vcheck (h := h) hp
  by_cases hc : pchk2 p q = 0
  · obtain ⟨c1, c2⟩ := pchk2_zero.1 hc
    rw [hc] at pts
    rw [c1] at k1 k2
    obtain ⟨x, y, rfl, hx, hy⟩ := PT.ratz8 hp h1 c1
    obtain ⟨u, v, rfl, hu, hv⟩ := PT.ratz8 hq h2 c2
    unfold ptc rtc rt at *
    simp only [List.cons_append, List.nil_append] at *
    simp (disch := first | exact dE | fail) only [Wd, W2d, W3d, Nat.reduceAdd, Nat.reduceMul, Nat.reduceSub, s1, s2, pts, live4_by, k_plus, k_minus, k_dot, k_cross, k_norm, k1, k2, k_4plus, k_4minus, k_4dot, k_4cross, k_4norm, eqa_p, eqa_r, and_self]
  · have e1 := fun h => k_plusE (h := h) hp hq hc
    have e2 := fun h => k_minusE (h := h) hp hq hc
    have e3 := fun h => k_dotE (h := h) hp hq hc
    have e4 := fun h => k_crossE (h := h) hp hq hc
    by_cases c1 : pchk p = 0
    · obtain ⟨x, y, rfl, hx, hy⟩ := PT.ratz8 hp h1 c1
      rw [c1] at k1 k2
      generalize pchk2 (rt x, rt y) q = e at *
      unfold ptc rtc rt at *
      simp only [List.cons_append, List.nil_append] at *
      simp (disch := first | exact dE | fail) only [Wd, W2d, W3d, Nat.reduceAdd, Nat.reduceMul, Nat.reduceSub, s1, s2, pts, live4_by, e1, e2, e3, e4, k_norm, k1, k2, str_nil, z3n, z6n]
    · have e5 := fun h => k_normE (h := h) hp c1
      generalize pchk2 p q = e at *
      generalize pchk p = e' at *
      unfold ptc rtc at *
      simp only [List.cons_append, List.nil_append] at *
      simp (disch := first | exact dE | fail) only [Wd, W2d, W3d, Nat.reduceAdd, Nat.reduceMul, Nat.reduceSub, s1, s2, pts, live4_by, e1, e2, e3, e4, e5, k1, k2, str_nil, z3n, z6n]

theorem vecScales_cv (p : PT) (t : RT) (hp : p.ok) (ht : t.ok) : cv gp fid.gussetlaw04_VecScales [.agg (ptc p), .agg (rtc t)] = some (.bool true) := by
  rw [gussetlaw04_VecScales.eq]
  unfold gussetlaw04_VecScales.f gussetlaw04_VecScales.j0
  have s1 := fun h => c_small4 (h := h) (p := p)
  have s2 := fun h => c_short4 (h := h) (t := t)
  by_cases h1 : shP p
  rotate_left
  · rw [decide_eq_false h1] at s1
    unfold ptc rtc at *
    simp only [List.cons_append, List.nil_append] at *
    simp (disch := first | exact dD | fail) only [Wd, W2d, W3d, Nat.reduceAdd, Nat.reduceMul, Nat.reduceSub, s1, live4_by]
  by_cases h2 : shT t
  rotate_left
  · rw [decide_eq_false h2] at s2
    rw [decide_eq_true h1] at s1
    unfold ptc rtc at *
    simp only [List.cons_append, List.nil_append] at *
    simp (disch := first | exact dD | fail) only [Wd, W2d, W3d, Nat.reduceAdd, Nat.reduceMul, Nat.reduceSub, s1, s2, live4_by]
  rw [decide_eq_true h1] at s1
  rw [decide_eq_true h2] at s2
  have k1 := fun h => c_4check (h := h) hp
  have k2 := fun h => c_3check (h := h) (s := t.s) ht.1 ht.2
  have ek : rchk t.s t.m t.d = t.chk := rfl
  simp only [ek] at k2
  have e2 : pchk2 p (t, t) = if pchk p = 0 then t.chk else pchk p := by
    unfold pchk2
    have : pchk (t, t) = t.chk := by unfold pchk; by_cases h : t.chk = 0 <;> simp [h]
    rw [this]
  by_cases hc : pchk2 p (t, t) = 0
  · rw [e2] at hc
    have c1 : pchk p = 0 := by
      apply Classical.byContradiction
      intro h
      rw [if_neg h] at hc
      exact h hc
    rw [if_pos c1] at hc
    rw [c1] at k1
    rw [hc] at k2
    obtain ⟨x, y, rfl, hx, hy⟩ := PT.ratz8 hp h1 c1
    obtain ⟨u, rfl, hu⟩ := RT.ratz ht hc h2
    unfold ptc rtc rt at *
    simp only [List.cons_append, List.nil_append] at *
    simp (disch := first | exact dE | fail) only [Wd, W2d, W3d, Nat.reduceAdd, Nat.reduceMul, Nat.reduceSub, s1, s2, live4_by, k_scale, k1, k2, k_4scale, eqa_p, and_self]
  · have e1 := fun h => k_scaleE (h := h) hp ht hc
    rw [e2] at e1 hc
    by_cases c1 : pchk p = 0
    · rw [if_pos c1] at hc
      simp only [if_pos c1] at e1
      rw [c1] at k1
      generalize t.chk = e at *
      unfold ptc rtc at *
      simp only [List.cons_append, List.nil_append] at *
      simp (disch := first | exact dE | fail) only [Wd, W2d, W3d, Nat.reduceAdd, Nat.reduceMul, Nat.reduceSub, s1, s2, live4_by, e1, k1, k2, str_nil, z6n]
    · simp only [if_neg c1] at e1
      generalize pchk p = e at *
      unfold ptc rtc at *
      simp only [List.cons_append, List.nil_append] at *
      simp (disch := first | exact dE | fail) only [Wd, W2d, W3d, Nat.reduceAdd, Nat.reduceMul, Nat.reduceSub, s1, s2, live4_by, e1, k1, str_nil, z6n]

/-! ### Determinants -/

def fewT (m : List (List RT)) : Prop := m.length ≤ 5 ∧ ∀ r ∈ m, r.length ≤ 5 ∧ ∀ t ∈ r, shT t
instance (m : List (List RT)) : Decidable (fewT m) := by unfold fewT; infer_instance
def allSh (l : List RT) : Prop := ∀ t ∈ l, shT t
instance (l : List RT) : Decidable (allSh l) := by unfold allSh; infer_instance
theorem few_l1 {m : List (List RT)} (hm : m.length ≤ 5) {i : Nat} (hi : i < m.length) (hr : m[i].length ≤ 5) {b : Bool} (hn : gussetlaw04_few.l0 (matV m) (.int .i64 ((i + 1 : Nat) : Int)) = some (.bool b)) :
    ∀ (d k : Nat), k + d = m[i].length → gussetlaw04_few.l1 (matV m) (.int .i64 (i : Int)) (.int .i64 (k : Int)) = some (.bool (decide (allSh (m[i].drop k)) && b)) := by
  intro d
  induction d with
  | zero =>
    intro k hk
    rw [gussetlaw04_few.l1_eq, idx_rows rfl hi, bind_s, load_ip, rc_one, bind_s, len_is, bind_s, bin_lss, bind_s, cond_d, if_neg (by omega), i_add1 (by omega), bind_s, List.drop_of_length_le (by omega)]
    rw [show decide (allSh ([] : List RT)) = true from decide_eq_true (fun t ht => by cases ht), Bool.true_and]
    exact hn
  | succ d ih =>
    intro k hk
    have hkl : k < m[i].length := by omega
    have hc := fun h => c_short4 (h := h) (t := m[i][k])
    unfold rtc at hc
    rw [gussetlaw04_few.l1_eq]
    rw [List.drop_eq_getElem_cons hkl]
    by_cases h0 : shT m[i][k]
    · rw [decide_eq_true h0] at hc
      simp (disch := first | exact dD | fail) only [Wd, W2d, W3d, Nat.reduceAdd, Nat.reduceMul, Nat.reduceSub, idx_rows rfl hi, num_row hkl, hc]
      rw [ih (k + 1) (by omega)]
      congr 3
      refine decide_eq_decide.2 ⟨fun h t ht => ?_, fun h t ht => h t (List.mem_cons_of_mem _ ht)⟩
      rcases List.mem_cons.1 ht with rfl | ht
      · exact h0
      · exact h t ht
    · rw [decide_eq_false h0] at hc
      simp (disch := first | exact dD | fail) only [Wd, W2d, W3d, Nat.reduceAdd, Nat.reduceMul, Nat.reduceSub, idx_rows rfl hi, num_row hkl, hc]
      rw [decide_eq_false fun h => h0 (h _ (List.mem_cons_self ..))]
      rfl
theorem few_l0 {m : List (List RT)} (hm : m.length ≤ 5) : ∀ (d i : Nat), i + d = m.length → gussetlaw04_few.l0 (matV m) (.int .i64 (i : Int)) = some (.bool (decide (∀ r ∈ m.drop i, r.length ≤ 5 ∧ ∀ t ∈ r, shT t))) := by
  intro d
  induction d with
  | zero =>
    intro i hi
    rw [gussetlaw04_few.l0_eq, len_is, bind_s, bin_lss, bind_s, cond_d, if_neg (by omega), List.drop_of_length_le (by omega)]
    simp [frz_bool]
  | succ d ih =>
    intro i hi
    have hil : i < m.length := by omega
    rw [gussetlaw04_few.l0_eq, len_is, bind_s, bin_lss, bind_s, cond_d, if_pos (by omega), idx_rows rfl hil, bind_s, load_ip, rc_one, bind_s, len_is, bind_s, bin_gtr, bind_s, cond_d]
    by_cases hr : m[i].length ≤ 5
    · rw [if_neg (by omega)]
      have := few_l1 hm hil hr (ih (i + 1) (by omega)) m[i].length 0 (by omega)
      refine Eq.trans this ?_
      rw [List.drop_eq_getElem_cons hil, List.drop_zero]
      congr 2
      rw [← Bool.decide_and]
      refine decide_eq_decide.2 ⟨fun ⟨h1, h2⟩ r hr' => ?_, fun h => ⟨(h _ (List.mem_cons_self ..)).2, fun r h2 => h r (List.mem_cons_of_mem _ h2)⟩⟩
      rcases List.mem_cons.1 hr' with rfl | h3
      · exact ⟨hr, h1⟩
      · exact h2 r h3
    · rw [if_pos (by omega), frz_bool]
      congr 2
      refine (decide_eq_false fun h => hr ?_).symm
      rw [List.drop_eq_getElem_cons hil] at h
      exact (h _ (List.mem_cons_self ..)).1
section
variable {h : Heap}
theorem c_few {m : List (List RT)} : byVal (callW gp) h fid.gussetlaw04_few [matV m] = some (.bool (decide (fewT m))) := byVal_imm (imm_L1 (imm_mat.mono (by omega))) (by
  rw [gussetlaw04_few.eq]
  unfold gussetlaw04_few.f
  by_cases h1 : m.length ≤ 5
  · rw [len_is, bind_s, bin_gtr, bind_s, cond_d, if_neg (by omega)]
    refine (few_l0 h1 m.length 0 (by omega)).trans ?_
    congr 2
    exact decide_eq_decide.2 ⟨fun h => ⟨h1, h⟩, fun h => h.2⟩
  · rw [len_is, bind_s, bin_gtr, bind_s, cond_d, if_pos (by omega), frz_bool, decide_eq_false fun h => h1 h.1])
end
/-- A matrix of few bytes, of numbers that may be. -/
theorem few_mats {m : List (List RT)} (hb : ∀ r ∈ m, ∀ t ∈ r, t.ok) (hf : fewT m) (h0 : firstE (m.flatten.map RT.chk) = 0) : ∃ mq : List (List Rat), m = mq.map (fun r => r.map rt) ∧ ∀ r ∈ mq, ∀ q ∈ r, Rz q 80 := by
  rw [firstE_zero] at h0
  exact mats_of m fun r hr t ht => ⟨hb r hr t ht, h0 _ (List.mem_map_of_mem (List.mem_flatten.2 ⟨r, hr, ht⟩)), (hf.2 r hr).2 t ht⟩
theorem bd80 {n : Nat} (h : n ≤ 4) : bd 80 (n - 1) ≤ 8000 := Nat.le_trans (bd_mono (k := 3) (by omega)) (by decide)

theorem vecDets_cv (m : List (List RT)) (hb : ∀ r ∈ m, ∀ t ∈ r, t.ok) : cv gp fid.gussetlaw04_VecDets [matV m] = some (.bool true) := by
  rw [gussetlaw04_VecDets.eq]
  unfold gussetlaw04_VecDets.f
  have s1 := fun h => c_few (h := h) (m := m)
  by_cases h1 : fewT m
  rotate_left
  · rw [decide_eq_false h1] at s1
    simp (disch := first | exact dD | fail) only [Wd, W2d, W3d, Nat.reduceAdd, Nat.reduceMul, Nat.reduceSub, s1, live4_by]
  rw [decide_eq_true h1] at s1
  have hl := h1.1
  have sq := fun h => c_4sq (h := h) (m := m) (by omega)
  by_cases h2 : sqT m
  rotate_left
  · rw [decide_eq_false h2] at sq
    have k1 := fun h => k_Det0 (h := h) (m := m) (by omega) h2
    simp (disch := first | exact dD | fail) only [Wd, W2d, W3d, Nat.reduceAdd, Nat.reduceMul, Nat.reduceSub, s1, sq, k1, live4_by, str_nil, z3n]
  rw [decide_eq_true h2] at sq
  have nu := fun h => c_4numbers (h := h) (m := m) (by omega) (fun r hr => by have := (h1.2 r hr).1; omega) hb
  by_cases h3 : firstE (m.flatten.map RT.chk) = 0
  · rw [h3] at nu
    obtain ⟨mq, rfl, hz⟩ := few_mats hb h1 h3
    have hs := sq_q h2
    have k1 := fun h => k_Det (h := h) (b := 80) (by omega) hs hz (bd80 hs.1.2)
    have k2 := fun h => k_4det (h := h) (b := 80) (by omega) hs hz (bd80 hs.1.2)
    simp (disch := first | exact dD | fail) only [Wd, W2d, W3d, Nat.reduceAdd, Nat.reduceMul, Nat.reduceSub, s1, sq, nu, k1, k2, live4_by, eqa_r]
  · have k1 := fun h => k_DetE (h := h) h2 hb rfl h3
    generalize firstE (m.flatten.map RT.chk) = e at *
    simp (disch := first | exact dD | fail) only [Wd, W2d, W3d, Nat.reduceAdd, Nat.reduceMul, Nat.reduceSub, s1, sq, nu, k1, live4_by, str_nil, z3n]
end Go.Proofs.YtmklpomcdnflbaaGreat.Am