import Derived.Test.YtechbfodaallkaaGreatAmWell3
/- Well: points on segments, holes, the first thing that is wrong. -/
set_option linter.unusedVariables false
set_option maxRecDepth 10000
set_option linter.unusedSimpArgs false
namespace Go.Proofs.YtechbfodaallkaaGreat.Am
open Go

/-- A plan whose numbers may be asked. -/
structure Pq where
  ps : List (Rat × Rat)
  ss : List Sq
  hs : List (Rat × Rat)
  F : R6
  G : R6
def Pq.pl (q : Pq) : Pl := ⟨q.ps.map pc, q.ss.map sq_, q.hs.map pc, q.F, q.G⟩
structure Pq.ok (q : Pq) : Prop where
  zp : PsZ q.ps 100
  zh : PsZ q.hs 100
  sg : ∀ s ∈ q.ss, SqOk q.ps.length s
  F : q.F.ok
  G : q.G.ok
  n1 : q.ps.length ≤ 100000
  n2 : q.ss.length ≤ 100000
  n3 : q.hs.length ≤ 100000
theorem pc_ok (p : Rat × Rat) : (pc p).ok := ⟨⟨nb_lt _, nb_lt _⟩, ⟨nb_lt _, nb_lt _⟩⟩
theorem pcm_ok (ps : List (Rat × Rat)) : ∀ t ∈ ps.map pc, t.ok := fun t ht => by
  obtain ⟨p, _, rfl⟩ := List.mem_map.1 ht
  exact pc_ok p
theorem Pq.plok {q : Pq} (h : q.ok) : q.pl.ok := ⟨pcm_ok _, pcm_ok _, h.F, h.G, by show (q.ps.map pc).length ≤ _; rw [List.length_map]; exact h.n1, by show (q.ss.map sq_).length ≤ _; rw [List.length_map]; exact h.n2, by show (q.hs.map pc).length ≤ _; rw [List.length_map]; exact h.n3⟩
section
variable {q : Pq}
theorem plq_0 : readCells (plc q.pl) none = some (.is q.ps.length false (pcs q.ps)) := by
  rw [plc_0]; unfold pcs Pq.pl; simp only [List.length_map]
theorem plq_1 : readCells (List.drop 1 (plc q.pl)) none = some (.is q.ss.length false (scs q.ss)) := by
  rw [plc_1]; unfold scs Pq.pl; simp only [List.length_map]
theorem plq_2 : readCells (List.drop 2 (plc q.pl)) none = some (.is q.hs.length false (pcs q.hs)) := by
  rw [plc_2]; unfold pcs Pq.pl; simp only [List.length_map]
end
theorem sat_ok {q : Pq} (h : q.ok) {i : Nat} (hi : i < q.ss.length) : SqOk q.ps.length (sat q.ss i) := by
  have e : q.ss.getD i (0, 0, false) = q.ss[i] := by simp [List.getD, List.getElem?_eq_getElem hi]
  unfold sat; rw [e]; exact h.sg _ (List.getElem_mem hi)
/-! ### Points on segments -/
def onI (ps : List (Rat × Rat)) (s : Sq) (x y : Rat) : Bool := decide (onP (px ps s.1) (py ps s.1) (px ps s.2.1) (py ps s.2.1) x y)
def thrI (ps : List (Rat × Rat)) (s : Sq) (k : Nat) : Bool := decide (¬ (k : Int) = s.1) && (decide (¬ (k : Int) = s.2.1) && onI ps s (px ps k) (py ps k))
/-- The first pair of all. -/
def pairG (n : Nat) (P : Nat → Nat → Bool) : Nat → Nat → Option (Nat × Nat)
  | 0, _ => none
  | m + 1, i => match scan (P i) n 0 with
    | some k => some (i, k)
    | none => pairG n P m (i + 1)
theorem thr_l1 {q : Pq} (h : q.ok) {i j : Nat} {s : Sq} (hs : SqOk q.ps.length s) {RR : Option AV} {y8 y9 : AV} : ∀ (m k : Nat) (hh : Heap), k + m = q.ps.length → 1 < hh.length → live hh 0 = some (plc q.pl) → live hh 1 = some z3i → j < hh.length → live hh j = some [.int .i64 (s.1 : Int), .int .i64 (s.2.1 : Int), .bool s.2.2] →
    (∀ hh', 1 < hh'.length → live hh' 0 = some (plc q.pl) → live hh' 1 = some z3i → well_through.l0 (.rp 0 0) (.rp 1 0) y8 y9 (.int .i64 ((i + 1 : Nat) : Int)) hh' = RR) → i ≤ 100000 →
    well_through.l1 (.rp 0 0) (.rp 1 0) (.int .i64 (i : Int)) (.rp j 0) y8 y9 (.int .i64 (i : Int)) (.is q.ps.length false (pcs q.ps)) (.int .i64 q.ps.length) (.int .i64 (k : Int)) hh = match scan (thrI q.ps s) m k with | some k' => some (fd 9 i k') | none => RR := by
  have n1 := h.n1
  obtain ⟨a, b, f⟩ := s
  obtain ⟨sa, sb, _⟩ := hs
  simp only at sa sb
  have ea := pcs_at sa
  have eb := pcs_at sb
  intro m
  induction m with
  | zero =>
    intro k hh hkm h0 hl0 hl1 hj hlj hR hi
    obtain rfl : k = q.ps.length := by omega
    rw [well_through.l1_eq]
    simp (disch := first | exact dD | fail) only [Wd, W2d, W3d, Nat.reduceAdd, Nat.reduceMul, Nat.reduceSub]
    exact hR hh h0 hl0 hl1
  | succ m ih =>
    intro k hh hkm h0 hl0 hl1 hj hlj hR hi
    have hk : k < q.ps.length := by omega
    rw [well_through.l1_eq]
    have e1 := pcs_at hk
    have a0 : ∀ x, live (hh ++ [x]) 0 = some (plc q.pl) := fun x => lv_app (by omega) hl0
    have a1 : ∀ x, live (hh ++ [x]) 1 = some z3i := fun x => lv_app h0 hl1
    have aj : ∀ x, live (hh ++ [x]) j = some [.int .i64 (a : Int), .int .i64 (b : Int), .bool f] := fun x => lv_app hj hlj
    have av : ∀ x cs, live ((hh ++ [x]).set 1 (some cs)) 1 = some cs := fun x cs => live_set_self (a1 x)
    have g := fun x => ih (k + 1) (hh ++ [x]) (by omega) (by rw [List.length_append]; omega) (a0 x) (a1 x) (by rw [List.length_append]; omega) (aj x) hR hi
    have ko := fun h' => c_won (h := h') (h.zp.x sa).1 (h.zp.x sa).2 (h.zp.x sb).1 (h.zp.x sb).2 (h.zp.x hk).1 (h.zp.x hk).2
    rw [scan]
    unfold thrI onI at *
    simp only at g ko ⊢
    by_cases q1 : (k : Int) = a
    · rw [decide_eq_false (not_not_intro q1), Bool.false_and, if_neg (by decide)]
      simp (disch := first | exact dD | fail) only [Wd, W2d, W3d, Nat.reduceAdd, Nat.reduceMul, Nat.reduceSub, e1, ea, eb, set_app_self, live_app_self, a0, a1, aj, plq_0, cond_d, decide_eq_true q1, decide_eq_false (not_not_intro q1), ko]
      exact g _
    rw [decide_eq_true q1, Bool.true_and]
    by_cases q2 : (k : Int) = b
    · rw [decide_eq_false (not_not_intro q2), Bool.false_and, if_neg (by decide)]
      simp (disch := first | exact dD | fail) only [Wd, W2d, W3d, Nat.reduceAdd, Nat.reduceMul, Nat.reduceSub, e1, ea, eb, set_app_self, live_app_self, a0, a1, aj, plq_0, cond_d, decide_eq_true q1, decide_eq_false (not_not_intro q2), ko]
      exact g _
    rw [decide_eq_true q2, Bool.true_and]
    generalize decide (onP (px q.ps a) (py q.ps a) (px q.ps b) (py q.ps b) (px q.ps k) (py q.ps k)) = o at *
    cases o
    · rw [if_neg (by decide)]
      simp (disch := first | exact dD | fail) only [Wd, W2d, W3d, Nat.reduceAdd, Nat.reduceMul, Nat.reduceSub, e1, ea, eb, set_app_self, live_app_self, a0, a1, aj, plq_0, decide_eq_true q1, decide_eq_true q2, ko]
      exact g _
    · rw [if_pos rfl]
      simp (disch := first | exact dD | fail) only [Wd, W2d, W3d, Nat.reduceAdd, Nat.reduceMul, Nat.reduceSub, e1, ea, eb, set_app_self, live_app_self, a0, a1, aj, av, plq_0, decide_eq_true q1, decide_eq_true q2, ko, frz_i3]
theorem thr_l0 {q : Pq} (h : q.ok) : ∀ (m i : Nat) (hh : Heap), i + m = q.ss.length → 1 < hh.length → live hh 0 = some (plc q.pl) → live hh 1 = some z3i →
    well_through.l0 (.rp 0 0) (.rp 1 0) (.is q.ss.length false (scs q.ss)) (.int .i64 q.ss.length) (.int .i64 (i : Int)) hh = some (found 9 (pairG q.ps.length (fun i k => thrI q.ps (sat q.ss i) k) m i)) := by
  have n1 := h.n1
  have n2 := h.n2
  intro m
  induction m with
  | zero =>
    intro i hh him h0 hl0 hl1
    obtain rfl : i = q.ss.length := by omega
    have av : ∀ cs, live (hh.set 1 (some cs)) 1 = some cs := fun cs => live_set_self hl1
    rw [well_through.l0_eq]
    simp (disch := first | exact dD | fail) only [Wd, W2d, W3d, Nat.reduceAdd, Nat.reduceMul, Nat.reduceSub, hl1, av, frz_i3]
    rfl
  | succ m ih =>
    intro i hh him h0 hl0 hl1
    have hi : i < q.ss.length := by omega
    rw [well_through.l0_eq]
    have e1 := scs_at hi
    have a0 : ∀ x, live (hh ++ [x]) 0 = some (plc q.pl) := fun x => lv_app (by omega) hl0
    have a1 : ∀ x, live (hh ++ [x]) 1 = some z3i := fun x => lv_app h0 hl1
    have g := thr_l1 (y8 := .is q.ss.length false (scs q.ss)) (y9 := .int .i64 q.ss.length) (i := i) (j := hh.length) h (sat_ok h hi) q.ps.length 0 (hh ++ [some [.int .i64 ((sat q.ss i).1 : Int), .int .i64 ((sat q.ss i).2.1 : Int), .bool (sat q.ss i).2.2]]) (by omega) (by rw [List.length_append]; omega) (a0 _) (a1 _) (by rw [List.length_append]; simp) live_app_self (fun hh' q1 q2 q3 => ih (i + 1) hh' (by omega) q1 q2 q3) (by omega)
    simp (disch := first | exact dD | fail) only [Wd, W2d, W3d, Nat.reduceAdd, Nat.reduceMul, Nat.reduceSub, e1, set_app_self, live_app_self, a0, plq_0]
    refine g.trans ?_
    rw [pairG]
    cases scan (fun k => thrI q.ps (sat q.ss i) k) q.ps.length 0 <;> rfl
theorem k_through {h : Heap} {q : Pq} (hq : q.ok) : byVal (callW gp) h fid.well_through [.agg (plc q.pl)] = some (fdv (foundF 9 (pairG q.ps.length (fun i k => thrI q.ps (sat q.ss i) k) q.ss.length 0))) := byVal_imm (imm_L1 imm_pl) (by
  rw [well_through.eq, ← found_eq]
  unfold well_through.f
  have l := thr_l0 hq q.ss.length 0
  simp (disch := first | exact dD | fail) only [Wd, W2d, W3d, Nat.reduceAdd, Nat.reduceMul, Nat.reduceSub, plq_1]
  exact l _ (by omega) (by simp) rfl rfl)
/-! ### Holes -/
def eqN (ps : List (Rat × Rat)) (x y : Rat) (k : Nat) : Bool := decide (x = px ps k ∧ y = py ps k)
def ixV : Option Nat → AV
  | some k => .int .i64 (k : Int)
  | none => .int .i64 (-1)
theorem index_l0 {ps : List (Rat × Rat)} {x y : Rat} {f : Bool} (hn : ps.length ≤ 100000) : ∀ (m k : Nat), k + m = ps.length →
    slices_Index_Lapi_Point_api_Point.l0 (.is ps.length f (pcs ps)) (.rp 0 0) (.int .i64 ps.length) (.int .i64 (k : Int)) [some [.bool (decide (x.num < 0)), str (nb x.num.natAbs), str (nb x.den), .bool (decide (y.num < 0)), str (nb y.num.natAbs), str (nb y.den)]] = some (ixV (scan (eqN ps x y) m k)) := by
  intro m
  induction m with
  | zero =>
    intro k hkm
    obtain rfl : k = ps.length := by omega
    rw [slices_Index_Lapi_Point_api_Point.l0_eq]
    simp (disch := first | exact dD | fail) only [Wd, W2d, W3d, Nat.reduceAdd, Nat.reduceMul, Nat.reduceSub]
    rfl
  | succ m ih =>
    intro k hkm
    have hk : k < ps.length := by omega
    have e1 := pcs_at hk
    rw [slices_Index_Lapi_Point_api_Point.l0_eq, scan]
    have eq := @eqa_p x y (px ps k) (py ps k)
    unfold eqN at *
    by_cases q : x = px ps k ∧ y = py ps k
    · rw [decide_eq_true q] at eq ⊢
      rw [if_pos rfl]
      simp (disch := first | exact dD | fail) only [Wd, W2d, W3d, Nat.reduceAdd, Nat.reduceMul, Nat.reduceSub, e1, eq]
      rfl
    · rw [decide_eq_false q] at eq ⊢
      rw [if_neg (by decide)]
      simp (disch := first | exact dD | fail) only [Wd, W2d, W3d, Nat.reduceAdd, Nat.reduceMul, Nat.reduceSub, e1, eq]
      exact ih (k + 1) (by omega)
theorem k_index {h : Heap} {ps : List (Rat × Rat)} {x y : Rat} {f : Bool} (hn : ps.length ≤ 100000) : byVal (callW gp) h fid.slices_Index_Lapi_Point_api_Point [.is ps.length f (pcs ps), pa x y] = some (ixV (scan (eqN ps x y) ps.length 0)) := by
  have hc : cv gp fid.slices_Index_Lapi_Point_api_Point [.is ps.length false (pcs ps), pa x y] = some (ixV (scan (eqN ps x y) ps.length 0)) := by
    rw [slices_Index_Lapi_Point_api_Point.eq]
    unfold slices_Index_Lapi_Point_api_Point.f
    simp (disch := first | exact dD | fail) only [Wd, W2d, W3d, Nat.reduceAdd, Nat.reduceMul, Nat.reduceSub]
    exact index_l0 hn ps.length 0 (by omega)
  refine byVal_flat (xs := [.is ps.length false (pcs ps), pa x y]) ?_ hc ?_
  · have h1 : freeze h (.is ps.length f (pcs ps)) = some (.is ps.length false (pcs ps)) := by
      show freezeN 12 h _ = _
      rw [fz_is, imm_mapM (imm_pcs ps) (by omega)]; rfl
    simp only [List.mapM_cons, List.mapM_nil, h1, frz_p]
    rfl
  · cases scan (eqN ps x y) ps.length 0 <;> rfl
theorem geq_ix (o : Option Nat) : opBin .geq (ixV o) (.int .i64 0) = some (.bool o.isSome) := by
  cases o with
  | none => rfl
  | some k =>
    unfold ixV
    have : decide ((k : Int) ≥ 0) = true := decide_eq_true (by omega)
    simp (disch := first | exact dD | fail) only [Wd, W2d, W3d, Nat.reduceAdd, Nat.reduceMul, Nat.reduceSub]
    rfl
theorem k_wcontains {h : Heap} {ps : List (Rat × Rat)} {x y : Rat} {f : Bool} (hn : ps.length ≤ 100000) : byVal (callW gp) h fid.slices_Contains_Lapi_Point_api_Point [.is ps.length f (pcs ps), pa x y] = some (.bool (scan (eqN ps x y) ps.length 0).isSome) := by
  have hc : cv gp fid.slices_Contains_Lapi_Point_api_Point [.is ps.length false (pcs ps), pa x y] = some (.bool (scan (eqN ps x y) ps.length 0).isSome) := by
    rw [slices_Contains_Lapi_Point_api_Point.eq]
    unfold slices_Contains_Lapi_Point_api_Point.f
    simp (disch := first | exact dD | fail) only [Wd, W2d, W3d, Nat.reduceAdd, Nat.reduceMul, Nat.reduceSub, k_index, geq_ix]
  refine byVal_flat (xs := [.is ps.length false (pcs ps), pa x y]) ?_ hc rfl
  have h1 : freeze h (.is ps.length f (pcs ps)) = some (.is ps.length false (pcs ps)) := by
    show freezeN 12 h _ = _
    rw [fz_is, imm_mapM (imm_pcs ps) (by omega)]; rfl
  simp only [List.mapM_cons, List.mapM_nil, h1, frz_p]
  rfl
/-- What is called tells whether it holds of one. -/
def TellsH (ss : List Sq) (fv : AV) (P : Nat → Bool) : Prop := ∀ (k : Nat) (hk : k < ss.length) (h : Heap) (K : AV → Heap → Option AV), callK' (callW gp) gp.refm h fv [.agg [.int .i64 ((sat ss k).1 : Int), .int .i64 ((sat ss k).2.1 : Int), .bool (sat ss k).2.2]] K = K (.bool (P k)) h
theorem indexF_l0 {ss : List Sq} {fv : AV} {P : Nat → Bool} {f : Bool} (hP : TellsH ss fv P) (hn : ss.length ≤ 100000) : ∀ (m k : Nat), k + m = ss.length →
    slices_IndexFunc_Lapi_Seg_api_Seg.l0 (.is ss.length f (scs ss)) fv (.int .i64 ss.length) (.int .i64 (k : Int)) [] = some (ixV (scan P m k)) := by
  intro m
  induction m with
  | zero =>
    intro k hkm
    obtain rfl : k = ss.length := by omega
    rw [slices_IndexFunc_Lapi_Seg_api_Seg.l0_eq]
    simp (disch := first | exact dD | fail) only [Wd, W2d, W3d, Nat.reduceAdd, Nat.reduceMul, Nat.reduceSub]
    rfl
  | succ m ih =>
    intro k hkm
    have hk : k < ss.length := by omega
    have e1 := scs_at hk
    have hp := hP k hk
    rw [slices_IndexFunc_Lapi_Seg_api_Seg.l0_eq, scan]
    cases hb : P k
    · rw [hb] at hp
      rw [if_neg (by decide)]
      simp (disch := first | exact dD | fail) only [Wd, W2d, W3d, Nat.reduceAdd, Nat.reduceMul, Nat.reduceSub, e1, hp]
      exact ih (k + 1) (by omega)
    · rw [hb] at hp
      rw [if_pos rfl]
      simp (disch := first | exact dD | fail) only [Wd, W2d, W3d, Nat.reduceAdd, Nat.reduceMul, Nat.reduceSub, e1, hp]
      rfl
theorem c_containsF {h : Heap} {ss : List Sq} {x fx fv : AV} {P : Nat → Bool} (hP : TellsH ss fv P) (hn : ss.length ≤ 100000) (hx : freeze h x = some (.is ss.length false (scs ss))) (hf : freeze h fx = some fv) (hi : Imm 12 fv) : byVal (callW gp) h fid.slices_ContainsFunc_Lapi_Seg_api_Seg [x, fx] = some (.bool (scan P ss.length 0).isSome) := by
  have ki : ∀ h, byVal (callW gp) h fid.slices_IndexFunc_Lapi_Seg_api_Seg [.is ss.length false (scs ss), fv] = some (ixV (scan P ss.length 0)) := fun h => byVal_imm (imm_L2 ((imm_is (imm_scs ss)).mono (by omega)) hi) (by
    rw [slices_IndexFunc_Lapi_Seg_api_Seg.eq]
    unfold slices_IndexFunc_Lapi_Seg_api_Seg.f
    simp only [len_is, bind_s]
    exact indexF_l0 hP hn ss.length 0 (by omega))
  have hc : cv gp fid.slices_ContainsFunc_Lapi_Seg_api_Seg [.is ss.length false (scs ss), fv] = some (.bool (scan P ss.length 0).isSome) := by
    rw [slices_ContainsFunc_Lapi_Seg_api_Seg.eq]
    unfold slices_ContainsFunc_Lapi_Seg_api_Seg.f
    simp (disch := first | exact dD | fail) only [Wd, W2d, W3d, Nat.reduceAdd, Nat.reduceMul, Nat.reduceSub, ki, geq_ix]
  refine byVal_flat ?_ hc rfl
  simp only [List.mapM_cons, List.mapM_nil, hx, hf]
  rfl
/-- A point's cells. -/
def ptC (x y : Rat) : List AV := [.bool (decide (x.num < 0)), str (nb x.num.natAbs), str (nb x.den), .bool (decide (y.num < 0)), str (nb y.num.natAbs), str (nb y.den)]
theorem imm_ptC {x y : Rat} : ∀ c ∈ ptC x y, Imm 1 c := imm_ptc (rt x, rt y)
theorem tellsH {q : Pq} (h : q.ok) {x y : Rat} (hx : Rz x 100) (hy : Rz y 100) : TellsH q.ss (.fn fid.well_holes_1 [.ip (plc q.pl), .ip (ptC x y)]) (fun k => onI q.ps (sat q.ss k) x y) := by
  intro k hk hh K
  rw [callfn rfl]
  show _ = K (.bool (onI q.ps (sat q.ss k) x y)) hh
  have n1 := h.n1
  obtain ⟨a1, b1, _⟩ := sat_ok h hk
  generalize sat q.ss k = s at *
  obtain ⟨a, b, f⟩ := s
  simp only at a1 b1
  have ea := pcs_at a1
  have eb := pcs_at b1
  have ko := fun h' => c_won (h := h') (h.zp.x a1).1 (h.zp.x a1).2 (h.zp.x b1).1 (h.zp.x b1).2 hx hy
  have : byVal (callW gp) hh fid.well_holes_1 [.agg [.int .i64 (a : Int), .int .i64 (b : Int), .bool f], .ip (plc q.pl), .ip (ptC x y)] = some (.bool (onI q.ps (a, b, f) x y)) := byVal_imm (imm_L3 (imm_sg (s := ⟨a, b, f⟩)) ((imm_ip (imm_plc (p := q.pl))).mono (by omega)) ((imm_ip imm_ptC).mono (by omega))) (by
    rw [well_holes_1.eq]
    unfold well_holes_1.f onI ptC
    simp (disch := first | exact dD | fail) only [Wd, W2d, W3d, Nat.reduceAdd, Nat.reduceMul, Nat.reduceSub, plq_0, ea, eb, ko])
  show ((byVal (callW gp) hh fid.well_holes_1 [.agg [.int .i64 (a : Int), .int .i64 (b : Int), .bool f], .ip (plc q.pl), .ip (ptC x y)]).bind fun v => K v hh) = K (.bool (onI q.ps (a, b, f) x y)) hh
  rw [this]; rfl
/-- Does a hole's point lie on something? -/
def holeI (q : Pq) (i : Nat) : Bool := (scan (eqN q.ps (px q.hs i) (py q.hs i)) q.ps.length 0).isSome || (scan (fun k => onI q.ps (sat q.ss k) (px q.hs i) (py q.hs i)) q.ss.length 0).isSome
theorem frz_rp {h : Heap} {id d n : Nat} {cs : List AV} (hl : live h id = some cs) (hi : ∀ c ∈ cs, Imm d c) (hd : d ≤ n) : freezeN (n + 1) h (.rp id 0) = some (.ip cs) := by
  show ((live h id).bind fun cs => ((cs.drop 0).mapM (freezeN n h)).map AV.ip) = _
  rw [hl, Option.bind_some, List.drop_zero, imm_mapM hi hd]; rfl
theorem holes_l0 {q : Pq} (h : q.ok) : ∀ (m i : Nat) (hh : Heap), i + m = q.hs.length → 1 < hh.length → live hh 0 = some (plc q.pl) → live hh 1 = some z3i →
    well_holes.l0 (.rp 0 0) (.rp 1 0) (.is q.hs.length false (pcs q.hs)) (.int .i64 q.hs.length) (.int .i64 (i : Int)) hh = some (match scan (holeI q) m i with | some i' => fd 11 i' 0 | none => .agg z3i) := by
  have n1 := h.n1
  have n2 := h.n2
  have n3 := h.n3
  intro m
  induction m with
  | zero =>
    intro i hh him h0 hl0 hl1
    obtain rfl : i = q.hs.length := by omega
    have av : ∀ cs, live (hh.set 1 (some cs)) 1 = some cs := fun cs => live_set_self hl1
    rw [well_holes.l0_eq]
    simp (disch := first | exact dD | fail) only [Wd, W2d, W3d, Nat.reduceAdd, Nat.reduceMul, Nat.reduceSub, hl1, av, frz_i3]
    rfl
  | succ m ih =>
    intro i hh him h0 hl0 hl1
    have hi : i < q.hs.length := by omega
    rw [well_holes.l0_eq]
    have e1 := pcs_at hi
    obtain ⟨zx, zy⟩ := h.zh.x hi
    have a0 : ∀ x, live (hh ++ [x]) 0 = some (plc q.pl) := fun x => lv_app (by omega) hl0
    have a1 : ∀ x, live (hh ++ [x]) 1 = some z3i := fun x => lv_app h0 hl1
    have av : ∀ x cs, live ((hh ++ [x]).set 1 (some cs)) 1 = some cs := fun x cs => live_set_self (a1 x)
    have g := fun x => ih (i + 1) (hh ++ [x]) (by omega) (by rw [List.length_append]; omega) (a0 x) (a1 x)
    have th := tellsH h zx zy
    have hfz : freeze (hh ++ [some (ptC (px q.hs i) (py q.hs i))]) (.fn fid.well_holes_1 [.rp 0 0, .rp hh.length 0]) = some (.fn fid.well_holes_1 [.ip (plc q.pl), .ip (ptC (px q.hs i) (py q.hs i))]) := by
      show ([AV.rp 0 0, AV.rp hh.length 0].mapM (freezeN 11 _)).map _ = _
      have r1 := frz_rp (n := 10) (a0 (some (ptC (px q.hs i) (py q.hs i)))) (imm_plc (p := q.pl)) (by omega)
      have r2 := frz_rp (n := 10) (h := hh ++ [some (ptC (px q.hs i) (py q.hs i))]) (id := hh.length) live_app_self imm_ptC (by omega)
      simp only [List.mapM_cons, List.mapM_nil, r1, r2]
      rfl
    have hsz : freeze (hh ++ [some (ptC (px q.hs i) (py q.hs i))]) (.is q.ss.length false (scs q.ss)) = some (.is q.ss.length false (scs q.ss)) := by
      show freezeN 12 _ _ = _
      rw [fz_is, imm_mapM (imm_scs q.ss) (by omega)]; rfl
    have kf := c_containsF th h.n2 hsz hfz ((imm_fn (d := 3) (fun c hc => by
      rcases List.mem_cons.1 hc with rfl | hc
      · exact imm_ip (imm_plc (p := q.pl))
      · rcases List.mem_cons.1 hc with rfl | hc
        · exact (imm_ip imm_ptC).mono (by omega)
        · cases hc)).mono (by omega))
    have kc := fun h' => k_wcontains (h := h') (f := false) (x := px q.hs i) (y := py q.hs i) h.n1
    rw [scan]
    unfold holeI at *
    unfold ptC at kf
    cases b1 : (scan (eqN q.ps (px q.hs i) (py q.hs i)) q.ps.length 0).isSome
    rotate_left
    · rw [b1] at kc
      rw [Bool.true_or, if_pos rfl]
      simp (disch := first | exact dD | fail) only [Wd, W2d, W3d, Nat.reduceAdd, Nat.reduceMul, Nat.reduceSub, e1, set_app_self, live_app_self, a0, a1, av, plq_0, plq_1, kc, frz_i3]
    · rw [b1] at kc
      rw [Bool.false_or]
      cases b2 : (scan (fun k => onI q.ps (sat q.ss k) (px q.hs i) (py q.hs i)) q.ss.length 0).isSome
      · rw [b2] at kf
        rw [if_neg (by decide)]
        simp (disch := first | exact dD | fail) only [Wd, W2d, W3d, Nat.reduceAdd, Nat.reduceMul, Nat.reduceSub, e1, set_app_self, live_app_self, a0, a1, av, plq_0, plq_1, kc, kf]
        exact g _
      · rw [b2] at kf
        rw [if_pos rfl]
        simp (disch := first | exact dD | fail) only [Wd, W2d, W3d, Nat.reduceAdd, Nat.reduceMul, Nat.reduceSub, e1, set_app_self, live_app_self, a0, a1, av, plq_0, plq_1, kc, kf, frz_i3]
def holesF (q : Pq) : Fnd := match scan (holeI q) q.hs.length 0 with
  | some i => (11, i, 0)
  | none => (0, 0, 0)
theorem k_holes {h : Heap} {q : Pq} (hq : q.ok) : byVal (callW gp) h fid.well_holes [.agg (plc q.pl)] = some (fdv (holesF q)) := byVal_imm (imm_L1 imm_pl) (by
  rw [well_holes.eq]
  unfold well_holes.f holesF
  have l := holes_l0 hq q.hs.length 0
  simp (disch := first | exact dD | fail) only [Wd, W2d, W3d, Nat.reduceAdd, Nat.reduceMul, Nat.reduceSub, plq_2]
  refine (l _ (by omega) (by simp) rfl rfl).trans ?_
  cases scan (holeI q) q.hs.length 0 <;> rfl)
end Go.Proofs.YtechbfodaallkaaGreat.Am
