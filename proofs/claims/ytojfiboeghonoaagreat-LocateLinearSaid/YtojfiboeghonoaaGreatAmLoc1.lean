import Derived.Test.YtojfiboeghonoaaGreatAmMesh7
/- Where points lie in a mesh: At, Fan. -/
set_option linter.unusedVariables false
set_option maxRecDepth 10000
set_option linter.unusedSimpArgs false
namespace Go.Proofs.YtojfiboeghonoaaGreat.Am
open Go

theorem imm_L2' {a b : AV} (ha : Imm 12 a) (hb : Imm 12 b) : ∀ x ∈ [a, b], Imm 12 x := imm_two ha hb
def wT (ps : List (Rat × Rat)) (t : Tr) (x y : Rat) : Int := withinQ (ipx ps t.1) (ipy ps t.1) (ipx ps t.2.1) (ipy ps t.2.1) (ipx ps t.2.2) (ipy ps t.2.2) x y
def atI (ps : List (Rat × Rat)) (ts : List Tr) (x y : Rat) : Nat → Nat → Option Nat
  | 0, _ => none
  | m + 1, i => if 0 ≤ wT ps (tat ts i) x y then some i else atI ps ts x y m (i + 1)
def atT (ps : List (Rat × Rat)) (ts : List Tr) (x y : Rat) (r : Option Nat) : Int := match r with | some i => (i : Int) | none => -1
def atW (ps : List (Rat × Rat)) (ts : List Tr) (x y : Rat) (r : Option Nat) : Int := match r with | some i => wT ps (tat ts i) x y | none => 0
theorem atI_some {ps : List (Rat × Rat)} {ts : List Tr} {x y : Rat} : ∀ {m i j : Nat}, atI ps ts x y m i = some j → i ≤ j ∧ j < i + m ∧ 0 ≤ wT ps (tat ts j) x y ∧ ∀ l, i ≤ l → l < j → wT ps (tat ts l) x y < 0
  | 0, _, _, h => by cases h
  | m + 1, i, j, h => by
    unfold atI at h
    split at h
    · cases h; exact ⟨Nat.le_refl _, by omega, ‹_›, fun l h1 h2 => by omega⟩
    · obtain ⟨h1, h2, h3, h4⟩ := atI_some h
      refine ⟨by omega, by omega, h3, fun l g1 g2 => ?_⟩
      by_cases hl : l = i
      · subst hl; omega
      · exact h4 l (by omega) g2
section
variable {h : Heap} {q : Mq} {i : Nat} {x y : Rat}
theorem k_lasked (hq : q.ok) {p : PT} (hp : p.ok) : byVal (callW gp) h fid.zf0y [.agg (msc q.ms), .agg (ptc p)] = some (.int .i64 (askc p)) := byVal_imm (imm_L2' imm_ms imm_pt) (by
  obtain ⟨z, hc⟩ := k_orient1 hp
  have kc := fun h => k_check (h := h) hq
  have r6 : readCells (ptc p) (some 6) = some (.agg (ptc p)) := Eq.trans rfl rfl
  rw [zf0y.eq]
  unfold zf0y.f
  simp (disch := first | exact dD | fail) only [Wd, W2d, W3d, Nat.reduceAdd, Nat.reduceMul, Nat.reduceSub, ms_rc, kc, neqF, r6, hc])
set_option maxHeartbeats 8000000 in
theorem at_l0 (hq : q.ok) (hx : Rz x 100) (hy : Rz y 100) : ∀ (m i : Nat) (H : Heap), i + m = q.ts.length → live H 0 = some (msc q.ms) → live H 1 = some (ptc (pc (x, y))) → locate_at.l0 (.rp 0 0) (.rp 1 0) (.is q.ts.length false (q.ts.flatMap tc)) (.int .i64 (q.ts.length : Int)) (.int .i64 (i : Int)) H = some (.tup [.int .i64 (atT q.ps q.ts x y (atI q.ps q.ts x y m i)), .int .i64 (atW q.ps q.ts x y (atI q.ps q.ts x y m i))]) := by
  have n1 := hq.n1
  have n2 := hq.n2
  have fa : ∀ k id off, opFaddr k (.rp id off) = some (.rp id (off + k)) := fun _ _ _ => rfl
  intro m
  induction m with
  | zero =>
    intro i H him h0 h1
    obtain rfl : i = q.ts.length := by omega
    rw [locate_at.l0_eq]
    simp (disch := first | exact dD | fail) only [Wd, W2d, W3d, Nat.reduceAdd, Nat.reduceMul, Nat.reduceSub, frz_tup2 (show freezeN 11 H (.int .i64 (-1)) = some _ from rfl) (show freezeN 11 H (.int .i64 0) = some _ from rfl)]
    rfl
  | succ m ih =>
    intro i H him h0 h1
    have hi : i < q.ts.length := by omega
    have e := tc_at hi
    have s := fun f cs => sidxN (sz := 3) (f := f) (cs := cs) hi
    have rd : ∀ T : List AV, readCells (.int .i64 (tat q.ts i).1 :: .int .i64 (tat q.ts i).2.1 :: .int .i64 (tat q.ts i).2.2 :: T) (some 3) = some (.agg (tc (tat q.ts i))) := fun T => Eq.trans rfl rfl
    have st := st_app3 (h := H) (z := [.int .i64 0, .int .i64 0, .int .i64 0]) (v := tc (tat q.ts i)) (n := 3) rfl ⟨rfl, rfl⟩
    have lk : opBin .lss (.int .i64 (i : Int)) (.int .i64 (q.ts.length : Int)) = some (.bool true) := lssT (by omega)
    have g0 := fun x => live_app_old (x := x) h0
    have g1 := fun x => live_app_old (x := x) h1
    have g := ih (i + 1) (H ++ [some (tc (tat q.ts i))]) (by omega) (g0 _) (g1 _)
    have a0' : ∀ id o, opAidx 1 3 (.rp id o) (.int .i64 0) = some (.rp id (o + 0)) := fun id o => aixR (i := 0) (by omega)
    have a1' : ∀ id o, opAidx 1 3 (.rp id o) (.int .i64 1) = some (.rp id (o + 1)) := fun id o => aixR (i := 1) (by omega)
    have a2' : ∀ id o, opAidx 1 3 (.rp id o) (.int .i64 2) = some (.rp id (o + 2)) := fun id o => aixR (i := 2) (by omega)
    obtain ⟨⟨⟨a0, a1⟩, ⟨b0, b1⟩, ⟨c0, c1⟩⟩, hA⟩ := hq.tr i hi
    have hz := hq.zp
    have r6 : readCells (ptc (pc (x, y))) (some 6) = some (pa x y) := Eq.trans rfl rfl
    rw [locate_at.l0_eq]
    unfold atI
    generalize ht : tat q.ts i = t at *
    have ea := pcs_at (ps := q.ps) (i := t.1.toNat) (by omega)
    have eb := pcs_at (ps := q.ps) (i := t.2.1.toNat) (by omega)
    have ec := pcs_at (ps := q.ps) (i := t.2.2.toNat) (by omega)
    have za := hz.x (i := t.1.toNat) (by omega)
    have zb := hz.x (i := t.2.1.toNat) (by omega)
    have zc := hz.x (i := t.2.2.toNat) (by omega)
    have kw := fun h => k_gwithin (h := h) (za.1.mono (by omega)) (za.2.mono (by omega)) (zb.1.mono (by omega)) (zb.2.mono (by omega)) (zc.1.mono (by omega)) (zc.2.mono (by omega)) hx hy (show area _ _ _ _ _ _ ≠ 0 from fun hh => by unfold areaT ipx ipy at hA; rw [hh] at hA; exact absurd hA (by decide))
    have sa := sidx_is (sz := 6) (n := q.ps.length) (f := false) (cs := pcs q.ps) (k := .i64) (z := t.1) a0 a1
    have sb := sidx_is (sz := 6) (n := q.ps.length) (f := false) (cs := pcs q.ps) (k := .i64) (z := t.2.1) b0 b1
    have sc := sidx_is (sz := 6) (n := q.ps.length) (f := false) (cs := pcs q.ps) (k := .i64) (z := t.2.2) c0 c1
    have kw : ∀ h, byVal (callW gp) h fid.zf1q _ = some (.tup [.int .i64 (wT q.ps t x y), .int .i64 0]) := kw
    by_cases hw : 0 ≤ wT q.ps t x y
    · rw [if_pos hw]
      simp (disch := first | exact dD | fail) only [Wd, W2d, W3d, Nat.reduceAdd, Nat.reduceMul, Nat.reduceSub, fa, lk, s, e, rd, st, g0, g1, mq_0, r6, a0', a1', a2', tc_0, tc_1, tc_2, live_app_self, sa, sb, sc, ea, eb, ec, kw, geqT hw, frz_tup2 (show freezeN 11 (H ++ [some (tc t)]) (.int .i64 (i : Int)) = some _ from rfl) (show freezeN 11 (H ++ [some (tc t)]) (.int .i64 (wT q.ps t x y)) = some _ from rfl)]
      show _ = some (AV.tup [.int .i64 (i : Int), .int .i64 (wT q.ps (tat q.ts i) x y)])
      rw [ht]
    · rw [if_neg hw]
      simp (disch := first | exact dD | fail) only [Wd, W2d, W3d, Nat.reduceAdd, Nat.reduceMul, Nat.reduceSub, fa, lk, s, e, rd, st, g0, g1, mq_0, r6, a0', a1', a2', tc_0, tc_1, tc_2, live_app_self, sa, sb, sc, ea, eb, ec, kw, geqF hw]
      exact g
theorem k_lat (hq : q.ok) (hx : Rz x 100) (hy : Rz y 100) : byVal (callW gp) h fid.locate_at [.agg (msc q.ms), pa x y] = some (.tup [.int .i64 (atT q.ps q.ts x y (atI q.ps q.ts x y q.ts.length 0)), .int .i64 (atW q.ps q.ts x y (atI q.ps q.ts x y q.ts.length 0))]) := byVal_imm (imm_L2' imm_ms imm_pa) (by
  have fa : ∀ k id off, opFaddr k (.rp id off) = some (.rp id (off + k)) := fun _ _ _ => rfl
  have g := at_l0 hq hx hy q.ts.length 0 [some (msc q.ms), some (ptc (pc (x, y)))] (by omega) rfl rfl
  rw [locate_at.eq]
  unfold locate_at.f
  simp (disch := first | exact dD | fail) only [Wd, W2d, W3d, Nat.reduceAdd, Nat.reduceMul, Nat.reduceSub, fa, mq_1]
  exact g)
theorem frz_tup3i {h : Heap} {a b c : Int} : freeze h (.tup [.int .i64 a, .int .i64 b, .int .i64 c]) = some (.tup [.int .i64 a, .int .i64 b, .int .i64 c]) := Eq.trans rfl rfl
theorem k_lAt (hq : q.ok) (hx : Rz x 100) (hy : Rz y 100) : byVal (callW gp) h fid.locate_At [.agg (msc q.ms), pa x y] = some (.tup [.int .i64 (atT q.ps q.ts x y (atI q.ps q.ts x y q.ts.length 0)), .int .i64 (atW q.ps q.ts x y (atI q.ps q.ts x y q.ts.length 0)), .int .i64 0]) := byVal_imm (imm_L2' imm_ms imm_pa) (by
  have ka := fun h => k_lasked (h := h) hq (p := pc (x, y)) (pcm_ok [(x, y)] _ (by simp))
  have e : askc (pc (x, y)) = 0 := askc_rat hx hy
  rw [e] at ka
  have ka : ∀ h, byVal (callW gp) h fid.zf0y [.agg (msc q.ms), pa x y] = some (.int .i64 0) := ka
  have kt := fun h => k_lat (h := h) hq hx hy
  have r6 : readCells [.bool (decide (x.num < 0)), str (nb x.num.natAbs), str (nb x.den), .bool (decide (y.num < 0)), str (nb y.num.natAbs), str (nb y.den)] (some 6) = some (pa x y) := Eq.trans rfl rfl
  rw [locate_At.eq]
  unfold locate_At.f
  simp (disch := first | exact dD | fail) only [Wd, W2d, W3d, Nat.reduceAdd, Nat.reduceMul, Nat.reduceSub, ms_rc, r6, ka, neqF, kt, frz_tup3i])
end
def ints (l : List Int) : List AV := l.map fun z => .int .i64 z
theorem ints_len (l : List Int) : (ints l).length = l.length := by simp [ints]
theorem imm_ints (l : List Int) : ∀ c ∈ ints l, Imm 1 c := fun c hc => by
  obtain ⟨z, _, rfl⟩ := List.mem_map.1 hc
  exact imm_int
def RowI (H : Heap) (y : AV) (l : List Int) : Prop := (y = .is 0 true [] ∧ l = []) ∨ ∃ id, y = .rs 1 id 0 l.length ∧ live H id = some (ints l) ∧ l ≠ []
def FarI (y : AV) (id : Nat) : Prop := ∀ n, y ≠ .rs 1 id 0 n
theorem bsl1 {z : Int} : opBslc 1 1 [.int .i64 0] [(0, .int .i64 z)] = some (.is 1 true [.int .i64 z]) := Eq.trans rfl rfl
theorem RowI.app {H : Heap} {y : AV} {l : List Int} {z : Int} (hr : RowI H y l) (hn : l.length ≤ 1000000) : ∃ y' H', opApp H 1 y (.is 1 true [.int .i64 z]) = some (y', H') ∧ RowI H' y' (l ++ [z]) ∧ H.length ≤ H'.length ∧ ∀ id, id < H.length → FarI y id → live H' id = live H id ∧ FarI y' id := by
  rcases hr with ⟨rfl, rfl⟩ | ⟨id, rfl, hl, hne⟩
  · refine ⟨_, _, app_s0 (m := 1) (by simp) (by omega) (by omega) rfl, .inr ⟨H.length, rfl, live_app_self, by simp⟩, by simp, fun j hj hf => ⟨live_app_ne hj, fun n e => ?_⟩⟩
    cases e; exact absurd hj (by omega)
  · have hid := live_lt hl
    have ap := app_sr (h := H) (sz := 1) (id := id) (n := l.length) (m := 1) (f := true) (cs := [.int .i64 z]) hl (by rw [ints_len]; omega) (by simp) (by omega) (by omega) rfl
    refine ⟨_, _, ap, .inr ⟨H.length, by simp, ?_, by simp⟩, by simp, fun j hj hf => ⟨?_, fun n e => ?_⟩⟩
    · have e : ints (l ++ [z]) = ints l ++ [.int .i64 z] := by simp [ints]
      rw [e]
      have : (H.set id none).length = H.length := by simp
      rw [← this]; exact live_app_self
    · have hji : j ≠ id := fun e => hf _ (by rw [e])
      rw [live_app_ne (by simpa using hj)]
      unfold live
      rw [List.getElem?_set_ne (Ne.symm hji)]
    · cases e; omega
theorem RowI.frz {H : Heap} {y : AV} {l : List Int} (hr : RowI H y l) : freezeN 11 H y = some (.is l.length false (ints l)) := by
  rcases hr with ⟨rfl, rfl⟩ | ⟨id, rfl, hl, hne⟩
  · rfl
  · have e : freezeN 11 H (.rs 1 id 0 l.length) = (live H id).bind fun cs => if 0 + l.length * 1 ≤ cs.length then (((cs.drop 0).take (l.length * 1)).mapM (freezeN 10 H)).map (.is l.length false) else none := rfl
    rw [e, hl, Option.bind_some, if_pos (by rw [ints_len]; omega), List.drop_zero, List.take_of_length_le (by rw [ints_len]; omega), imm_mapM (imm_ints l) (by omega)]
    rfl
theorem RowI.len {H : Heap} {y : AV} {l : List Int} (hr : RowI H y l) : opLen false y = some (.int .i64 (l.length : Int)) := by
  rcases hr with ⟨rfl, rfl⟩ | ⟨id, rfl, _, _⟩ <;> rfl
theorem RowI.keep {H H' : Heap} {y : AV} {l : List Int} (hr : RowI H y l) (h : ∀ id, (∃ n, y = .rs 1 id 0 n) → live H' id = live H id) : RowI H' y l := by
  rcases hr with ⟨rfl, rfl⟩ | ⟨id, rfl, hl, hne⟩
  · exact .inl ⟨rfl, rfl⟩
  · exact .inr ⟨id, rfl, by rw [h id ⟨_, rfl⟩]; exact hl, hne⟩
end Go.Proofs.YtojfiboeghonoaaGreat.Am
