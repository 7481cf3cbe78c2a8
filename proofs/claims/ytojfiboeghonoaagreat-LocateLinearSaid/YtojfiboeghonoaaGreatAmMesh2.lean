import Derived.Test.YtojfiboeghonoaaGreatAmMesh1
import Derived.Test.YtojfiboeghonoaaGreatAmGeom3w
import Derived.Test.YtojfiboeghonoaaGreatTLaw12
/- Meshes, the document's answer: what may be. -/
set_option linter.unusedVariables false
set_option maxRecDepth 10000
set_option linter.unusedSimpArgs false
namespace Go.Proofs.YtojfiboeghonoaaGreat.Am
open Go

theorem lssF {x y : Int} (h : ¬ x < y) : opBin .lss (.int .i64 x) (.int .i64 y) = some (.bool false) := by rw [bin_lss, decide_eq_false h]
theorem lssT {x y : Int} (h : x < y) : opBin .lss (.int .i64 x) (.int .i64 y) = some (.bool true) := by rw [bin_lss, decide_eq_true h]
theorem geqF {x y : Int} (h : ¬ y ≤ x) : opBin .geq (.int .i64 x) (.int .i64 y) = some (.bool false) := by rw [bin_geq, decide_eq_false h]
theorem geqT {x y : Int} (h : y ≤ x) : opBin .geq (.int .i64 x) (.int .i64 y) = some (.bool true) := by rw [bin_geq, decide_eq_true h]
theorem gtrD {x y : Int} : opBin .gtr (.int .i64 x) (.int .i64 y) = some (.bool (decide (y < x))) := bin_gtr
theorem tc_0 {t : Tr} : readCells (tc t) none = some (.int .i64 t.1) := Eq.trans rfl rfl
theorem tc_1 {t : Tr} : readCells (List.drop 1 (tc t)) none = some (.int .i64 t.2.1) := Eq.trans rfl rfl
theorem tc_2 {t : Tr} : readCells (List.drop 2 (tc t)) none = some (.int .i64 t.2.2) := Eq.trans rfl rfl
theorem aixR {sz n id o : Nat} {i : Nat} (h : i < n) : opAidx sz n (.rp id o) (.int .i64 (i : Int)) = some (.rp id (o + i * sz)) := by
  have h1 : (0 : Int) ≤ (i : Int) := by omega
  have h2 : (i : Int) < (n : Int) := by omega
  simp [opAidx, h1, h2, h]
section
variable {m : Ms} {h : Heap} {i : Nat} {ps : List (Rat × Rat)} {ts : List Tr} {ss : List Sg}
theorem cor_co {t : Tr} {k : Nat} (hk : k < 3) : readCells (List.drop k (tc t)) none = some (.int .i64 (co t k)) := by
  rcases (by omega : k = 0 ∨ k = 1 ∨ k = 2) with rfl | rfl | rfl <;> rfl
theorem cor_step {t : Tr} {n k : Nat} (hk : k < 3) {x : Option (List AV)} : zf1n.l0 (.rp 0 0) (.int .i64 (n : Int)) (.rp 1 0) (.int .i64 (k : Int)) [x, some (tc t)] = if InR n (co t k) then zf1n.l0 (.rp 0 0) (.int .i64 (n : Int)) (.rp 1 0) (.int .i64 ((k + 1 : Nat) : Int)) [x, some (tc t)] else some (.bool false) := by
  have e := cor_co (t := t) hk
  have a := fun o => aixR (sz := 1) (id := 1) (o := o) hk
  have lk : opBin .lss (.int .i64 (k : Int)) (.int .i64 3) = some (.bool true) := lssT (by omega)
  rw [zf1n.l0_eq]
  generalize co t k = c at *
  by_cases h1 : c < 0
  · rw [if_neg (show ¬ InR n c from fun g => by unfold InR at g; omega)]
    simp (disch := first | exact dD | fail) only [Wd, W2d, W3d, Nat.reduceAdd, Nat.reduceMul, Nat.reduceSub, lk, a, e, lssT h1]
  · by_cases h2 : (n : Int) ≤ c
    · rw [if_neg (show ¬ InR n c from fun g => by unfold InR at g; omega)]
      simp (disch := first | exact dD | fail) only [Wd, W2d, W3d, Nat.reduceAdd, Nat.reduceMul, Nat.reduceSub, lk, a, e, lssF h1, geqT h2]
    · rw [if_pos (show InR n c from ⟨by omega, by omega⟩)]
      simp (disch := first | exact dD | fail) only [Wd, W2d, W3d, Nat.reduceAdd, Nat.reduceMul, Nat.reduceSub, lk, a, e, lssF h1, geqF h2]
set_option maxHeartbeats 4000000 in
theorem k_corners (hz : PsZ ps 100) (hi : i < ts.length) : byVal (callW gp) h fid.zf1n [.agg (msc ⟨ps.map pc, ts, ss⟩), .int .i64 (i : Int)] = some (.bool (decide (TrOk ps (tat ts i)))) := byVal_imm (imm_L2 imm_ms imm_i) (by
  have fa : ∀ k id off, opFaddr k (.rp id off) = some (.rp id (off + k)) := fun _ _ _ => rfl
  have e := tc_at hi
  have s := fun f cs => sidxN (sz := 3) (f := f) (cs := cs) hi
  have m0 := mq_0 (q := ⟨ps, ts, ss⟩)
  have m1 := mq_1 (q := ⟨ps, ts, ss⟩)
  have rd : ∀ T : List AV, readCells (.int .i64 (tat ts i).1 :: .int .i64 (tat ts i).2.1 :: .int .i64 (tat ts i).2.2 :: T) (some 3) = some (.agg (tc (tat ts i))) := fun T => Eq.trans rfl rfl
  have st := st_app3 (h := [some (msc (⟨ps, ts, ss⟩ : Mq).ms)]) (z := [.int .i64 0, .int .i64 0, .int .i64 0]) (v := tc (tat ts i)) (n := 3) rfl ⟨rfl, rfl⟩
  show cv gp fid.zf1n [.agg (msc (⟨ps, ts, ss⟩ : Mq).ms), .int .i64 (i : Int)] = _
  rw [zf1n.eq]
  unfold zf1n.f
  simp only [List.length_cons, List.length_nil, List.cons_append, List.nil_append, Nat.zero_add] at st
  simp (disch := first | exact dD | fail) only [Wd, W2d, W3d, Nat.reduceAdd, Nat.reduceMul, Nat.reduceSub, fa, m0, m1, s, e, rd, st]
  generalize tat ts i = t at *
  have s0 := cor_step (t := t) (n := ps.length) (k := 0) (by omega) (x := some (msc (⟨ps, ts, ss⟩ : Mq).ms))
  have s1 := cor_step (t := t) (n := ps.length) (k := 1) (by omega) (x := some (msc (⟨ps, ts, ss⟩ : Mq).ms))
  have s2 := cor_step (t := t) (n := ps.length) (k := 2) (by omega) (x := some (msc (⟨ps, ts, ss⟩ : Mq).ms))
  refine Eq.trans s0 ?_
  by_cases h0 : InR ps.length (co t 0)
  rotate_left
  · rw [if_neg h0, decide_eq_false (fun g => h0 g.1.1)]
  rw [if_pos h0, s1]
  by_cases h1 : InR ps.length (co t 1)
  rotate_left
  · rw [if_neg h1, decide_eq_false (fun g => h1 g.1.2.1)]
  rw [if_pos h1, s2]
  by_cases h2 : InR ps.length (co t 2)
  rotate_left
  · rw [if_neg h2, decide_eq_false (fun g => h2 g.1.2.2)]
  rw [if_pos h2, zf1n.l0_eq]
  have h0 : InR ps.length t.1 := h0
  have h1 : InR ps.length t.2.1 := h1
  have h2 : InR ps.length t.2.2 := h2
  have q0 := h0
  have q1 := h1
  have q2 := h2
  obtain ⟨a0, a1⟩ := q0
  obtain ⟨b0, b1⟩ := q1
  obtain ⟨c0, c1⟩ := q2
  have ea := pcs_at (ps := ps) (i := t.1.toNat) (by omega)
  have eb := pcs_at (ps := ps) (i := t.2.1.toNat) (by omega)
  have ec := pcs_at (ps := ps) (i := t.2.2.toNat) (by omega)
  have za := hz.x (i := t.1.toNat) (by omega)
  have zb := hz.x (i := t.2.1.toNat) (by omega)
  have zc := hz.x (i := t.2.2.toNat) (by omega)
  have ko := fun h => k_5orient (h := h) (za.1.mono (by omega)) (za.2.mono (by omega)) (zb.1.mono (by omega)) (zb.2.mono (by omega)) (zc.1.mono (by omega)) (zc.2.mono (by omega))
  have lk : opBin .lss (.int .i64 ((2 + 1 : Nat) : Int)) (.int .i64 3) = some (.bool false) := rfl
  have a0' : ∀ o, opAidx 1 3 (.rp 1 o) (.int .i64 0) = some (.rp 1 (o + 0)) := fun o => aixR (i := 0) (by omega)
  have a1' : ∀ o, opAidx 1 3 (.rp 1 o) (.int .i64 1) = some (.rp 1 (o + 1)) := fun o => aixR (i := 1) (by omega)
  have a2' : ∀ o, opAidx 1 3 (.rp 1 o) (.int .i64 2) = some (.rp 1 (o + 2)) := fun o => aixR (i := 2) (by omega)
  have hd : decide (TrOk ps t) = decide (0 < rsgn (areaT ps t)) := by
    refine decide_eq_decide.2 ⟨fun g => ?_, fun g => ⟨⟨h0, h1, h2⟩, ?_⟩⟩
    · have := g.2
      have h5 := @rsgn_le (areaT ps t)
      have : ¬ rsgn (areaT ps t) ≤ 0 := fun hh => by have := h5.1 hh; grind
      omega
    · have h5 := @rsgn_le (areaT ps t)
      have : ¬ areaT ps t ≤ 0 := fun hh => by have := h5.2 hh; omega
      grind
  have sa := sidx_is (sz := 6) (n := ps.length) (f := false) (cs := pcs ps) (k := .i64) (z := t.1) a0 a1
  have sb := sidx_is (sz := 6) (n := ps.length) (f := false) (cs := pcs ps) (k := .i64) (z := t.2.1) b0 b1
  have sc := sidx_is (sz := 6) (n := ps.length) (f := false) (cs := pcs ps) (k := .i64) (z := t.2.2) c0 c1
  rw [hd]
  unfold areaT ipx ipy
  simp (disch := first | exact dD | fail) only [Wd, W2d, W3d, Nat.reduceAdd, Nat.reduceMul, Nat.reduceSub, lk, fa, m0, a0', a1', a2', tc_0, tc_1, tc_2, sa, sb, sc, ea, eb, ec, ko, gtrD])
end
end Go.Proofs.YtojfiboeghonoaaGreat.Am
