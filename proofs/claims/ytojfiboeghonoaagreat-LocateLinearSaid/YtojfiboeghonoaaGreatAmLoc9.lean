import Derived.Test.YtojfiboeghonoaaGreatAmLoc7
/- Where points lie in a mesh: Value, called. -/
set_option linter.unusedVariables false
set_option maxRecDepth 10000
set_option linter.unusedSimpArgs false
namespace Go.Proofs.YtojfiboeghonoaaGreat.Am
open Go

theorem imm_rcs {n : Nat} {us : List Rat} : Imm 12 (.is n false (rcs us)) := Imm.mono (imm_is (imm_flat imm_rtc _)) (by omega)
theorem imm_rts {n : Nat} {xs : List RT} : Imm 12 (.is n false (xs.flatMap rtc)) := Imm.mono (imm_is (imm_flat imm_rtc _)) (by omega)
section
variable {q : Mq} {i : Nat} {x y : Rat} {us : List Rat} {xs : List RT} {h : Heap}
theorem k_lValue (hq : q.ok) (hx : Rz x 40) (hy : Rz y 40) (hu : us.length = q.ps.length) (hus : UsZ us 300) : byVal (callW gp) h fid.zf0m [.agg (msc q.ms), .is us.length false (rcs us), pa x y] = some (valR q us x y (atI q.ps q.ts x y q.ts.length 0)) := byVal_imm (imm_L3' imm_ms imm_rcs imm_pa) (by
  have fa : ∀ k id off, opFaddr k (.rp id off) = some (.rp id (off + k)) := fun _ _ _ => rfl
  have m1 := hq.n1
  have kc := fun h => k_check (h := h) hq
  have nq : opBin .neq (.int .i64 (us.length : Int)) (.int .i64 (q.ps.length : Int)) = some (.bool false) := by rw [bin_neq]; exact congrArg (fun b => some (AV.bool b)) (decide_eq_false (by omega))
  have g := lval_l0 (f := false) hus (by omega) (y3 := .rp 0 0) (y5 := .rp 1 0) (y6 := .rp 2 0) us.length 0 [some (msc q.ms), some (ptc (pc (x, y))), some z3] (by omega) fun H' h1 h2 =>
    lval_main hq hx hy hu hus (H := H') (by rw [h2 0 (by simp)]; rfl) (by rw [h2 1 (by simp)]; rfl) (z := z3) (by rw [h2 2 (by simp)]; rfl) rfl
  rw [zf0m.eq]
  unfold zf0m.f
  simp (disch := first | exact dD | fail) only [Wd, W2d, W3d, Nat.reduceAdd, Nat.reduceMul, Nat.reduceSub, fa, ms_rc, kc, neqF, mq_0, nq]
  exact g)
theorem k_lValueP (hq : q.ok) {p : PT} (hp : p.ok) (hu : us.length = q.ps.length) (hus : UsZ us 300) (ha : askc p ≠ 0) : byVal (callW gp) h fid.zf0m [.agg (msc q.ms), .is us.length false (rcs us), .agg (ptc p)] = some (.tup [.agg z3, .bool false, .int .i64 (askc p)]) := byVal_imm (imm_L3' imm_ms imm_rcs imm_pt) (by
  have fa : ∀ k id off, opFaddr k (.rp id off) = some (.rp id (off + k)) := fun _ _ _ => rfl
  have m1 := hq.n1
  have kc := fun h => k_check (h := h) hq
  have ka := fun h => k_lasked (h := h) hq hp
  have r6 : readCells (ptc p) (some 6) = some (.agg (ptc p)) := Eq.trans rfl rfl
  have nqa := neqT ha
  have nq : opBin .neq (.int .i64 (us.length : Int)) (.int .i64 (q.ps.length : Int)) = some (.bool false) := by rw [bin_neq]; exact congrArg (fun b => some (AV.bool b)) (decide_eq_false (by omega))
  have g := lval_l0 (f := false) hus (by omega) (y3 := .rp 0 0) (y5 := .rp 1 0) (y6 := .rp 2 0) us.length 0 [some (msc q.ms), some (ptc p), some z3] (RR := some (.tup [.agg z3, .bool false, .int .i64 (askc p)])) (by omega) fun H' h1 h2 => by
    have h0' : live H' 0 = some (msc q.ms) := by rw [h2 0 (by simp)]; rfl
    have h1' : live H' 1 = some (ptc p) := by rw [h2 1 (by simp)]; rfl
    have h2' : live H' 2 = some z3 := by rw [h2 2 (by simp)]; rfl
    have lk : opBin .lss (.int .i64 (us.length : Int)) (.int .i64 (us.length : Int)) = some (.bool false) := lssF (by omega)
    have st := st_set3 (H := H') (id := 2) (z := z3) (a := .bool false) (b := .str ⟨#[]⟩) (c := .str ⟨#[]⟩) rfl h2' rfl
    have rz : readCells z3 (some 3) = some (.agg z3) := Eq.trans rfl rfl
    have g2 := live_set_self (cs := z3) h2'
    rw [zf0m.l0_eq]
    simp (disch := first | exact dD | fail) only [Wd, W2d, W3d, Nat.reduceAdd, Nat.reduceMul, Nat.reduceSub, fa, lk, h0', h1', ms_rc, r6, ka, nqa, st, g2, rz]
    exact fzz
  rw [zf0m.eq]
  unfold zf0m.f
  simp (disch := first | exact dD | fail) only [Wd, W2d, W3d, Nat.reduceAdd, Nat.reduceMul, Nat.reduceSub, fa, ms_rc, kc, neqF, mq_0, nq]
  exact g)
end
end Go.Proofs.YtojfiboeghonoaaGreat.Am

/- Section 12: the answers that the document gives. -/
set_option linter.unusedVariables false
set_option maxRecDepth 10000
set_option linter.unusedSimpArgs false
namespace Go.Proofs.YtojfiboeghonoaaGreat.Am
open Go

theorem byVal_via {h : Heap} {f : Nat} {args xs : List AV} {r : Option AV} (ha : args.mapM (freeze h) = some xs) (hn : args.all noRef = true) (hx : ∀ x ∈ xs, Imm 12 x) (hb : byVal (callW gp) h f xs = r) : byVal (callW gp) h f args = r := by
  rw [byVal_cv] at hb ⊢
  have h1 : xs.mapM (freeze h) = some xs := imm_mapM hx (Nat.le_refl _) h
  have h2 : xs.all noRef = true := imm_all hx (Nat.le_refl _)
  rw [h1] at hb
  rw [ha]
  simp only [Option.bind_some, hn, h2, Bool.true_or, if_true] at hb ⊢
  exact hb
section
variable {h : Heap}
theorem k_at12 {a b : Int} (h1 : -9223372036854775808 ≤ a) (h2 : a ≤ 9223372036854775807) (h3 : -9223372036854775808 ≤ b) (h4 : b ≤ 9223372036854775807) : byVal (callW gp) h fid.gussetlaw12_at [.int .i64 a, .int .i64 b] = some (pa (a : Rat) (b : Rat)) := byVal_imm (imm_L2' imm_i imm_i) (by
  have ka := fun h => k_3of (h := h) h1 h2
  have kb := fun h => k_3of (h := h) h3 h4
  rw [gussetlaw12_at.eq]
  unfold gussetlaw12_at.f
  simp (disch := first | exact dD | fail) only [Wd, W2d, W3d, Nat.reduceAdd, Nat.reduceMul, Nat.reduceSub, ka, kb])
def q0 : Mq := ⟨[(((0 : Int) : Rat), ((0 : Int) : Rat)), (((2 : Int) : Rat), ((0 : Int) : Rat)), (((2 : Int) : Rat), ((2 : Int) : Rat)), (((0 : Int) : Rat), ((2 : Int) : Rat))], [(0, 1, 2), (0, 2, 3)], []⟩
theorem q0_ok : q0.ok := by
  have z0 : Rz ((0 : Int) : Rat) 40 := (Rz_int (by decide) (by decide)).mono (by omega)
  have z2 : Rz ((2 : Int) : Rat) 40 := (Rz_int (by decide) (by decide)).mono (by omega)
  refine ⟨fun p hp => ?_, ?_, fun i j k l hi hj hk hl he => ?_, fun i hi => absurd hi (Nat.not_lt_zero _), fun i j _ hi => absurd hi (Nat.not_lt_zero _), by decide, by decide, by decide⟩
  · simp only [q0, List.mem_cons, List.not_mem_nil, or_false] at hp
    rcases hp with rfl | rfl | rfl | rfl <;> exact ⟨by assumption, by assumption⟩
  · have : ∀ i, i < 2 → TrOk q0.ps (tat q0.ts i) := by decide +kernel
    exact this
  · have : ((List.range 2).all fun i => (List.range 2).all fun j => (List.range 3).all fun k => (List.range 3).all fun l => decide (edI q0.ts i k = edI q0.ts j l → i = j ∧ k = l)) = true := by decide +kernel
    have t1 := List.all_eq_true.1 this i (List.mem_range.2 hi)
    have t2 := List.all_eq_true.1 t1 j (List.mem_range.2 hj)
    have t3 := List.all_eq_true.1 t2 k (List.mem_range.2 hk)
    have t4 := List.all_eq_true.1 t3 l (List.mem_range.2 hl)
    exact of_decide_eq_true t4 he
def u0 : List Rat := [((0 : Int) : Rat), ((0 : Int) : Rat), ((4 : Int) : Rat), ((0 : Int) : Rat)]
theorem u0_z : UsZ u0 300 := fun r hr => by
  have z0 : Rz ((0 : Int) : Rat) 300 := (Rz_int (by decide) (by decide)).mono (by omega)
  have z4 : Rz ((4 : Int) : Rat) 300 := (Rz_int (by decide) (by decide)).mono (by omega)
  simp only [u0, List.mem_cons, List.not_mem_nil, or_false] at hr
  rcases hr with rfl | rfl | rfl | rfl <;> assumption
def mT : AV := .agg [.is 4 true (pcs q0.ps), .is 2 true (q0.ts.flatMap tc), .is 0 true []]
theorem frz_mT {H : Heap} : freeze H mT = some (.agg (msc q0.ms)) := by
  have r1 : freezeN 11 H (.is 4 true (pcs q0.ps)) = some (.is 4 false (pcs q0.ps)) := by rw [fz_is, imm_mapM (imm_pcs _) (by omega)]; rfl
  have r2 : freezeN 11 H (.is 2 true (q0.ts.flatMap tc)) = some (.is 2 false (q0.ts.flatMap tc)) := Eq.trans rfl rfl
  have r3 : freezeN 11 H (.is 0 true []) = some (.is 0 false []) := Eq.trans rfl rfl
  show ((([AV.is 4 true (pcs q0.ps), AV.is 2 true (q0.ts.flatMap tc), AV.is 0 true []]).mapM (freezeN 11 H)).map AV.agg) = _
  rw [mapM3 r1 r2 r3]
  rfl
theorem nr_pcs : ∀ {n : Nat} {ps : List (Rat × Rat)}, (pcs ps).all (noRefN (n + 1)) = true := fun {n ps} => imm_all (imm_pcs ps) (by omega)
theorem nr_mT : noRef mT = true := by
  have e : noRef mT = ([AV.is 4 true (pcs q0.ps), AV.is 2 true (q0.ts.flatMap tc), AV.is 0 true []]).all (noRefN 11) := rfl
  have e1 : noRefN 11 (.is 4 true (pcs q0.ps)) = (pcs q0.ps).all (noRefN 10) := rfl
  have e2 : noRefN 11 (.is 2 true (q0.ts.flatMap tc)) = true := rfl
  have e3 : noRefN 11 (.is 0 true []) = true := rfl
  rw [e, List.all_cons, List.all_cons, List.all_cons, e1, e2, e3, nr_pcs]
  rfl
theorem nr_pa {x y : Rat} : noRef (pa x y) = true := rfl
theorem nr_i {z : Int} : noRef (.int .i64 z) = true := rfl
theorem frz_pa {H : Heap} {x y : Rat} : freeze H (pa x y) = some (pa x y) := frz_p
theorem frz_i {H : Heap} {z : Int} : freeze H (.int .i64 z) = some (.int .i64 z) := Eq.trans rfl rfl
theorem lv_at : byVal (callW gp) h fid.locate_At [mT, pa ((0 : Int) : Rat) ((1 : Int) : Rat)] = some (.tup [.int .i64 1, .int .i64 0, .int .i64 0]) := by
  refine byVal_via (mapM2 frz_mT frz_pa) (by simp only [List.all_cons, nr_mT, nr_pa, List.all_nil, Bool.and_self]) (imm_L2' imm_ms imm_pa) ?_
  rw [k_lAt q0_ok ((Rz_int (by decide) (by decide)).mono (by omega)) ((Rz_int (by decide) (by decide)).mono (by omega))]
  have e : atI q0.ps q0.ts ((0 : Int) : Rat) ((1 : Int) : Rat) q0.ts.length 0 = some 1 := by decide +kernel
  have e2 : atW q0.ps q0.ts ((0 : Int) : Rat) ((1 : Int) : Rat) (some 1) = 0 := by decide +kernel
  rw [e, e2]
  rfl
theorem lv_walk : byVal (callW gp) h fid.zf0g [mT, .int .i64 0, pa ((0 : Int) : Rat) ((2 : Int) : Rat)] = some (.tup [.is 2 false (ints [0, 1]), .int .i64 0]) := by
  refine byVal_via (mapM3 frz_mT frz_i frz_pa) (by simp only [List.all_cons, nr_mT, nr_pa, nr_i, List.all_nil, Bool.and_self]) (imm_L3' imm_ms imm_i imm_pa) ?_
  rw [k_lWalk q0_ok (by decide) ((Rz_int (by decide) (by decide)).mono (by omega)) ((Rz_int (by decide) (by decide)).mono (by omega))]
  have e : wkI q0 ((0 : Int) : Rat) ((2 : Int) : Rat) q0.ts.length 0 [] = some [0, 1] := by decide +kernel
  rw [e]
  rfl
theorem lv_fan : byVal (callW gp) h fid.zf0k [mT, .int .i64 2] = some (.tup [.is 2 false (ints [0, 1]), .int .i64 0]) := by
  refine byVal_via (mapM2 frz_mT frz_i) (by simp only [List.all_cons, nr_mT, nr_i, List.all_nil, Bool.and_self]) (imm_L2' imm_ms imm_i) ?_
  rw [k_lFan q0_ok (by decide)]
  have e : fanI q0.ts 2 q0.ts.length 0 = [0, 1] := by decide +kernel
  rw [e]
  rfl
theorem imm_rcs1 (us : List Rat) : ∀ c ∈ rcs us, Imm 1 c := imm_flat imm_rtc _
theorem lv_value : byVal (callW gp) h fid.zf0m [mT, .is 4 true (rcs u0), pa ((1 : Int) : Rat) ((1 : Int) : Rat)] = some (.tup [ra ((2 : Int) : Rat), .bool true, .int .i64 0]) := by
  have r1 : freeze h (.is 4 true (rcs u0)) = some (.is 4 false (rcs u0)) := by
    show freezeN 12 h _ = _
    rw [fz_is, imm_mapM (imm_rcs1 u0) (by omega)]; rfl
  have n1 : noRef (.is 4 true (rcs u0)) = true := imm_all (n := 11) (imm_flat imm_rtc _) (by omega)
  refine byVal_via (mapM3 frz_mT r1 frz_pa) (by simp only [List.all_cons, nr_mT, nr_pa, n1, List.all_nil, Bool.and_self]) (imm_L3' imm_ms imm_rcs imm_pa) ?_
  refine Eq.trans (k_lValue (us := u0) q0_ok ((Rz_int (by decide) (by decide)).mono (by omega)) ((Rz_int (by decide) (by decide)).mono (by omega)) rfl u0_z) ?_
  have e : atI q0.ps q0.ts ((1 : Int) : Rat) ((1 : Int) : Rat) q0.ts.length 0 = some 0 := by decide +kernel
  have e2 : valQ q0 u0 0 ((1 : Int) : Rat) ((1 : Int) : Rat) = ((2 : Int) : Rat) := by decide +kernel
  rw [e]
  show some (AV.tup [ra (valQ q0 u0 0 ((1 : Int) : Rat) ((1 : Int) : Rat)), .bool true, .int .i64 0]) = _
  rw [e2]
theorem bslc4 {a b c d : Int} : opBslc 6 4 [.bool false, .str ⟨#[]⟩, .str ⟨#[]⟩, .bool false, .str ⟨#[]⟩, .str ⟨#[]⟩] [(0, pa (a : Rat) (b : Rat)), (1, pa (c : Rat) (b : Rat)), (2, pa (c : Rat) (d : Rat)), (3, pa (a : Rat) (d : Rat))] = some (.is 4 true (pcs [((a : Rat), (b : Rat)), ((c : Rat), (b : Rat)), ((c : Rat), (d : Rat)), ((a : Rat), (d : Rat))])) := Eq.trans rfl rfl
theorem bslc3 {a b c d : Rat} : opBslc 3 4 [.bool false, .str ⟨#[]⟩, .str ⟨#[]⟩] [(0, ra a), (1, ra b), (2, ra c), (3, ra d)] = some (.is 4 true (rcs [a, b, c, d])) := Eq.trans rfl rfl
theorem bslt : opBslc 3 2 [.int .i64 0, .int .i64 0, .int .i64 0] [(0, .agg [.int .i64 0, .int .i64 1, .int .i64 2]), (1, .agg [.int .i64 0, .int .i64 2, .int .i64 3])] = some (.is 2 true (q0.ts.flatMap tc)) := Eq.trans rfl rfl
theorem bsl2i {a b : Int} : opBslc 1 2 [.int .i64 0] [(0, .int .i64 a), (1, .int .i64 b)] = some (.is 2 true (ints [a, b])) := Eq.trans rfl rfl
theorem bldm {n m : Nat} {f g : Bool} {a b : List AV} : opBld [.is 0 true [], .is 0 true [], .is 0 true []] [(0, 1, .is n f a), (1, 1, .is m g b)] = some (.agg [.is n f a, .is m g b, .is 0 true []]) := Eq.trans rfl rfl
set_option maxHeartbeats 16000000 in
theorem c_live12 : byVal (callW gp) h fid.zf0c [] = some (.bool true) := byVal_imm (fun _ h => by cases h) (by
  have k0 := fun h => k_3of (h := h) (z := 0) (by decide) (by decide)
  have k2 := fun h => k_3of (h := h) (z := 2) (by decide) (by decide)
  have k4 := fun h => k_3of (h := h) (z := 4) (by decide) (by decide)
  have a00 := fun h => k_at12 (h := h) (a := 0) (b := 0) (by decide) (by decide) (by decide) (by decide)
  have a20 := fun h => k_at12 (h := h) (a := 2) (b := 0) (by decide) (by decide) (by decide) (by decide)
  have a22 := fun h => k_at12 (h := h) (a := 2) (b := 2) (by decide) (by decide) (by decide) (by decide)
  have a02 := fun h => k_at12 (h := h) (a := 0) (b := 2) (by decide) (by decide) (by decide) (by decide)
  have a01 := fun h => k_at12 (h := h) (a := 0) (b := 1) (by decide) (by decide) (by decide) (by decide)
  have a11 := fun h => k_at12 (h := h) (a := 1) (b := 1) (by decide) (by decide) (by decide) (by decide)
  have b4 := bslc4 (a := 0) (b := 0) (c := 2) (d := 2)
  have b3 := bslc3 (a := ((0 : Int) : Rat)) (b := ((0 : Int) : Rat)) (c := ((4 : Int) : Rat)) (d := ((0 : Int) : Rat))
  have st : opStore [some [.is 0 true [], .is 0 true [], .is 0 true []]] 3 (.rp 0 0) mT = some [some [.is 4 true (pcs q0.ps), .is 2 true (q0.ts.flatMap tc), .is 0 true []]] := st_app3 (h := []) (z := [.is 0 true [], .is 0 true [], .is 0 true []]) (v := [.is 4 true (pcs q0.ps), .is 2 true (q0.ts.flatMap tc), .is 0 true []]) (n := 3) rfl ⟨rfl, rfl⟩
  have rm : readCells [.is 4 true (pcs q0.ps), .is 2 true (q0.ts.flatMap tc), .is 0 true []] (some 3) = some mT := Eq.trans rfl rfl
  have l1 : ∀ h, byVal (callW gp) h fid.locate_At [.agg [.is 4 true (pcs [(((0 : Int) : Rat), ((0 : Int) : Rat)), (((2 : Int) : Rat), ((0 : Int) : Rat)), (((2 : Int) : Rat), ((2 : Int) : Rat)), (((0 : Int) : Rat), ((2 : Int) : Rat))]), .is 2 true [.int .i64 0, .int .i64 1, .int .i64 2, .int .i64 0, .int .i64 2, .int .i64 3], .is 0 true []], pa ((0 : Int) : Rat) ((1 : Int) : Rat)] = some (.tup [.int .i64 1, .int .i64 0, .int .i64 0]) := fun h => lv_at (h := h)
  have l2 : ∀ h, byVal (callW gp) h fid.zf0g [.agg [.is 4 true (pcs [(((0 : Int) : Rat), ((0 : Int) : Rat)), (((2 : Int) : Rat), ((0 : Int) : Rat)), (((2 : Int) : Rat), ((2 : Int) : Rat)), (((0 : Int) : Rat), ((2 : Int) : Rat))]), .is 2 true [.int .i64 0, .int .i64 1, .int .i64 2, .int .i64 0, .int .i64 2, .int .i64 3], .is 0 true []], .int .i64 0, pa ((0 : Int) : Rat) ((2 : Int) : Rat)] = some (.tup [.is 2 false (ints [0, 1]), .int .i64 0]) := fun h => lv_walk (h := h)
  have l3 : ∀ h, byVal (callW gp) h fid.zf0k [.agg [.is 4 true (pcs [(((0 : Int) : Rat), ((0 : Int) : Rat)), (((2 : Int) : Rat), ((0 : Int) : Rat)), (((2 : Int) : Rat), ((2 : Int) : Rat)), (((0 : Int) : Rat), ((2 : Int) : Rat))]), .is 2 true [.int .i64 0, .int .i64 1, .int .i64 2, .int .i64 0, .int .i64 2, .int .i64 3], .is 0 true []], .int .i64 2] = some (.tup [.is 2 false (ints [0, 1]), .int .i64 0]) := fun h => lv_fan (h := h)
  have l4 : ∀ h, byVal (callW gp) h fid.zf0m [.agg [.is 4 true (pcs [(((0 : Int) : Rat), ((0 : Int) : Rat)), (((2 : Int) : Rat), ((0 : Int) : Rat)), (((2 : Int) : Rat), ((2 : Int) : Rat)), (((0 : Int) : Rat), ((2 : Int) : Rat))]), .is 2 true [.int .i64 0, .int .i64 1, .int .i64 2, .int .i64 0, .int .i64 2, .int .i64 3], .is 0 true []], .is 4 true (rcs [((0 : Int) : Rat), ((0 : Int) : Rat), ((4 : Int) : Rat), ((0 : Int) : Rat)]), pa ((1 : Int) : Rat) ((1 : Int) : Rat)] = some (.tup [ra ((2 : Int) : Rat), .bool true, .int .i64 0]) := fun h => lv_value (h := h)
  have sm : ∀ h, byVal (callW gp) h fid.zf0j [.is 2 false (ints [0, 1]), .is 2 true (ints [0, 1])] = some (.bool true) := fun h => k_sameT (h := h) (l := [0, 1]) (m := [0, 1]) (by decide) (by decide)
  rw [zf0c.eq]
  unfold zf0c.f
  simp (disch := first | exact dD | fail) only [Wd, W2d, W3d, Nat.reduceAdd, Nat.reduceMul, Nat.reduceSub, a00, a20, a22, a02, a01, a11, k0, k2, k4, b4, b3, bldm, bslt, st, rm, l1, l2, l3, l4, bsl2i, sm, eqa_r, decide_true, eqlTF])
end
end Go.Proofs.YtojfiboeghonoaaGreat.Am
