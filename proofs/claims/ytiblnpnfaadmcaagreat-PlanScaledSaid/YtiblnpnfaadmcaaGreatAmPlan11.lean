import Derived.Test.YtiblnpnfaadmcaaGreatAmPlan7
import Derived.Test.YtiblnpnfaadmcaaGreatTApart
import Derived.Test.YtiblnpnfaadmcaaGreatTLaw09
/- Section 09: Apart2, Box, small points. -/
set_option linter.unusedVariables false
set_option maxRecDepth 10000
set_option linter.unusedSimpArgs false
namespace Go.Proofs.YtiblnpnfaadmcaaGreat.Am
open Go

theorem same_cons {R : Type} {x : R} {l : List (Option R)} : sameAll (some x :: some x :: l) = sameAll (some x :: l) := by
  refine propext ⟨fun ⟨r, hr⟩ => ⟨r, fun y hy => hr y (List.mem_cons_of_mem _ hy)⟩, fun ⟨r, hr⟩ => ⟨r, fun y hy => ?_⟩⟩
  rcases List.mem_cons.1 hy with rfl | hy
  · exact hr _ (List.mem_cons_self ..)
  · exact hr y hy
theorem same_one {R : Type} {x : R} : sameAll [some x] = True := eq_true ⟨x, fun y hy => by simpa using hy⟩
theorem ifP_T {R : Type} {A : Option R} : ifP True A = A := ifP_yes trivial
def z6 : List AV := [.bool false, .str ⟨#[]⟩, .str ⟨#[]⟩, .bool false, .str ⟨#[]⟩, .str ⟨#[]⟩]
section
variable {h : Heap} {ax ay bx b_ cx cy dx dy : Rat}
theorem fz_b {H : Heap} {z : Int} : freeze H (.tup [.agg z6, .agg z6, .int .i64 z]) = some (.tup [.agg z6, .agg z6, .int .i64 z]) := Eq.trans rfl rfl
theorem imm_one {a : AV} (ha : Imm 12 a) : ∀ x ∈ [a], Imm 12 x := fun x hx => by simp at hx; exact hx ▸ ha
set_option maxHeartbeats 16000000 in
theorem k_box0 : byVal (callW gp) h fid.zf0b [.is 0 false []] = some (.tup [.agg z6, .agg z6, .int .i64 1]) := byVal_imm (imm_one ((imm_is (n := 0) (d := 1) (fun c hc => by cases hc)).mono (by omega))) (by
  have ka : ∀ h f, byVal (callW gp) h fid.zf0x [.is 0 f []] = some (.int .i64 0) := fun h f => k_pasked (h := h) (f := f) (xs := []) (fun _ ht => by cases ht) (by simp)
  have c1 : opBin .gtr (.int .i64 ((0 : Nat) : Int)) (.int .i64 400) = some (.bool false) := gtrF (by omega)
  rw [zf0b.eq]
  unfold zf0b.f
  simp (disch := first | exact dD | fail) only [Wd, W2d, W3d, Nat.reduceAdd, Nat.reduceMul, Nat.reduceSub, c1, ka, neqF9, same_cons, same_one, ifP_T]
  exact fz_b)
set_option maxHeartbeats 4000000 in
theorem k_pApart (h1 : Rz ax 40) (h2 : Rz ay 40) (h3 : Rz bx 40) (h4 : Rz b_ 40) (h5 : Rz cx 40) (h6 : Rz cy 40) (h7 : Rz dx 40) (h8 : Rz dy 40) : byVal (callW gp) h fid.zf0f [pa ax ay, pa bx b_, pa cx cy, pa dx dy] = some (.tup [ra (apartQ ax ay bx b_ cx cy dx dy), .int .i64 0]) := byVal_imm (imm_L4 imm_pa imm_pa imm_pa imm_pa) (by
  rw [zf0f.eq]
  unfold zf0f.f
  have hk := fun h f => k_pasked (h := h) (f := f) (ok4 (pt_ok ax ay) (pt_ok bx b_) (pt_ok cx cy) (pt_ok dx dy)) (by simp)
  rw [firstE4, firstE3, askc_rat (h1.mono (by omega)) (h2.mono (by omega)), askc_rat (h3.mono (by omega)) (h4.mono (by omega)), askc_rat (h5.mono (by omega)) (h6.mono (by omega)), askc_rat (h7.mono (by omega)) (h8.mono (by omega))] at hk
  simp only [if_true, List.flatMap_cons, List.flatMap_nil, List.length_cons, List.length_nil] at hk
  unfold ptc rtc rt at hk
  simp only [List.cons_append, List.nil_append, List.append_nil, Nat.zero_add, Nat.reduceAdd] at hk
  have kp := fun h => k_papart (h := h) h1 h2 h3 h4 h5 h6 h7 h8
  generalize apartQ ax ay bx b_ cx cy dx dy = M at *
  simp (disch := first | exact dD | fail) only [Wd, W2d, W3d, Nat.reduceAdd, Nat.reduceMul, Nat.reduceSub, hk, neqF9, kp])
set_option maxHeartbeats 4000000 in
theorem k_at9 {a b : Int} (h1 : -9223372036854775808 ≤ a) (h2 : a ≤ 9223372036854775807) (h3 : -9223372036854775808 ≤ b) (h4 : b ≤ 9223372036854775807) : byVal (callW gp) h fid.gussetlaw09_at [.int .i64 a, .int .i64 b] = some (pa (a : Rat) (b : Rat)) := byVal_imm (imm_L2 (imm_int.mono (by omega)) (imm_int.mono (by omega))) (by
  have ka := fun h => k_3of (h := h) h1 h2
  have kb := fun h => k_3of (h := h) h3 h4
  rw [gussetlaw09_at.eq]
  unfold gussetlaw09_at.f
  simp (disch := first | exact dD | fail) only [Wd, W2d, W3d, Nat.reduceAdd, Nat.reduceMul, Nat.reduceSub, ka, kb])
end
end Go.Proofs.YtiblnpnfaadmcaaGreat.Am

/- Section 09: small points, and the answers that the document gives. -/
set_option linter.unusedVariables false
set_option maxRecDepth 10000
set_option linter.unusedSimpArgs false
namespace Go.Proofs.YtiblnpnfaadmcaaGreat.Am
open Go

def sh1 (t : RT) : Prop := t.m.length ≤ 30 ∧ t.d.length ≤ 30
instance (t : RT) : Decidable (sh1 t) := by unfold sh1; infer_instance
def sh2 (p : PT) : Prop := sh1 p.1 ∧ sh1 p.2
instance (p : PT) : Decidable (sh2 p) := by unfold sh2; infer_instance
def fewP (l : List PT) : Prop := ∀ p ∈ l, sh2 p
instance (l : List PT) : Decidable (fewP l) := by unfold fewP; infer_instance
theorem pt_rat {p : PT} (hp : p.ok) (h : sh2 p) (ha : askc p = 0) : ∃ x y, p = (rt x, rt y) ∧ Rz x 30 ∧ Rz y 30 := by
  obtain ⟨⟨q1, q2⟩, ⟨q3, q4⟩⟩ := h
  rw [askc_small ⟨by omega, by omega⟩ ⟨by omega, by omega⟩] at ha
  exact PT.ratz hp ha ⟨q1, q2⟩ ⟨q3, q4⟩
theorem byVal_via {h : Heap} {f : Nat} {args xs : List AV} {r : Option AV} (ha : args.mapM (freeze h) = some xs) (hn : args.all noRef = true) (hx : ∀ x ∈ xs, Imm 12 x) (hb : byVal (callW gp) h f xs = r) : byVal (callW gp) h f args = r := by
  rw [byVal_cv] at hb ⊢
  have h1 : xs.mapM (freeze h) = some xs := imm_mapM hx (Nat.le_refl _) h
  have h2 : xs.all noRef = true := imm_all hx (Nat.le_refl _)
  rw [h1] at hb
  rw [ha]
  simp only [Option.bind_some, hn, h2, Bool.true_or, if_true] at hb ⊢
  exact hb
section
variable {h : Heap}
theorem leqT {x y : Int} (h : x ≤ y) : opBin .leq (.int .i64 x) (.int .i64 y) = some (.bool true) := by
  have := @bin_leq .i64 x y
  rw [this]
  exact congrArg (fun b => some (AV.bool b)) (decide_eq_true h)
theorem leqF {x y : Int} (h : ¬ x ≤ y) : opBin .leq (.int .i64 x) (.int .i64 y) = some (.bool false) := by
  have := @bin_leq .i64 x y
  rw [this]
  exact congrArg (fun b => some (AV.bool b)) (decide_eq_false h)
set_option maxHeartbeats 4000000 in
theorem c_short9 {t : PT} : byVal (callW gp) h fid.zf0v [.agg (ptc t)] = some (.bool (decide (sh2 t))) := byVal_imm (imm_one imm_pt) (by
  obtain ⟨⟨s1, m1, d1⟩, ⟨s2, m2, d2⟩⟩ := t
  rw [zf0v.eq]
  unfold zf0v.f ptc rtc
  have fa : ∀ k id off, opFaddr k (.rp id off) = some (.rp id (off + k)) := fun _ _ _ => rfl
  by_cases h1 : m1.length ≤ 30
  rotate_left
  · have l1 := leqF (x := (m1.length : Int)) (y := 30) (by omega)
    rw [decide_eq_false (fun h : sh2 _ => h1 h.1.1)]
    simp (disch := first | exact dD | fail) only [Wd, W2d, W3d, Nat.reduceAdd, Nat.reduceMul, Nat.reduceSub, l1, fa]
  by_cases h2 : d1.length ≤ 30
  rotate_left
  · have l1 := leqT (x := (m1.length : Int)) (y := 30) (by omega)
    have l2 := leqF (x := (d1.length : Int)) (y := 30) (by omega)
    rw [decide_eq_false (fun h : sh2 _ => h2 h.1.2)]
    simp (disch := first | exact dD | fail) only [Wd, W2d, W3d, Nat.reduceAdd, Nat.reduceMul, Nat.reduceSub, l1, l2, fa]
  by_cases h3 : m2.length ≤ 30
  rotate_left
  · have l1 := leqT (x := (m1.length : Int)) (y := 30) (by omega)
    have l2 := leqT (x := (d1.length : Int)) (y := 30) (by omega)
    have l3 := leqF (x := (m2.length : Int)) (y := 30) (by omega)
    rw [decide_eq_false (fun h : sh2 _ => h3 h.2.1)]
    simp (disch := first | exact dD | fail) only [Wd, W2d, W3d, Nat.reduceAdd, Nat.reduceMul, Nat.reduceSub, l1, l2, l3, fa]
  have l1 := leqT (x := (m1.length : Int)) (y := 30) (by omega)
  have l2 := leqT (x := (d1.length : Int)) (y := 30) (by omega)
  have l3 := leqT (x := (m2.length : Int)) (y := 30) (by omega)
  by_cases h4 : d2.length ≤ 30
  · have l4 := leqT (x := (d2.length : Int)) (y := 30) (by omega)
    rw [decide_eq_true (show sh2 _ from ⟨⟨h1, h2⟩, h3, h4⟩)]
    simp (disch := first | exact dD | fail) only [Wd, W2d, W3d, Nat.reduceAdd, Nat.reduceMul, Nat.reduceSub, l1, l2, l3, l4, fa]
  · have l4 := leqF (x := (d2.length : Int)) (y := 30) (by omega)
    rw [decide_eq_false (fun h : sh2 _ => h4 h.2.2)]
    simp (disch := first | exact dD | fail) only [Wd, W2d, W3d, Nat.reduceAdd, Nat.reduceMul, Nat.reduceSub, l1, l2, l3, l4, fa])
theorem few_cons {p : PT} {l : List PT} : fewP (p :: l) ↔ sh2 p ∧ fewP l := ⟨fun h => ⟨h _ (List.mem_cons_self ..), fun q hq => h q (List.mem_cons_of_mem _ hq)⟩, fun h q hq => by
  rcases List.mem_cons.1 hq with rfl | hq
  · exact h.1
  · exact h.2 q hq⟩
set_option maxHeartbeats 4000000 in
theorem small_l0 {xs : List PT} {f : Bool} (hn : xs.length ≤ 1000) : ∀ (k i : Nat), i + k = xs.length → zf09.l0 (.is xs.length f (xs.flatMap ptc)) (.int .i64 (i : Nat)) = some (.bool (decide (fewP (xs.drop i)))) := by
  intro k
  induction k with
  | zero =>
    intro i hik
    rw [zf09.l0_eq]
    have lk : opBin .lss (.int .i64 (i : Int)) (.int .i64 (xs.length : Int)) = some (.bool false) := lssF (by omega)
    simp (disch := first | exact dD | fail) only [Wd, W2d, W3d, Nat.reduceAdd, Nat.reduceMul, Nat.reduceSub, lk]
    rw [List.drop_of_length_le (by omega)]
    exact congrArg (fun b => some (AV.bool b)) (decide_eq_true (fun p hp => by cases hp)).symm
  | succ k ih =>
    intro i hik
    rw [zf09.l0_eq]
    have hi : i < xs.length := by omega
    have lk : opBin .lss (.int .i64 (i : Int)) (.int .i64 (xs.length : Int)) = some (.bool true) := lssT (by omega)
    have sx := sidxN (sz := 6) (f := f) (cs := xs.flatMap ptc) hi
    have rx : readCells ((xs.flatMap ptc).drop (i * 6)) (some 6) = some (.agg (ptc xs[i])) := by
      rw [drop_flatMap ptc_len, List.drop_eq_getElem_cons hi, List.flatMap_cons]; rfl
    have c1 := fun h => c_short9 (h := h) (t := xs[i])
    rw [List.drop_eq_getElem_cons hi]
    have ih := ih (i + 1) (by omega)
    generalize xs[i] = p at *
    by_cases q1 : sh2 p
    · rw [decide_eq_true q1] at c1
      have e : decide (fewP (p :: xs.drop (i + 1))) = decide (fewP (xs.drop (i + 1))) := decide_eq_decide.2 ⟨fun h => (few_cons.1 h).2, fun h => few_cons.2 ⟨q1, h⟩⟩
      rw [e, ← ih]
      simp (disch := first | exact dD | fail) only [Wd, W2d, W3d, Nat.reduceAdd, Nat.reduceMul, Nat.reduceSub, lk, sx, rx, c1, notT, notF]
    · rw [decide_eq_false q1] at c1
      rw [decide_eq_false (fun h => q1 (few_cons.1 h).1)]
      simp (disch := first | exact dD | fail) only [Wd, W2d, W3d, Nat.reduceAdd, Nat.reduceMul, Nat.reduceSub, lk, sx, rx, c1, notT, notF]
theorem gtrT {a b : Int} (h : b < a) : opBin .gtr (.int .i64 a) (.int .i64 b) = some (.bool true) := by
  have := bin_gtr (k := .i64) (x := a) (y := b)
  rw [this]
  exact congrArg (fun b => some (AV.bool b)) (decide_eq_true (by omega))
def smlP (xs : List PT) (m : Nat) : Prop := xs.length ≤ m ∧ fewP xs
instance (xs : List PT) (m : Nat) : Decidable (smlP xs m) := by unfold smlP; infer_instance
theorem small_cv {xs : List PT} {f : Bool} {m : Nat} (hm : m ≤ 1000) : cv gp fid.zf09 [.is xs.length f (xs.flatMap ptc), .int .i64 (m : Int)] = some (.bool (decide (smlP xs m))) := by
  rw [zf09.eq]
  unfold zf09.f
  by_cases h : xs.length ≤ m
  · have c1 := gtrF (a := (xs.length : Int)) (b := (m : Int)) (by omega)
    have g := small_l0 (f := f) (show xs.length ≤ 1000 by omega) xs.length 0 (by omega)
    rw [List.drop_zero] at g
    have e : decide (smlP xs m) = decide (fewP xs) := decide_eq_decide.2 ⟨fun h => h.2, fun q => ⟨h, q⟩⟩
    rw [e, ← g]
    simp (disch := first | exact dD | fail) only [Wd, W2d, W3d, Nat.reduceAdd, Nat.reduceMul, Nat.reduceSub, c1]
    rfl
  · have c1 := gtrT (a := (xs.length : Int)) (b := (m : Int)) (by omega)
    rw [decide_eq_false (fun q : smlP xs m => h q.1)]
    simp (disch := first | exact dD | fail) only [Wd, W2d, W3d, Nat.reduceAdd, Nat.reduceMul, Nat.reduceSub, c1]
theorem c_small9 {xs : List PT} {H : Heap} {x : AV} {m : Nat} (hm : m ≤ 1000) (hx : freeze H x = some (.is xs.length false (xs.flatMap ptc))) : byVal (callW gp) H fid.zf09 [x, .int .i64 (m : Int)] = some (.bool (decide (smlP xs m))) :=
  byVal_flat (mapM2 hx (Eq.trans rfl rfl)) (small_cv hm) rfl
theorem frz_isP {H : Heap} {xs : List PT} {n : Nat} {f : Bool} : freeze H (.is n f (xs.flatMap ptc)) = some (.is n false (xs.flatMap ptc)) := by
  show freezeN 12 H _ = _
  show ((xs.flatMap ptc).mapM (freezeN 11 H)).map (AV.is n false) = _
  rw [imm_mapM (imm_flat imm_ptc xs) (by omega)]
  rfl
theorem frz_isS {H : Heap} {xs : List Sg} {n : Nat} {f : Bool} : freeze H (.is n f (xs.flatMap sgc)) = some (.is n false (xs.flatMap sgc)) := by
  show freezeN 12 H _ = _
  show ((xs.flatMap sgc).mapM (freezeN 11 H)).map (AV.is n false) = _
  rw [imm_mapM (imm_flat imm_sgc xs) (by omega)]
  rfl
theorem nr_isP {xs : List PT} {n : Nat} {f : Bool} : noRef (.is n f (xs.flatMap ptc)) = true := imm_all (n := 11) (imm_flat imm_ptc xs) (by omega)
theorem nr_isS {xs : List Sg} {n : Nat} {f : Bool} : noRef (.is n f (xs.flatMap sgc)) = true := imm_all (n := 11) (imm_flat imm_sgc xs) (by omega)
end
end Go.Proofs.YtiblnpnfaadmcaaGreat.Am

/- Section 09: the answers that the document gives. -/
set_option linter.unusedVariables false
set_option maxRecDepth 10000
set_option linter.unusedSimpArgs false
namespace Go.Proofs.YtiblnpnfaadmcaaGreat.Am
open Go

def lps : List (Rat × Rat) := [(((0 : Int) : Rat), ((0 : Int) : Rat)), (((4 : Int) : Rat), ((0 : Int) : Rat)), (((0 : Int) : Rat), ((3 : Int) : Rat))]
def lss : List Sq := [(0, 1, false), (0, 2, false)]
def lsg : List Sg := [⟨3, 1, false⟩, ⟨2, 0, false⟩, ⟨1, 2, false⟩]
theorem lps_z : PZ lps := fun i hi => by
  have z0 : Rz ((0 : Int) : Rat) 40 := (Rz_int (by decide) (by decide)).mono (by omega)
  have z3 : Rz ((3 : Int) : Rat) 40 := (Rz_int (by decide) (by decide)).mono (by omega)
  have z4 : Rz ((4 : Int) : Rat) 40 := (Rz_int (by decide) (by decide)).mono (by omega)
  match i, hi with
  | 0, _ => exact ⟨z0, z0⟩
  | 1, _ => exact ⟨z4, z0⟩
  | 2, _ => exact ⟨z0, z3⟩
  | n + 3, h => exact absurd h (by simp [lps])
theorem lss_v : SV lps.length lss := fun i hi => by
  match i, hi with
  | 0, _ => exact ⟨by decide, by decide⟩
  | 1, _ => exact ⟨by decide, by decide⟩
  | n + 2, h => exact absurd h (by simp [lss])
section
variable {h : Heap}
theorem lv_least : byVal (callW gp) h fid.zf0j [.is 3 true (pcs lps), .is 2 true (scs lss)] = some (.tup [ra ((9 : Int) : Rat), .int .i64 0]) := by
  refine byVal_via (mapM2 frz_isP frz_isS) (by simp only [List.all_cons, List.all_nil, Bool.and_true, pcs, scs, nr_isP, nr_isS]) (imm_L2p imm_isP imm_isS) ?_
  have k := k_least (h := h) lps_z lss_v (by decide) (by decide) (by decide)
  have e : leastQ lps lss = ((9 : Int) : Rat) := by decide +kernel
  rw [e] at k
  exact k
theorem lv_apart : byVal (callW gp) h fid.zf0f [pa ((0 : Int) : Rat) ((0 : Int) : Rat), pa ((2 : Int) : Rat) ((0 : Int) : Rat), pa ((1 : Int) : Rat) ((1 : Int) : Rat), pa ((1 : Int) : Rat) ((3 : Int) : Rat)] = some (.tup [ra ((1 : Int) : Rat), .int .i64 0]) := by
  have z0 : Rz ((0 : Int) : Rat) 40 := (Rz_int (by decide) (by decide)).mono (by omega)
  have z1 : Rz ((1 : Int) : Rat) 40 := (Rz_int (by decide) (by decide)).mono (by omega)
  have z2 : Rz ((2 : Int) : Rat) 40 := (Rz_int (by decide) (by decide)).mono (by omega)
  have z3 : Rz ((3 : Int) : Rat) 40 := (Rz_int (by decide) (by decide)).mono (by omega)
  have k := k_pApart (h := h) z0 z0 z2 z0 z1 z1 z1 z3
  have e : apartQ ((0 : Int) : Rat) ((0 : Int) : Rat) ((2 : Int) : Rat) ((0 : Int) : Rat) ((1 : Int) : Rat) ((1 : Int) : Rat) ((1 : Int) : Rat) ((3 : Int) : Rat) = ((1 : Int) : Rat) := by decide +kernel
  rw [e] at k
  exact k
theorem lv_box : byVal (callW gp) h fid.zf0b [.is 0 true []] = some (.tup [.agg z6, .agg z6, .int .i64 1]) :=
  byVal_via (mapM1 (Eq.trans rfl rfl)) (Eq.trans rfl rfl) (imm_one ((imm_is (n := 0) (d := 1) (cs := []) (fun c hc => by cases hc)).mono (by omega))) k_box0
theorem lv_pat : byVal (callW gp) h fid.plan_At [.is 3 true (lsg.flatMap sgc), .int .i64 1] = some (.is 2 false (ints [0, 2])) := by
  refine byVal_via (mapM2 frz_isS (Eq.trans rfl rfl)) (by simp only [List.all_cons, List.all_nil, Bool.and_true, nr_isS]; rfl) (imm_L2p imm_isS (imm_int.mono (by omega))) ?_
  exact k_pat (h := h) (xs := lsg) (v := 1) (by decide)
theorem bslc3p {a b c d e f : Int} : opBslc 6 3 [.bool false, .str ⟨#[]⟩, .str ⟨#[]⟩, .bool false, .str ⟨#[]⟩, .str ⟨#[]⟩] [(0, pa (a : Rat) (b : Rat)), (1, pa (c : Rat) (d : Rat)), (2, pa (e : Rat) (f : Rat))] = some (.is 3 true (pcs [((a : Rat), (b : Rat)), ((c : Rat), (d : Rat)), ((e : Rat), (f : Rat))])) := Eq.trans rfl rfl
theorem bslc2s {a b c d : Int} : opBslc 3 2 [.int .i64 0, .int .i64 0, .bool false] [(0, .agg [.int .i64 a, .int .i64 b, .bool false]), (1, .agg [.int .i64 c, .int .i64 d, .bool false])] = some (.is 2 true [.int .i64 a, .int .i64 b, .bool false, .int .i64 c, .int .i64 d, .bool false]) := Eq.trans rfl rfl
theorem bslc3s {a b c d e f : Int} : opBslc 3 3 [.int .i64 0, .int .i64 0, .bool false] [(0, .agg [.int .i64 a, .int .i64 b, .bool false]), (1, .agg [.int .i64 c, .int .i64 d, .bool false]), (2, .agg [.int .i64 e, .int .i64 f, .bool false])] = some (.is 3 true [.int .i64 a, .int .i64 b, .bool false, .int .i64 c, .int .i64 d, .bool false, .int .i64 e, .int .i64 f, .bool false]) := Eq.trans rfl rfl
theorem bsl2i {a b : Int} : opBslc 1 2 [.int .i64 0] [(0, .int .i64 a), (1, .int .i64 b)] = some (.is 2 true (ints [a, b])) := Eq.trans rfl rfl
theorem blds {a b : Int} : opBld [.int .i64 0, .int .i64 0, .bool false] [(0, 1, .int .i64 a), (1, 1, .int .i64 b)] = some (.agg [.int .i64 a, .int .i64 b, .bool false]) := Eq.trans rfl rfl
set_option maxHeartbeats 16000000 in
theorem c_live9 : byVal (callW gp) h fid.zf0a [] = some (.bool true) := byVal_imm (fun _ h => by cases h) (by
  have o9 := fun h => k_3of (h := h) (z := 9) (by decide) (by decide)
  have o1 := fun h => k_3of (h := h) (z := 1) (by decide) (by decide)
  have a00 := fun h => k_at9 (h := h) (a := 0) (b := 0) (by decide) (by decide) (by decide) (by decide)
  have a40 := fun h => k_at9 (h := h) (a := 4) (b := 0) (by decide) (by decide) (by decide) (by decide)
  have a03 := fun h => k_at9 (h := h) (a := 0) (b := 3) (by decide) (by decide) (by decide) (by decide)
  have a20 := fun h => k_at9 (h := h) (a := 2) (b := 0) (by decide) (by decide) (by decide) (by decide)
  have a11 := fun h => k_at9 (h := h) (a := 1) (b := 1) (by decide) (by decide) (by decide) (by decide)
  have a13 := fun h => k_at9 (h := h) (a := 1) (b := 3) (by decide) (by decide) (by decide) (by decide)
  have b3 := bslc3p (a := 0) (b := 0) (c := 4) (d := 0) (e := 0) (f := 3)
  have l1 : ∀ h, byVal (callW gp) h fid.zf0j [.is 3 true (pcs [(((0 : Int) : Rat), ((0 : Int) : Rat)), (((4 : Int) : Rat), ((0 : Int) : Rat)), (((0 : Int) : Rat), ((3 : Int) : Rat))]), .is 2 true [.int .i64 0, .int .i64 1, .bool false, .int .i64 0, .int .i64 2, .bool false]] = some (.tup [ra ((9 : Int) : Rat), .int .i64 0]) := fun h => lv_least (h := h)
  have l2 := fun h => lv_apart (h := h)
  have l3 : ∀ h, byVal (callW gp) h fid.zf0b [.is 0 true []] = some (.tup [.agg [.bool false, .str ⟨#[]⟩, .str ⟨#[]⟩, .bool false, .str ⟨#[]⟩, .str ⟨#[]⟩], .agg [.bool false, .str ⟨#[]⟩, .str ⟨#[]⟩, .bool false, .str ⟨#[]⟩, .str ⟨#[]⟩], .int .i64 1]) := fun h => lv_box (h := h)
  have l4 : ∀ h, byVal (callW gp) h fid.plan_At [.is 3 true [.int .i64 3, .int .i64 1, .bool false, .int .i64 2, .int .i64 0, .bool false, .int .i64 1, .int .i64 2, .bool false], .int .i64 1] = some (.is 2 false (ints [0, 2])) := fun h => lv_pat (h := h)
  have sm : ∀ h, byVal (callW gp) h fid.zf0q [.is 2 false (ints [0, 2]), .is 2 true (ints [0, 2])] = some (.bool true) := fun h => k_sameT (h := h) (l := [0, 2]) (m := [0, 2]) (by decide) (by decide)
  rw [zf0a.eq]
  unfold zf0a.f
  simp (disch := first | exact dD | fail) only [Wd, W2d, W3d, Nat.reduceAdd, Nat.reduceMul, Nat.reduceSub, a00, a40, a03, a20, a11, a13, o9, o1, b3, bslc2s, bslc3s, blds, l1, l2, l3, l4, bsl2i, sm, eqa_r, decide_true])
end
end Go.Proofs.YtiblnpnfaadmcaaGreat.Am

/- Section 09: PlanEnds, PlanApart. -/
set_option linter.unusedVariables false
set_option maxRecDepth 10000
set_option linter.unusedSimpArgs false
namespace Go.Proofs.YtiblnpnfaadmcaaGreat.Am
open Go

abbrev T4 := PT × PT × PT × PT
def T4.ok (t : T4) : Prop := t.1.ok ∧ t.2.1.ok ∧ t.2.2.1.ok ∧ t.2.2.2.ok
section
variable {h : Heap} {ax ay bx b_ cx cy dx dy : Rat}
end
end Go.Proofs.YtiblnpnfaadmcaaGreat.Am
